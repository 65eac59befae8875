/- NewWriter; 'known' of the statements about package codec. -/
import Derived.Test.YtbddllklagiajaaVc
namespace Go.Proofs.Ytbddllklagiajaa
open PCodecKeeps (info5)
open Go.RowKit Go.Proofs.YtbddllklagiajaaW.PrintWords Go.Proofs.YtbddllklagiajaaW.PrintLast Go.Proofs.YtbddllklagiajaaW.PrintMore
set_option linter.unusedVariables false
set_option linter.unusedSimpArgs false

theorem newWriter_calls (base : Nat) (w : World) (hb : base ≤ w.heap.size) :
    Calls Try.prog 26 #[] w fun e w' => e = .returned (.pointer (some ⟨w.heap.size, 0, none⟩)) ∧ Wr base w' w.heap.size (fun _ => False) [] 0 ∧ Below w.heap.size w w' ∧ w'.heap.size = w.heap.size + 1 := by
  go_enter Try.func26, Try.ntmps26
  go_wp2
  go_ret
  exact ⟨rfl, ⟨_, blk_new w _, hb, Kd.R_nil _ _ _ _ _⟩, below_alloc (Below.refl _ _) _, by simp⟩

theorem parse_a : PCodecNumbers.codec_Parse.f 20 [128, 0] = some (0, 0, 3) := by decide +kernel
theorem parse_b : PCodecNumbers.codec_Parse.f 20 [128] = some (0, 0, 28) := by decide +kernel
theorem known_out : strOfNums ((([] ++ enc 300) ++ enc (zig (-1))) ++ (enc 2 ++ bytesOf ⟨#[97, 98]⟩)) = ⟨#[172, 2, 1, 2, 97, 98]⟩ := by
  have h1 : enc 300 = [172, 2] := by rw [enc_big (by decide), enc_small (by decide)]; rfl
  have h2 : zig (-1) = 1 := by decide
  have h3 : enc 1 = [1] := enc_small (by decide)
  have h4 : enc 2 = [2] := enc_small (by decide)
  rw [h1, h2, h3, h4]
  decide +kernel

set_option maxHeartbeats 1000000 in
theorem known_calls (w : World) : Calls Try.prog 21 #[] w fun e w' => e = .returned (.bool true) ∧ Below w.heap.size w w' := by
  go_enter Try.func21, Try.ntmps21
  go_wp2_with fail
  refine (newWriter_calls w.heap.size w (Nat.le_refl _)).mono ?_
  rintro e w1 ⟨rfl, W1, B1, s1⟩
  have HW := Aside0.mk W1
  have HB := Aside0.mk B1
  clear W1 B1
  go_wp2_with fail
  refine (number_ok w.heap.size w.heap.size _ [] 300 w1 HW.out (fun _ h => h.elim) (by omega) (by omega) (by simp)).mono ?_
  rintro e w2 ⟨rfl, W2, F2⟩
  have B2 := HB.out.trans (F2.below (B := w.heap.size) (by rintro k (rfl | h); exact Nat.le_refl _; exact h.elim) HB.out.size)
  clear HW HB F2
  have HW := Aside0.mk W2.tight
  have HB := Aside0.mk B2
  clear W2 B2
  go_wp2_with fail
  refine (signed_ok w.heap.size w.heap.size _ _ (-1) w2 HW.out (fun _ h => ⟨h.2.1, h.2.2.2⟩) HB.out.size (by omega) (by omega) (by have := enc_len9 (n := 300) (by omega); simp; omega)).mono ?_
  rintro e w3 ⟨rfl, W3, F3⟩
  have B3 := HB.out.trans (F3.below (B := w.heap.size) (by rintro k (rfl | h); exact Nat.le_refl _; exact h.2.2.1) HB.out.size)
  clear HW HB F3
  have HW := Aside0.mk W3.tight
  have HB := Aside0.mk B3
  clear W3 B3
  go_wp2_with fail
  refine (text_ok w.heap.size w.heap.size _ _ _ w3 HW.out (fun _ h => ⟨h.2.1, h.2.2.2⟩) HB.out.size (by decide) (by have := enc_len9 (n := 300) (by omega); have := enc_len10 (n := zig (-1)) (by decide); simp; omega)).mono ?_
  rintro e w4 ⟨rfl, W4, F4⟩
  rw [show (⟨#[97, 98]⟩ : ByteArray).size = 2 from rfl] at W4
  have B4 := HB.out.trans (F4.below (B := w.heap.size) (by rintro k (rfl | h); exact Nat.le_refl _; exact h.2.2.1) HB.out.size)
  clear HW HB F4
  have HW := Aside0.mk W4.tight
  have HB := Aside0.mk B4
  clear W4 B4
  go_wp2_with fail
  refine (bytes_ok w.heap.size w.heap.size _ _ w4 HW.out (by have := enc_len9 (n := 300) (by omega); have := enc_len10 (n := zig (-1)) (by decide); have := enc_len9 (n := 2) (by omega); have : (bytesOf ⟨#[97, 98]⟩).length = 2 := rfl; simp [List.length_append] at *; omega)).mono ?_
  rintro e w5 ⟨v5, rfl, R5, B5⟩
  obtain ⟨A5, n5, c5, rfl⟩ := R_form' R5
  have B5' := below_step HB.out B5
  clear HW HB B5
  have HR := Aside0.mk R5
  have HB := Aside0.mk B5'
  have hx := Aside0.mk (Kd.R_reads' (R_block KB (W := w5) (base := w5.heap.size) (e := 5) (xs := [128, 0]) (inner := [.int .u8 128, .int .u8 0]) (ok := fun _ => True) (okp := fun _ => True) (Reps.snoc (ps := [128]) (cs := [.int .u8 128]) (Reps.snoc (Reps.none _ _) rfl rfl) rfl rfl) (fun _ h => h) trivial (Nat.le_refl _) (by simp))).2.2
  clear R5 B5'
  go_wp2_with fail
  refine (PCodecNumbers.codec_Parse.calls 20 _ _ [128, 0] _ _ _ _ hx.out (by simp) parse_a).mono ?_
  rintro e w6 ⟨rfl, D6⟩
  have B6 := (below_alloc (Below.refl _ _) _).trans (D6.below.mono (by simp))
  have B6' := below_step HB.out B6
  have R6 := Kd.R_below HR.out B6
  clear HR HB D6 hx B6
  have HR := Aside0.mk R6
  have HB := Aside0.mk B6'
  have hx := Aside0.mk (Kd.R_reads' (R_block KB (W := w6) (base := w6.heap.size) (e := 5) (xs := [128]) (inner := [.int .u8 128]) (ok := fun _ => True) (okp := fun _ => True) (Reps.snoc (Reps.none _ _) rfl rfl) (fun _ h => h) trivial (Nat.le_refl _) (by simp))).2.2
  clear R6 B6'
  go_wp2_with fail
  refine (PCodecNumbers.codec_Parse.calls 20 _ _ [128] _ _ _ _ hx.out (by simp) parse_b).mono ?_
  rintro e w7 ⟨rfl, D7⟩
  have B7 := (below_alloc (Below.refl _ _) _).trans (D7.below.mono (by simp))
  have B7' := below_step HB.out B7
  have R7 := Kd.R_reads' (Kd.R_below HR.out B7)
  have hcv := Kd.C_string (P := Try.prog) (c := c5) Try.underlying22 Try.underlying5 Try.underlying9 R7.2.2
  rw [← R7.1, known_out] at hcv
  have HB2 := Aside0.mk B7'
  clear HR HB D7 hx B7 R7 B7'
  go_wp2
  go_ret
  exact ⟨rfl, HB2.out⟩

end Go.Proofs.Ytbddllklagiajaa
