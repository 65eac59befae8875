/- The walk of CodecNumbers. -/
import Derived.Test.YtbddllklagiajaaLa
namespace Go.Proofs.Ytbddllklagiajaa
open PCodecKeeps (info5)
open Go.RowKit Go.Proofs.YtbddllklagiajaaW.PrintWords Go.Proofs.YtbddllklagiajaaW.PrintLast Go.Proofs.YtbddllklagiajaaW.PrintMore
set_option linter.unusedVariables false
set_option linter.unusedSimpArgs false

theorem append_neg (A : Option Addr) (m c : Nat) (l : List Int) (n : Int) (w : World) (hm : l.length = m) (hc : m ≤ c) (hC : KB.C w A m l) (hn : n < 0) :
    Calls Try.prog 22 #[.slice A m c, .int .i64 n] w fun e w' => ∃ A3 c3, e = .returned (.tuple #[.slice A3 0 c3, .int .i64 2]) ∧ Below w.heap.size w w' := by
  subst hm
  refine (PCodecNumbers.codec_Append.calls 40 A c l n [] 2 w hC hc (by unfold PCodecNumbers.codec_Append.f; rw [if_pos hn])).mono ?_
  rintro e w' ⟨v, rfl, hr, hb⟩
  obtain ⟨A3, c3, rfl⟩ := Kd.R_slice hr
  exact ⟨A3, c3, rfl, hb⟩

theorem size_neg (n : Int) (w : World) (hn : n < 0) : Calls Try.prog 23 #[.int .i64 n] w fun e w' => e = .returned (.int .i64 0) ∧ Below w.heap.size w w' :=
  PCodecNumbers.codec_Size.calls 40 n 0 w (by unfold PCodecNumbers.codec_Size.f; rw [if_pos hn])

theorem size_pos (n : Nat) (w : World) (hn : n < 9223372036854775808) : Calls Try.prog 23 #[.int .i64 n] w fun e w' => e = .returned (.int .i64 (enc n).length) ∧ Below w.heap.size w w' :=
  PCodecNumbers.codec_Size.calls 40 n _ w (by unfold PCodecNumbers.codec_Size.f; rw [if_neg (by omega), u64_of_nat (by omega), natural_f (k := 40) (by omega) (by omega)]; rfl)

theorem Natural_calls (n : Nat) (w : World) (hn : n < 18446744073709551616) : Calls Try.prog 24 #[.int .u64 n] w fun e w' => ∃ v, e = .returned v ∧ KB.R 5 w' w.heap.size (fun _ => True) v (enc n) ∧ Below w.heap.size w w' :=
  PCodecNumbers.replevinref01_Natural.calls 40 n (enc n) w (Natural_f hn (by omega))

theorem cut_C {w : World} {a : Option Addr} {l : List Int} {len : Nat} (hC : KB.C w a l.length l) (hl : l.length = min len 100) (m : Nat) (h : (m = 100 ∧ 100 < len) ∨ (m = len ∧ len ≤ 100)) : KB.C w a m l := by
  rw [hl] at hC
  rw [show m = min len 100 by omega]
  exact hC

theorem strOfNums_append (x y : List Int) : strOfNums (x ++ y) = strOfNums x ++ strOfNums y := by
  apply ByteArray.ext
  simp [strOfNums]

theorem prs_enc {n : Nat} (r : List Int) (h : n < 9223372036854775808) : prs (enc n ++ r) = ((n : Int), ((enc n).length : Int), 0) := by
  unfold prs
  rw [grp_enc r (show n < 128 ^ 9 by omega) (by omega)]
  rfl

attribute [local go_sem] min2_int
set_option maxHeartbeats 2000000 in
set_option maxRecDepth 100000 in
theorem codecNumbers_walk (n : Int) (a1 a2 : Option Addr) (len1 cap1 len2 cap2 m1 m2 : Nat) (l1 l2 : List Int) (w : World) (e1 : (if (100 : Int) < (len1 : Int) then (100 : Int) else (len1 : Int)) = (m1 : Int)) (e2 : (if (100 : Int) < (len2 : Int) then (100 : Int) else (len2 : Int)) = (m2 : Int)) (hl1 : l1.length = m1) (hl2 : l2.length = m2) (hC1 : KB.C w a1 m1 l1) (hC2 : KB.C w a2 m2 l2)
    (hB1 : Bytes l1) (hB2 : Bytes l2) (hm1 : m1 ≤ 100) (hm2 : m2 ≤ 100) (hc1 : m1 ≤ cap1) (hc2 : m2 ≤ cap2) (hn0 : -9223372036854775808 ≤ n) (hn1 : n ≤ 9223372036854775807) :
    Calls Try.prog 4 #[.int .i64 n, .slice a1 len1 cap1, .slice a2 len2 cap2] w fun e w' => e = .returned (.bool true) ∧ Below w.heap.size w w' := by
  have HC1 := Aside0.mk hC1
  have HC2 := Aside0.mk hC2
  have HBy1 := Aside0.mk hB1
  have HBy2 := Aside0.mk hB2
  have HL1 := Aside0.mk hl1
  have HL2 := Aside0.mk hl2
  clear hC1 hC2 hB1 hB2 hl1 hl2
  by_cases hneg : n < 0
  · have hneg1 : decide (n < 0) = true := decide_eq_true hneg
    go_enter Try.func4, Try.ntmps4
    go_wp2_with fail
    go_region
    go_wp2_with fail
    refine (append_neg _ _ _ l1 n _ HL1.out hc1 (Kd.C_drew HC1.out) hneg).mono ?_
    rintro e w1 ⟨A3, c3, rfl, B1⟩
    have HB := Aside0.mk (below_step (Below.refl _ _).drew B1)
    clear B1
    go_wp2_with fail
    refine (known_calls _).mono ?_
    rintro e w2 ⟨rfl, B2⟩
    have HB2 := Aside0.mk (below_step HB.out B2)
    clear B2 HB
    go_wp2_with fail
    refine (size_neg n _ hneg).mono ?_
    rintro e w3 ⟨rfl, B3⟩
    have HB3 := Aside0.mk (below_step HB2.out B3)
    clear B3 HB2
    go_wp2
    go_ret
    exact ⟨rfl, HB3.out⟩
  · have hneg1 : decide (n < 0) = false := decide_eq_false hneg
    obtain ⟨n, rfl⟩ := Int.eq_ofNat_of_zero_le (show 0 ≤ n by omega)
    have hn : n < 9223372036854775808 := by omega
    have hel := enc_len9 hn
    obtain ⟨en, hen⟩ : ∃ en, enc n = en := ⟨_, rfl⟩
    rw [hen] at hel
    have HEN := Aside0.mk hen
    clear hen
    go_enter Try.func4, Try.ntmps4
    go_wp2_with fail
    go_region
    go_wp2_with fail
    refine (append_calls _ _ _ l1 n _ HL1.out hc1 (Kd.C_drew HC1.out) hn (by omega)).mono ?_
    rintro e w1 ⟨v1, rfl, R1, B1⟩
    rw [HEN.out] at R1
    obtain ⟨A3, n3, c3, rfl⟩ := R_form' R1
    have HB := Aside0.mk (below_step (Below.refl _ _).drew B1)
    have HR1 := Aside0.mk R1
    clear B1 R1
    go_wp2_with fail
    refine (Natural_calls n _ (by omega)).mono ?_
    rintro e w2 ⟨v2, rfl, R2, B2⟩
    rw [HEN.out] at R2
    obtain ⟨A4, c4, rfl⟩ := Kd.R_slice R2
    obtain ⟨n4, hn4⟩ : ∃ n4, en.length = n4 := ⟨_, rfl⟩
    rw [hn4] at R2 hel ⊢
    have HN4 := Aside0.mk hn4
    have HB2 := Aside0.mk (below_step HB.out B2)
    have HR1' := Aside0.mk (Kd.R_below HR1.out B2)
    have HR2 := Aside0.mk R2
    have HE := Aside0.mk (R_block KB (W := w2) (base := w2.heap.size) (e := 5) (xs := []) (inner := []) (ok := fun _ => True) (okp := fun _ => True) (Reps.none _ _) (fun _ h => h) trivial (Nat.le_refl _) (by simp))
    clear B2 R2 HR1 HB hn4
    go_wp2_with (first | ((with_reducible refine gate_dst (N := 52) rfl ?_); at_builtin; refine Kd.R_append_row (Value.int .u8) 0 (h1 := fun _ => rfl) (w0 := w2) w2.heap.size rfl (.tmp 50) (.tmp 51) 22 5 (.int .u8 0) 1 rfl Try.underlying22 info5 rfl (by decide) _ [] en A4 n4 c4 (fun _ => True) rfl rfl ?aF ?aO ?aR ?aB ?aS ?aL ?_; (case aF => exact fun _ _ => trivial); (case aO => exact HE.out); (case aR => have := Kd.R_reads' HR2.out; rw [this.1]; exact Kd.C_alloc this.2.2 _); (case aB => exact below_alloc (Below.refl _ _) _); (case aS => simp); (case aL => simp; omega); intro v5 w5 hr5 hb5 hg5 hat5; obtain ⟨A5, n5, c5, rfl⟩ := R_form' hr5; have HR5 := Aside0.mk hr5; have HB5 := Aside0.mk hb5; clear hr5 hb5 hg5 hat5) | ((with_reducible refine gate_dst (N := 54) rfl ?_); at_builtin; go_loud (refine Kd.R_append_row (Value.int .u8) 0 (h1 := fun _ => rfl) (w0 := w2) w2.heap.size rfl (.tmp 52) (.tmp 53) 22 5 (.int .u8 0) 1 rfl Try.underlying22 info5 rfl (by decide) (.slice A5 n5 c5) ([] ++ en) l2 a2 m2 cap2 (fun _ => True) rfl rfl ?bF ?bO ?bR ?bB ?bS ?bL ?_; (case bF => exact fun _ _ => trivial); (case bO => exact HR5.out); (case bR => exact Kd.C_below HC2.out (below_step HB2.out HB5.out)); (case bB => exact HB5.out); (case bS => exact HB5.out.size); (case bL => have := HN4.out; simp; omega)); intro v6 w6 hr6 hb6 hg6 hat6; obtain ⟨A6, n6, c6, rfl⟩ := R_form' hr6; have HR6 := Aside0.mk hr6; have HB6 := Aside0.mk hb6; clear hr6 hb6 hg6 hat6))
    refine (parse_calls _ _ _ ([] ++ en ++ l2) _ (Kd.R_reads' HR6.out).1.symm (Kd.R_reads' HR6.out).2.1 (by rw [(Kd.R_reads' HR6.out).1]; exact (Kd.R_reads' HR6.out).2.2) (by
      intro x hx
      rw [List.nil_append] at hx
      rcases List.mem_append.1 hx with hx | hx
      · rw [← HEN.out] at hx; exact enc_bytes n x hx
      · exact HBy2.out x hx) (by rw [(Kd.R_reads' HR6.out).1]; have := HN4.out; have := HL2.out; simp; omega)).mono ?_
    rintro e w7 ⟨rfl, D7⟩
    rw [List.nil_append, ← HEN.out, prs_enc l2 hn, HEN.out, HN4.out]
    have HB7 := Aside0.mk (below_step (below_step (Below.refl _ _) HB6.out) D7.below)
    clear D7 HR5 HR6 HB5 HB6 HE
    go_wp2_with fail
    refine (known_calls _).mono ?_
    rintro e w8 ⟨rfl, B8⟩
    have hb8 := below_step HB7.out B8
    have HB8 := Aside0.mk (below_step HB2.out hb8)
    obtain ⟨s1, hs1⟩ : ∃ s1, strOfNums l1 = s1 := ⟨_, rfl⟩
    obtain ⟨s2, hs2⟩ : ∃ s2, strOfNums en = s2 := ⟨_, rfl⟩
    have hz1 : s1.size ≤ 100 := by rw [← hs1, strOfNums_size, HL1.out]; exact hm1
    have hz2 : s2.size ≤ 9 := by rw [← hs2, strOfNums_size, HN4.out]; exact hel
    have hcv1 := Kd.C_string (P := Try.prog) (c := c3) Try.underlying22 Try.underlying5 Try.underlying9 (Kd.R_reads' (Kd.R_below HR1'.out hb8)).2.2
    rw [← (Kd.R_reads' HR1'.out).1, strOfNums_append, hs1, hs2] at hcv1
    have hcv2 := Kd.C_string (P := Try.prog) (c := cap1) Try.underlying22 Try.underlying5 Try.underlying9 (Kd.C_below HC1.out HB8.out)
    rw [hs1] at hcv2
    have hcv3 := Kd.C_string (P := Try.prog) (c := c4) Try.underlying22 Try.underlying5 Try.underlying9 (Kd.R_reads' (Kd.R_below HR2.out hb8)).2.2
    rw [hs2, HN4.out] at hcv3
    clear B8 hb8 hs1 hs2 HR1' HR2 HB7 HB2
    go_wp2_with fail
    refine (size_pos n _ hn).mono ?_
    rintro e w9 ⟨rfl, B9⟩
    rw [HEN.out, HN4.out]
    have HB9 := Aside0.mk (below_step HB8.out B9)
    clear B9 hcv1 hcv2 hcv3 HB8
    go_wp2
    go_ret
    exact ⟨rfl, HB9.out⟩

end Go.Proofs.Ytbddllklagiajaa
