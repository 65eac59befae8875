/- The walk of CodecParses. What a Reader's methods read, without memory. The functions that a Reader hands to 'read'. Readers: their state in memory; NewReader; 'read' at each function that the methods hand to it. A Reader's methods. -/
import Derived.Test.YtbddllklagiajaaX1
import Derived.ProofKit
namespace Go.Proofs.Ytbddllklagiajaa
open PCodecKeeps (info5)
open Go.RowKit Go.Proofs.YtbddllklagiajaaW.PrintWords Go.Proofs.YtbddllklagiajaaW.PrintLast Go.Proofs.YtbddllklagiajaaW.PrintMore
set_option linter.unusedVariables false
set_option linter.unusedSimpArgs false

theorem parse_calls (A : Option Addr) (n c : Nat) (l : List Int) (w : World) (hn : l.length = n) (hc : n ≤ c) (hC : KB.C w A n l) (hb : Bytes l) (hl : n ≤ 9223372036854775806) :
    Calls Try.prog 19 #[.slice A n c] w fun e w' => e = .returned (.tuple #[.int .i64 (prs l).1, .int .i64 (prs l).2.1, .int .i64 (prs l).2.2]) ∧ Drawn0 w w' := by
  subst hn
  exact PCodecNumbers.codec_Parse.calls 40 A c l _ _ _ w hC hc (Parse_f l hl hb (by omega))

theorem refParse_calls (A : Option Addr) (n c : Nat) (l : List Int) (w : World) (hn : l.length = n) (hc : n ≤ c) (hC : KB.C w A n l) (hb : Bytes l) (hl : n ≤ 9223372036854775806) :
    Calls Try.prog 20 #[.slice A n c] w fun e w' => e = .returned (.tuple #[.int .i64 (prs l).1, .int .i64 (prs l).2.1, .int .i64 (prs l).2.2]) ∧ Drawn0 w w' := by
  subst hn
  exact PCodecKeeps.replevinref01_Parse.calls 40 A c l _ _ _ w hC hc (refParse_f l hl hb (by omega))

theorem append_f (l : List Int) (n : Nat) (hn : n < 9223372036854775808) (hl : l.length ≤ 140737488000000) : PCodecNumbers.codec_Append.f 40 l n = some (l ++ enc n, 0) := by
  have h1 := enc_len9 hn
  unfold PCodecNumbers.codec_Append.f
  rw [if_neg (by omega)]
  simp only [Option.bind_some, List.nil_append, List.length_nil, u64_of_nat (show n < 18446744073709551616 by omega), natural_f (k := 40) (show n < 18446744073709551616 by omega) (by omega)]
  rw [if_pos (by omega), if_pos (by omega)]

theorem append_calls (A : Option Addr) (m c : Nat) (l : List Int) (n : Nat) (w : World) (hm : l.length = m) (hc : m ≤ c) (hC : KB.C w A m l) (hn : n < 9223372036854775808) (hl : m ≤ 140737488000000) :
    Calls Try.prog 22 #[.slice A m c, .int .i64 n] w fun e w' => ∃ v, e = .returned (.tuple #[v, .int .i64 0]) ∧ KB.R 5 w' w.heap.size (fun _ => True) v (l ++ enc n) ∧ Below w.heap.size w w' := by
  subst hm
  exact PCodecNumbers.codec_Append.calls 40 A c l n _ _ w hC hc (append_f l n hn hl)

/-- What Parse answers, two ways. -/
theorem prs_ways (l : List Int) (hb : Bytes l) : (∃ f : Int, prs l = (0, 0, f) ∧ f ≠ 0) ∨ (∃ n k : Nat, prs l = ((n : Int), (k : Int), 0) ∧ n < 9223372036854775808 ∧ k ≤ l.length ∧ enc n = l.take k) := by
  have h9 := grp9_lt l
  unfold prs grp at *
  by_cases h1 : 9 ≤ lead l
  · rw [if_pos h1]; exact .inl ⟨3, rfl, by decide⟩
  rw [if_neg h1] at h9 ⊢
  by_cases h2 : l.length ≤ lead l
  · rw [if_pos h2]; exact .inl ⟨28, rfl, by decide⟩
  rw [if_neg h2] at h9 ⊢
  by_cases h3 : 0 < lead l ∧ l.getD (lead l) 0 = 0
  · rw [if_pos h3]; exact .inl ⟨3, rfl, by decide⟩
  rw [if_neg h3] at h9 ⊢
  exact .inr ⟨_, _, rfl, h9, show lead l + 1 ≤ l.length by omega, enc_val l hb (by omega) h3⟩

set_option maxHeartbeats 1000000 in
set_option maxRecDepth 100000 in
/-- From the place on where the bytes are cut: n of them. -/
theorem codecParses_walk (a0 : Option Addr) (len0 cap0 : Nat) (l : List Int) (w : World) (hl : l.length = min len0 100) (hC : KB.C w a0 l.length l) (hB : Bytes l) (hm : len0 ≤ 9223372036854775807) (hc : len0 ≤ cap0) :
    Calls Try.prog 3 #[.slice a0 len0 cap0] w fun e w' => e = .returned (.bool true) ∧ Below w.heap.size w w' := by
  have HC := Aside0.mk hC
  have HBy := Aside0.mk hB
  have HL := Aside0.mk hl
  rcases prs_ways l hB with ⟨f, hp, hf⟩ | ⟨n, k, hp, hn, hk, he⟩
  · have HP := Aside0.mk hp
    have hf1 : (f != 0) = true := bne_iff_ne.mpr hf
    have hf2 : (f == 0) = false := beq_eq_false_iff_ne.mpr hf
    clear hC hB hl hp hf
    go_enter Try.func3, Try.ntmps3
    go_wp2_with fail
    all_goals
      refine (parse_calls _ _ _ l _ (by have := HL.out; omega) (by omega) (by have := HC.out; rw [HL.out] at this; first | (rw [show min len0 100 = 100 by omega] at this; exact this) | (rw [show min len0 100 = len0 by omega] at this; exact this)) HBy.out (by omega)).mono ?_
      rintro e w1 ⟨rfl, D1⟩
      rw [HP.out]
      have HB := Aside0.mk D1.below
      clear D1
      go_wp2_with fail
      refine (refParse_calls _ _ _ l _ (by have := HL.out; omega) (by omega) (by have := Kd.C_below HC.out HB.out; rw [HL.out] at this; first | (rw [show min len0 100 = 100 by omega] at this; exact this) | (rw [show min len0 100 = len0 by omega] at this; exact this)) HBy.out (by omega)).mono ?_
      rintro e w2 ⟨rfl, D2⟩
      rw [HP.out]
      have HB2 := Aside0.mk (below_step HB.out D2.below)
      clear D2 HB
      go_wp2_with fail
      refine (known_calls _).mono ?_
      rintro e w3 ⟨rfl, B3⟩
      have HB := Aside0.mk (below_step HB2.out B3)
      clear B3
      go_wp2
      go_ret
      exact ⟨rfl, HB.out⟩
  · have HP := Aside0.mk hp
    clear hC hB hl hp
    go_enter Try.func3, Try.ntmps3
    go_wp2_with fail
    all_goals
      refine (parse_calls _ _ _ l _ (by have := HL.out; omega) (by omega) (by have := HC.out; rw [HL.out] at this; first | (rw [show min len0 100 = 100 by omega] at this; exact this) | (rw [show min len0 100 = len0 by omega] at this; exact this)) HBy.out (by omega)).mono ?_
      rintro e w1 ⟨rfl, D1⟩
      rw [HP.out]
      have HB := Aside0.mk D1.below
      clear D1
      go_wp2_with fail
      refine (refParse_calls _ _ _ l _ (by have := HL.out; omega) (by omega) (by have := Kd.C_below HC.out HB.out; rw [HL.out] at this; first | (rw [show min len0 100 = 100 by omega] at this; exact this) | (rw [show min len0 100 = len0 by omega] at this; exact this)) HBy.out (by omega)).mono ?_
      rintro e w2 ⟨rfl, D2⟩
      rw [HP.out]
      have HB2 := Aside0.mk (below_step HB.out D2.below)
      clear D2 HB
      go_wp2_with fail
      refine (append_calls _ _ _ [] n _ rfl (Nat.le_refl _) (Kd.C_nil _ _) hn (Nat.zero_le _)).mono ?_
      rintro e w3 ⟨v, rfl, R3, B3⟩
      obtain ⟨A3, n3, c3, rfl⟩ := R_form' R3
      have HB3 := Aside0.mk (below_step HB2.out B3)
      have hcv : ∀ W, Below w3.heap.size w3 W → (convert 22 9 (.slice A3 n3 c3)).run Try.prog W = .ok (.string (strOfNums (l.take k))) W := by
        intro W hW
        have h1 := Kd.R_reads' (Kd.R_below R3 hW)
        have h2 := Kd.C_string (P := Try.prog) (c := c3) Try.underlying22 Try.underlying5 Try.underlying9 h1.2.2
        rw [← h1.1, List.nil_append, he] at h2
        exact h2
      have hcw : ∀ W, Below w3.heap.size w3 W → (convert 22 9 (.slice a0 k cap0)).run Try.prog W = .ok (.string (strOfNums (l.take k))) W := by
        intro W hW
        have h1 := Kd.C_take (Kd.C_below (Kd.C_below HC.out HB3.out) hW) hk
        have h2 := Kd.C_string (P := Try.prog) (c := cap0) Try.underlying22 Try.underlying5 Try.underlying9 h1
        rw [show (l.take k).length = k by rw [List.length_take]; omega] at h2
        exact h2
      have hks : k ≤ cap0 := by have := HL.out; omega
      have HCV := Aside0.mk hcv
      have HCW := Aside0.mk hcw
      clear R3 B3 HB2 hcv hcw he
      obtain ⟨sx, hsx⟩ : ∃ sx, strOfNums (l.take k) = sx := ⟨_, rfl⟩
      rw [hsx] at HCV HCW
      clear hsx
      go_wp2_with fail
      refine start_ (n := 15) (S := fun w' => (convert 22 9 (.slice A3 n3 c3)).run Try.prog w' = .ok (.string sx) w' ∧ (convert 22 9 (.slice a0 k cap0)).run Try.prog w' = .ok (.string sx) w' ∧ True ∧ True) (ds := []) #[false, false, false, false, false, false, false, false, false, false, false, false, false, false, false] (by kernel_rfl) rfl rfl ⟨HCV.out _ (Below.refl _ _).drew, HCW.out _ (Below.refl _ _).drew, trivial, trivial⟩ (fun hHeld => ?_)
      refine one_ (i := 0) (N := some 65) #[true, false, false, false, false, false, false, false, false, false, false, false, false, false, false] rfl rfl (by kernel_rfl) (by decide) (fun K hK => ?_)
      refine goes_ Try.func21 (by kernel_rfl) rfl #[] (by rfl) rfl rfl (by simp) ?_
      refine (known_calls _).mono ?_
      rintro e w4 ⟨rfl, B4⟩
      refine ⟨_, rfl, ?_⟩
      have hw4 : Below w3.heap.size w3 w4 := below_step (Below.refl _ _).drew B4
      have HB4 := Aside0.mk (below_step HB3.out hw4)
      refine hK.out _ _ ⟨HCV.out _ hw4, HCW.out _ hw4, trivial, trivial⟩ (fun hHeld => ?_)
      clear hK K HCV HCW B4 hw4
      refine pure_ (i := 1) (N := some 66) (v := ?_) (a' := ?_) #[true, true, false, false, false, false, false, false, false, false, false, false, false, false, false] rfl rfl (by kernel_rfl) (fun _ _ _ h => h) (Or.inl ⟨by rfl, ?_⟩) ?_ ?_
      rotate_left
      · intro w'
        go_simp
        with_reducible rfl
      rotate_left
      · simp only [Act.put, List.setIfInBounds_toArray, List.set_cons_zero, List.set_cons_succ, i64_w, i32_w]
        rfl
      refine pure_ (i := 2) (N := some 67) (v := ?_) (a' := ?_) #[true, true, true, false, false, false, false, false, false, false, false, false, false, false, false] rfl rfl (by kernel_rfl) (fun _ _ _ h => h) (Or.inl ⟨by rfl, ?_⟩) ?_ ?_
      rotate_left
      · intro w'
        go_simp
        with_reducible rfl
      rotate_left
      · simp only [Act.put, List.setIfInBounds_toArray, List.set_cons_zero, List.set_cons_succ, i64_w, i32_w]
        rfl
      refine pure_ (i := 3) (N := some 68) (v := ?_) (a' := ?_) #[true, true, true, true, false, false, false, false, false, false, false, false, false, false, false] rfl rfl (by kernel_rfl) (fun _ _ _ h => h) (Or.inl ⟨by rfl, ?_⟩) ?_ ?_
      rotate_left
      · intro w'
        go_simp
        with_reducible rfl
      rotate_left
      · simp only [Act.put, List.setIfInBounds_toArray, List.set_cons_zero, List.set_cons_succ, i64_w, i32_w]
        rfl
      refine pure_ (i := 4) (N := some 69) (v := ?_) (a' := ?_) #[true, true, true, true, true, false, false, false, false, false, false, false, false, false, false] rfl rfl (by kernel_rfl) (fun _ _ _ h => h) (Or.inl ⟨by rfl, ?_⟩) ?_ ?_
      rotate_left
      · intro w'
        go_simp
        with_reducible rfl
      rotate_left
      · simp only [Act.put, List.setIfInBounds_toArray, List.set_cons_zero, List.set_cons_succ, i64_w, i32_w]
        rfl
      refine pure_ (i := 5) (N := some 70) (v := ?_) (a' := ?_) #[true, true, true, true, true, true, false, false, false, false, false, false, false, false, false] rfl rfl (by kernel_rfl) (fun _ _ _ h => h) (Or.inl ⟨by rfl, ?_⟩) ?_ ?_
      rotate_left
      · intro w'
        go_simp
        with_reducible rfl
      rotate_left
      · simp only [Act.put, List.setIfInBounds_toArray, List.set_cons_zero, List.set_cons_succ, i64_w, i32_w]
        rfl
      refine pure_ (i := 6) (N := some 71) (v := ?_) (a' := ?_) #[true, true, true, true, true, true, true, false, false, false, false, false, false, false, false] rfl rfl (by kernel_rfl) (fun _ _ _ h => h) (Or.inl ⟨by rfl, ?_⟩) ?_ ?_
      rotate_left
      · intro w'
        go_simp
        with_reducible rfl
      rotate_left
      · simp only [Act.put, List.setIfInBounds_toArray, List.set_cons_zero, List.set_cons_succ, i64_w, i32_w]
        rfl
      refine take_ (i := 7) (N := some 72) (v := ?_) (a' := ?_) #[true, true, true, true, true, true, true, true, false, false, false, false, false, false, false] rfl rfl (by kernel_rfl) (fun _ _ _ h => h) (Or.inl ⟨by rfl, ?_⟩) hHeld ?_ ?_
      rotate_left
      · rintro w' ⟨s0, s1, s2, s3⟩
        go_simp
        with_reducible rfl
      rotate_left
      · simp only [Act.put, List.setIfInBounds_toArray, List.set_cons_zero, List.set_cons_succ, i64_w, i32_w]
        rfl
      refine pure_ (i := 8) (N := some 73) (v := ?_) (a' := ?_) #[true, true, true, true, true, true, true, true, true, false, false, false, false, false, false] rfl rfl (by kernel_rfl) (fun _ _ _ h => h) (Or.inl ⟨by rfl, ?_⟩) ?_ ?_
      rotate_left
      · intro w'
        go_simp
        with_reducible rfl
      rotate_left
      · simp only [Act.put, List.setIfInBounds_toArray, List.set_cons_zero, List.set_cons_succ, i64_w, i32_w]
        rfl
      refine pure_ (i := 9) (N := some 74) (v := ?_) (a' := ?_) #[true, true, true, true, true, true, true, true, true, true, false, false, false, false, false] rfl rfl (by kernel_rfl) (fun _ _ _ h => h) (Or.inl ⟨by rfl, ?_⟩) ?_ ?_
      rotate_left
      · intro w'
        go_simp
        with_reducible rfl
      rotate_left
      · simp only [Act.put, List.setIfInBounds_toArray, List.set_cons_zero, List.set_cons_succ, i64_w, i32_w]
        rfl
      refine pure_ (i := 10) (N := some 75) (v := ?_) (a' := ?_) #[true, true, true, true, true, true, true, true, true, true, true, false, false, false, false] rfl rfl (by kernel_rfl) (fun _ _ _ h => h) (Or.inl ⟨by rfl, ?_⟩) ?_ ?_
      rotate_left
      · intro w'
        go_simp
        with_reducible rfl
      rotate_left
      · simp only [Act.put, List.setIfInBounds_toArray, List.set_cons_zero, List.set_cons_succ, i64_w, i32_w]
        rfl
      refine take_ (i := 11) (N := some 76) (v := ?_) (a' := ?_) #[true, true, true, true, true, true, true, true, true, true, true, true, false, false, false] rfl rfl (by kernel_rfl) (fun _ _ _ h => h) (Or.inl ⟨by rfl, ?_⟩) hHeld ?_ ?_
      rotate_left
      · rintro w' ⟨s0, s1, s2, s3⟩
        go_simp
        with_reducible rfl
      rotate_left
      · simp only [Act.put, List.setIfInBounds_toArray, List.set_cons_zero, List.set_cons_succ, i64_w, i32_w]
        rfl
      refine pure_ (i := 12) (N := some 77) (v := ?_) (a' := ?_) #[true, true, true, true, true, true, true, true, true, true, true, true, true, false, false] rfl rfl (by kernel_rfl) (fun _ _ _ h => h) (Or.inl ⟨by rfl, ?_⟩) ?_ ?_
      rotate_left
      · intro w'
        go_simp
        with_reducible rfl
      rotate_left
      · simp only [Act.put, List.setIfInBounds_toArray, List.set_cons_zero, List.set_cons_succ, i64_w, i32_w]
        rfl
      refine pure_ (i := 13) (N := some 78) (v := ?_) (a' := ?_) #[true, true, true, true, true, true, true, true, true, true, true, true, true, true, false] rfl rfl (by kernel_rfl) (fun _ _ _ h => h) (Or.inl ⟨by rfl, ?_⟩) ?_ ?_
      rotate_left
      · intro w'
        go_simp
        with_reducible rfl
      rotate_left
      · simp only [Act.put, List.setIfInBounds_toArray, List.set_cons_zero, List.set_cons_succ, i64_w, i32_w]
        rfl
      refine pure_ (i := 14) (N := some 2) (v := ?_) (a' := ?_) #[true, true, true, true, true, true, true, true, true, true, true, true, true, true, true] rfl rfl (by kernel_rfl) (fun _ _ _ h => h) (Or.inl ⟨by rfl, ?_⟩) ?_ ?_
      rotate_left
      · intro w'
        go_simp
        with_reducible rfl
      rotate_left
      · simp only [Act.put, List.setIfInBounds_toArray, List.set_cons_zero, List.set_cons_succ, i64_w, i32_w]
        rfl
      refine done_ (by kernel_rfl) ?_
      go_wp2
      go_ret
      exact ⟨rfl, HB4.out⟩

end Go.Proofs.Ytbddllklagiajaa

set_option linter.unusedVariables false
set_option linter.unusedSimpArgs false
namespace Go.Proofs.Ytbddllklagiajaa
open Go.RowKit Go.Proofs.YtbddllklagiajaaW.PrintWords Go.Proofs.YtbddllklagiajaaW.PrintLast Go.Proofs.YtbddllklagiajaaW.PrintMore

/-- The signed number for which a natural number stands. -/
def unzig (u : Nat) : Int := if u % 2 = 1 then -1 - ((u / 2 : Nat) : Int) else ((u / 2 : Nat) : Int)

def numR (most : Int) (l : List Int) : Int × Int × Int := if (prs l).2.2 = 0 ∧ most < (prs l).1 then (0, 0, 2) else prs l
def sgnR (l : List Int) : Int × Int × Int := if (grpR 10 l).2.2 = 0 then (unzig (grpR 10 l).1, ((grpR 10 l).2.1 : Int), 0) else (0, 0, ((grpR 10 l).2.2 : Int))
def flgR (l : List Int) : Bool × Int × Int := if l.length = 0 then (false, 0, 28) else if 1 < l.getD 0 0 then (false, 0, 3) else (l.getD 0 0 == 1, 1, 0)
def txtR (most : Int) (l : List Int) : ByteArray × Int × Int :=
  if (prs l).2.2 ≠ 0 then (⟨#[]⟩, 0, (prs l).2.2)
  else if min most 16777216 < (prs l).1 then (⟨#[]⟩, 0, 5)
  else if (l.length : Int) - (prs l).2.1 < (prs l).1 then (⟨#[]⟩, 0, 28)
  else (strOfNums ((l.drop (prs l).2.1.toNat).take (prs l).1.toNat), (prs l).2.1 + (prs l).1, 0)

/-- Parse, three ways. -/
theorem prs_cases (l : List Int) (hb : Bytes l) : (prs l = (0, 0, 3)) ∨ (prs l = (0, 0, 28)) ∨ (∃ n k : Nat, prs l = ((n : Int), (k : Int), 0) ∧ n < 9223372036854775808 ∧ 0 < k ∧ k ≤ 9 ∧ k ≤ l.length ∧ enc n = l.take k) := by
  have h9 := grp9_lt l
  unfold prs grp at *
  by_cases h1 : 9 ≤ lead l
  · rw [if_pos h1]; exact .inl rfl
  rw [if_neg h1] at h9 ⊢
  by_cases h2 : l.length ≤ lead l
  · rw [if_pos h2]; exact .inr (.inl rfl)
  rw [if_neg h2] at h9 ⊢
  by_cases h3 : 0 < lead l ∧ l.getD (lead l) 0 = 0
  · rw [if_pos h3]; exact .inl rfl
  rw [if_neg h3] at h9 ⊢
  exact .inr (.inr ⟨_, _, rfl, h9, show 0 < lead l + 1 by omega, show lead l + 1 ≤ 9 by omega, show lead l + 1 ≤ l.length by omega, enc_val l hb (by omega) h3⟩)

/-- groups of at most ten, three ways. -/
theorem grpR_cases (l : List Int) (hb : Bytes l) : (grpR 10 l = (0, 0, 3)) ∨ (grpR 10 l = (0, 0, 28)) ∨
    (∃ n k : Nat, grpR 10 l = (n, k, 0) ∧ n < 18446744073709551616 ∧ 0 < k ∧ k ≤ 10 ∧ k ≤ l.length ∧ enc n = l.take k) := by
  unfold grpR
  by_cases h0 : (grp 10 l).2.2 = 0 ∧ lead l = 9 ∧ 1 < l.getD (lead l) 0
  · rw [if_pos h0]; exact .inl rfl
  rw [if_neg h0]
  unfold grp at h0 ⊢
  by_cases h1 : 10 ≤ lead l
  · rw [if_pos h1]; exact .inl rfl
  rw [if_neg h1] at h0 ⊢
  by_cases h2 : l.length ≤ lead l
  · rw [if_pos h2]; exact .inr (.inl rfl)
  rw [if_neg h2] at h0 ⊢
  by_cases h3 : 0 < lead l ∧ l.getD (lead l) 0 = 0
  · rw [if_pos h3]; exact .inl rfl
  rw [if_neg h3] at h0 ⊢
  have h4 := val_lt64 l hb (by omega) (by omega) (fun hh => h0 ⟨rfl, hh⟩)
  exact .inr (.inr ⟨_, _, rfl, h4, show 0 < lead l + 1 by omega, show lead l + 1 ≤ 10 by omega, show lead l + 1 ≤ l.length by omega, enc_val l hb (by omega) h3⟩)

/-- codec's own groups against the reference's: the tenth byte. -/
theorem grpW_cases (l : List Int) (hb : Bytes l) :
    (grpW 10 l).2.2 ≠ 0 ∧ sgnR l = (0, 0, (grpW 10 l).2.2) ∨
    (∃ n k : Nat, grpW 10 l = ((n : Int), (k : Int), 0) ∧ n < 18446744073709551616 ∧ k ≤ l.length ∧ (k = 10 → 9 < l.length) ∧
      ((k = 10 ∧ 1 < l.getD 9 0 ∧ sgnR l = (0, 0, 3)) ∨ (¬ (k = 10 ∧ 1 < l.getD 9 0) ∧ sgnR l = (unzig n, (k : Int), 0)))) := by
  by_cases he : (grp 10 l).2.2 = 0
  · right
    have hlead : (grp 10 l) = (val (l.take (lead l + 1)), lead l + 1, 0) ∧ lead l < l.length ∧ lead l ≤ 9 := by
      unfold grp at he ⊢
      by_cases h1 : 10 ≤ lead l
      · rw [if_pos h1] at he; simp at he
      rw [if_neg h1] at he ⊢
      by_cases h2 : l.length ≤ lead l
      · rw [if_pos h2] at he; simp at he
      rw [if_neg h2] at he ⊢
      by_cases h3 : 0 < lead l ∧ l.getD (lead l) 0 = 0
      · rw [if_pos h3] at he; simp at he
      rw [if_neg h3]
      exact ⟨rfl, by omega, by omega⟩
    obtain ⟨hg, hl1, hl2⟩ := hlead
    by_cases h9 : lead l = 9 ∧ 1 < l.getD (lead l) 0
    · refine ⟨val (l.take (lead l + 1)) % 18446744073709551616, lead l + 1, by unfold grpW; rw [hg]; rfl, by omega, by omega, fun _ => by omega, .inl ⟨by omega, by rw [← h9.1]; exact h9.2, ?_⟩⟩
      have hR : grpR 10 l = (0, 0, 3) := by unfold grpR; rw [if_pos ⟨he, h9⟩]
      unfold sgnR
      rw [hR]
      rfl
    · have hv := val_lt64 l hb hl1 hl2 h9
      refine ⟨val (l.take (lead l + 1)) % 18446744073709551616, lead l + 1, by unfold grpW; rw [hg]; rfl, by omega, by omega, fun _ => by omega, .inr ⟨fun hh => h9 ⟨by omega, by rw [show lead l = 9 by omega]; exact hh.2⟩, ?_⟩⟩
      have hR : grpR 10 l = grp 10 l := by unfold grpR; rw [if_neg (fun hh => h9 hh.2)]
      unfold sgnR
      rw [hR, hg, Nat.mod_eq_of_lt hv]
      rfl
  · left
    unfold grpW
    refine ⟨by simpa using he, ?_⟩
    have hR : grpR 10 l = grp 10 l := by unfold grpR; rw [if_neg (fun hh => he hh.1)]
    unfold sgnR
    rw [hR, if_neg he]

theorem numR_size (most : Int) (l : List Int) (hb : Bytes l) (h : (numR most l).2.2 = 0) : 0 < (numR most l).2.1 ∧ (numR most l).2.1 ≤ l.length := by
  unfold numR at h ⊢
  by_cases h1 : (prs l).2.2 = 0 ∧ most < (prs l).1
  · rw [if_pos h1] at h; simp at h
  rw [if_neg h1] at h ⊢
  rcases prs_cases l hb with hr | hr | ⟨n, k, hr, _, h3, h4, h5, _⟩
  · rw [hr] at h; simp at h
  · rw [hr] at h; simp at h
  · rw [hr]; simp; omega
theorem sgnR_size (l : List Int) (hb : Bytes l) (h : (sgnR l).2.2 = 0) : 0 < (sgnR l).2.1 ∧ (sgnR l).2.1 ≤ l.length := by
  unfold sgnR at h ⊢
  rcases grpR_cases l hb with hr | hr | ⟨n, k, hr, _, h3, h4, h5, _⟩
  · rw [hr] at h; simp at h
  · rw [hr] at h; simp at h
  · rw [hr]; simp; omega
theorem flgR_size (l : List Int) (h : (flgR l).2.2 = 0) : 0 < (flgR l).2.1 ∧ (flgR l).2.1 ≤ l.length := by
  unfold flgR at h ⊢
  by_cases h1 : l.length = 0
  · rw [if_pos h1] at h; simp at h
  rw [if_neg h1] at h ⊢
  by_cases h2 : 1 < l.getD 0 0
  · rw [if_pos h2] at h; simp at h
  rw [if_neg h2]
  simp; omega
theorem txtR_size (most : Int) (l : List Int) (hb : Bytes l) (h : (txtR most l).2.2 = 0) : 0 < (txtR most l).2.1 ∧ (txtR most l).2.1 ≤ l.length := by
  unfold txtR at h ⊢
  rcases prs_cases l hb with hr | hr | ⟨n, k, hr, _, h3, h4, h5, _⟩
  · rw [hr, if_pos (by simp)] at h; simp at h
  · rw [hr, if_pos (by simp)] at h; simp at h
  · rw [hr, if_neg (by simp)] at h ⊢
    by_cases h6 : min most 16777216 < (n : Int)
    · rw [if_pos h6] at h; simp at h
    rw [if_neg h6] at h ⊢
    by_cases h7 : (l.length : Int) - (k : Int) < (n : Int)
    · rw [if_pos h7] at h; simp at h
    rw [if_neg h7]
    dsimp only
    omega

/-- A value read, or not. -/
def rStep {α : Type} (z : α) (r : α × Int × Int) (s : Nat × Int) : α × Nat × Int := if s.2 = 0 then (if r.2.2 = 0 then (r.1, s.1 + r.2.1.toNat, 0) else (z, s.1, r.2.2)) else (z, s.1, s.2)

end Go.Proofs.Ytbddllklagiajaa

namespace Go.Proofs.Ytbddllklagiajaa
open PCodecKeeps (info5)
open Go.RowKit Go.Proofs.YtbddllklagiajaaW.PrintWords Go.Proofs.YtbddllklagiajaaW.PrintLast Go.Proofs.YtbddllklagiajaaW.PrintMore
set_option linter.unusedVariables false
set_option linter.unusedSimpArgs false

theorem unzig_odd {u : Nat} (h : u % 2 = 1) : -1 - ((u / 2 : Nat) : Int) = unzig u := by unfold unzig; rw [if_pos h]
theorem unzig_even {u : Nat} (h : ¬ u % 2 = 1) : ((u / 2 : Nat) : Int) = unzig u := by unfold unzig; rw [if_neg h]

set_option maxHeartbeats 1000000 in
set_option maxRecDepth 100000 in
theorem numFn_calls (A : Option Addr) (n c bx : Nat) (most : Int) (l : List Int) (w : World) (hn : l.length = n) (hc : n ≤ c) (hC : KB.C w A n l) (hb : Bytes l) (hl : n ≤ 9223372036854775806) (hcell : w.cell? ⟨bx, 0, none⟩ = some (.int .i64 most)) :
    Calls Try.prog 96 #[.slice A n c, .pointer (some ⟨bx, 0, none⟩)] w fun e w' => e = .returned (.tuple #[.int .i64 (numR most l).1, .int .i64 (numR most l).2.1, .int .i64 (numR most l).2.2]) ∧ Drawn0 w w' := by
  have HC := Aside0.mk hC
  have HBy := Aside0.mk hb
  obtain ⟨⟨r1, r2, r3⟩, hr⟩ : ∃ r, prs l = r := ⟨_, rfl⟩
  have HR := Aside0.mk hr
  by_cases he : r3 = 0
  · by_cases hm : most < r1
    · have hs : numR most l = (0, 0, 2) := by unfold numR; rw [hr, if_pos ⟨he, hm⟩]
      rw [hs]
      subst he
      have hm1 : decide (most < r1) = true := decide_eq_true hm
      clear hC hb hr hs
      go_enter Try.func96, Try.ntmps96
      go_wp2_with fail
      refine (parse_calls A n c l w hn hc HC.out HBy.out hl).mono ?_
      rw [HR.out]
      rintro e w1 ⟨rfl, ⟨m, rfl⟩⟩
      go_wp2
      go_ret3
      exact ⟨rfl, ⟨⟨m, rfl⟩⟩⟩
    · have hs : numR most l = (r1, r2, r3) := by unfold numR; rw [hr, if_neg (fun h => hm h.2)]
      rw [hs]
      subst he
      have hm1 : decide (most < r1) = false := decide_eq_false hm
      clear hC hb hr hs
      go_enter Try.func96, Try.ntmps96
      go_wp2_with fail
      refine (parse_calls A n c l w hn hc HC.out HBy.out hl).mono ?_
      rw [HR.out]
      rintro e w1 ⟨rfl, ⟨m, rfl⟩⟩
      go_wp2
      go_ret3
      exact ⟨rfl, ⟨⟨m, rfl⟩⟩⟩
  · have hs : numR most l = (r1, r2, r3) := by unfold numR; rw [hr, if_neg (fun h => he h.1)]
    rw [hs]
    have he1 : (r3 == 0) = false := beq_eq_false_iff_ne.mpr he
    clear hC hb hr hs
    go_enter Try.func96, Try.ntmps96
    go_wp2_with fail
    refine (parse_calls A n c l w hn hc HC.out HBy.out hl).mono ?_
    rw [HR.out]
    rintro e w1 ⟨rfl, ⟨m, rfl⟩⟩
    go_wp2
    go_ret3
    exact ⟨rfl, ⟨⟨m, rfl⟩⟩⟩

set_option maxHeartbeats 2000000 in
set_option maxRecDepth 100000 in
theorem txtFn_calls (A : Option Addr) (n c bx : Nat) (most : Int) (l : List Int) (w : World) (hn : l.length = n) (hc : n ≤ c) (hC : KB.C w A n l) (hb : Bytes l) (hl : n ≤ 4611686018427387904) (hcell : w.cell? ⟨bx, 0, none⟩ = some (.int .i64 most)) :
    Calls Try.prog 100 #[.slice A n c, .pointer (some ⟨bx, 0, none⟩)] w fun e w' => e = .returned (.tuple #[.string (txtR most l).1, .int .i64 (txtR most l).2.1, .int .i64 (txtR most l).2.2]) ∧ Drawn0 w w' := by
  have HC := Aside0.mk hC
  have HBy := Aside0.mk hb
  have hways : (∃ f : Int, prs l = (0, 0, f) ∧ f ≠ 0) ∨ (∃ n k : Nat, prs l = ((n : Int), (k : Int), 0) ∧ n < 9223372036854775808 ∧ 0 < k ∧ k ≤ 9 ∧ k ≤ l.length) := by
    rcases prs_cases l hb with h | h | ⟨n, k, h1, h2, h3, h4, h5, _⟩
    · exact .inl ⟨3, h, by decide⟩
    · exact .inl ⟨28, h, by decide⟩
    · exact .inr ⟨n, k, h1, h2, h3, h4, h5⟩
  obtain ⟨mm, hmm⟩ : ∃ mm, min most 16777216 = mm := ⟨_, rfl⟩
  have hif : (if (16777216 : Int) < most then (16777216 : Int) else most) = mm := by rw [← hmm]; omega
  have hmm2 : mm ≤ 16777216 := by omega
  rcases hways with ⟨f, hr, hf⟩ | ⟨r, k, hr, hr1, hk0, hk9, hkl⟩
  · have HR := Aside0.mk hr
    have hs : txtR most l = (⟨#[]⟩, 0, f) := by unfold txtR; rw [hr, if_pos hf]
    rw [hs]
    have hf1 : (f != 0) = true := bne_iff_ne.mpr hf
    clear hC hb hr hs hmm hif
    go_enter Try.func100, Try.ntmps100
    go_wp2_with fail
    refine (parse_calls A n c l w hn hc HC.out HBy.out (by omega)).mono ?_
    rw [HR.out]
    rintro e w1 ⟨rfl, ⟨m, rfl⟩⟩
    go_wp2
    go_ret3
    exact ⟨rfl, ⟨⟨m, rfl⟩⟩⟩
  · have HR := Aside0.mk hr
    by_cases h1 : mm < (r : Int)
    · have hs : txtR most l = (⟨#[]⟩, 0, 5) := by unfold txtR; rw [hr, if_neg (by simp), hmm, if_pos h1]
      rw [hs]
      have hd : decide (mm < (r : Int)) = true := decide_eq_true h1
      clear hC hb hr hs hmm
      go_enter Try.func100, Try.ntmps100
      go_wp2_with fail
      refine (parse_calls A n c l w hn hc HC.out HBy.out (by omega)).mono ?_
      rw [HR.out]
      rintro e w1 ⟨rfl, ⟨m, rfl⟩⟩
      go_wp2
      go_ret3
      exact ⟨rfl, ⟨⟨m, rfl⟩⟩⟩
    · have hd : decide (mm < (r : Int)) = false := decide_eq_false h1
      by_cases h2 : (n : Int) - (k : Int) < (r : Int)
      · have hs : txtR most l = (⟨#[]⟩, 0, 28) := by unfold txtR; rw [hr, if_neg (by simp), hmm, if_neg h1, hn, if_pos h2]
        rw [hs]
        have hd2 : decide ((n : Int) - (k : Int) < (r : Int)) = true := decide_eq_true h2
        have hkn : k ≤ n := by omega
        clear hC hb hr hs hmm
        go_enter Try.func100, Try.ntmps100
        go_wp2_with fail
        refine (parse_calls A n c l w hn hc HC.out HBy.out (by omega)).mono ?_
        rw [HR.out]
        rintro e w1 ⟨rfl, ⟨m, rfl⟩⟩
        go_wp2
        go_ret3
        exact ⟨rfl, ⟨⟨m, rfl⟩⟩⟩
      · have hs : txtR most l = (strOfNums ((l.drop k).take r), (k : Int) + r, 0) := by unfold txtR; rw [hr, if_neg (by simp), hmm, if_neg h1, hn, if_neg h2]; rfl
        rw [hs]
        have hd2 : decide ((n : Int) - (k : Int) < (r : Int)) = false := decide_eq_false h2
        have hkn : k + r ≤ n := by omega
        obtain ⟨sx, hsx⟩ : ∃ sx, strOfNums ((l.drop k).take r) = sx := ⟨_, rfl⟩
        by_cases hck : c = k
        · have hr0 : r = 0 := by omega
          subst hr0
          subst hck
          have hcv : ∀ m, (convert 22 9 (.slice A 0 0)).run Try.prog (w.drewN m) = .ok (.string sx) (w.drewN m) := by
            intro m
            rw [← hsx]
            exact Kd.C_string (P := Try.prog) (c := 0) Try.underlying22 Try.underlying5 Try.underlying9 (show KB.C (w.drewN m) A 0 [] from ⟨rfl, by omega, fun h => absurd h (by omega)⟩)
          rw [hsx]
          have hc0 : decide (mm < ((0 : Nat) : Int)) = false := hd
          clear hC hb hr hs hmm hsx hd
          go_enter Try.func100, Try.ntmps100
          go_wp2_with fail
          refine (parse_calls A n c l w hn hc HC.out HBy.out (by omega)).mono ?_
          rw [HR.out]
          rintro e w1 ⟨rfl, ⟨m, rfl⟩⟩
          have hcm := hcv m
          clear hcv
          go_wp2
          go_ret3
          exact ⟨rfl, ⟨⟨m, rfl⟩⟩⟩
        · have hmid := Kd.C_mid (xs := l) (c := c) (lo := k) (hi := k + r) (by rw [hn]; exact HC.out) (by omega) (by omega) (by omega)
          rw [if_neg hck, show ((l.take (k + r)).drop k) = (l.drop k).take r by rw [List.drop_take]; congr 1; omega] at hmid
          have hln : ((l.drop k).take r).length = r := by rw [List.length_take, List.length_drop]; omega
          rw [hln] at hmid
          have hcv : ∀ m, (convert 22 9 (.slice (A.map (·.add k)) r (c - k))).run Try.prog (w.drewN m) = .ok (.string sx) (w.drewN m) := by
            intro m
            rw [← hsx]
            refine Kd.C_string (P := Try.prog) (c := c - k) Try.underlying22 Try.underlying5 Try.underlying9 (Kd.C_drewN ?_ m)
            simpa [Kd.int, Kd.scalar] using hmid
          rw [hsx]
          have hckb : ¬ c = k := hck
          clear hC hb hr hs hmm hsx hmid hln
          go_enter Try.func100, Try.ntmps100
          go_wp2_with fail
          refine (parse_calls A n c l w hn hc HC.out HBy.out (by omega)).mono ?_
          rw [HR.out]
          rintro e w1 ⟨rfl, ⟨m, rfl⟩⟩
          have hcm := hcv m
          clear hcv
          go_wp2
          go_ret3
          exact ⟨rfl, ⟨⟨m, rfl⟩⟩⟩

end Go.Proofs.Ytbddllklagiajaa

namespace Go.Proofs.Ytbddllklagiajaa
open PCodecKeeps (info5)
open Go.RowKit Go.Proofs.YtbddllklagiajaaW.PrintWords Go.Proofs.YtbddllklagiajaaW.PrintLast Go.Proofs.YtbddllklagiajaaW.PrintMore
set_option linter.unusedVariables false
set_option linter.unusedSimpArgs false

/-- A Reader lies at block g: its bytes, how many have been read, its error. -/
def Rd (base : Nat) (w : World) (g : Nat) (P : Nat → Prop) (b : List Int) (at_ : Nat) (f : Int) : Prop :=
  ∃ A n c, w.heap[g]? = some (.cells #[.slice A n c, .int .i64 (at_ : Int), .int .i64 f] 111 (0, 0)) ∧ base ≤ g ∧ KB.R 5 w base P (.slice A n c) b ∧ at_ ≤ b.length

namespace Rd
variable {base g : Nat} {w w' : World} {P P' S : Nat → Prop} {b : List Int} {at_ : Nat} {f : Int}
theorem mono (h : Rd base w g P b at_ f) (hp : ∀ k, P k → P' k) : Rd base w g P' b at_ f := by
  obtain ⟨A, n, c, hb, hg, hr, ha⟩ := h
  exact ⟨A, n, c, hb, hg, Kd.R_mono hr hp, ha⟩
theorem frm (h : Rd base w g P b at_ f) (hk : Frm w w' S) (hg : ¬ S g) (hS : ∀ k, P k → ¬ S k) : Rd base w' g P b at_ f := by
  obtain ⟨A, n, c, hb, hg', hr, ha⟩ := h
  exact ⟨A, n, c, hk.blk hb hg, hg', Kd.R_kept hr hk.kept hS, ha⟩
theorem tight (h : Rd base w g P b at_ f) : Rd base w g (fun k => P k ∧ k ≠ g ∧ base ≤ k ∧ k < w.heap.size) b at_ f := by
  obtain ⟨A, n, c, hb, hg', hr, ha⟩ := h
  refine ⟨A, n, c, hb, hg', ?_, ha⟩
  have h1 := Kd.R_types hr hb (by intro q hq; simp [KB, Kd.int, Kd.scalar] at hq; omega)
  exact Kd.R_mono (Kd.R_bound h1) (fun k hk => ⟨hk.1.1, hk.1.2, hk.2.1, hk.2.2.1⟩)
theorem lt (h : Rd base w g P b at_ f) : g < w.heap.size := by
  obtain ⟨A, n, c, hb, _⟩ := h
  exact blk_lt hb
theorem len (h : Rd base w g P b at_ f) : at_ ≤ b.length := by
  obtain ⟨A, n, c, _, _, _, ha⟩ := h
  exact ha
end Rd

set_option maxHeartbeats 800000 in
theorem newReader_calls (base : Nat) (A : Option Addr) (n c : Nat) (l : List Int) (w : World) (hb : base ≤ w.heap.size) (hl : l.length = n) (hC : KB.C w A n l) (hn : n ≤ 140737488355328) :
    Calls Try.prog 31 #[.slice A n c] w fun e w' => ∃ g, e = .returned (.pointer (some ⟨g, 0, none⟩)) ∧ Rd base w' g (fun k => w.heap.size ≤ k) l 0 0 ∧ w.heap.size ≤ g ∧ Below w.heap.size w w' := by
  have HC := Aside0.mk hC
  have HL := Aside0.mk hl
  have HE := Aside0.mk (R_block KB (W := w) (base := w.heap.size) (e := 5) (xs := []) (inner := []) (ok := fun k => w.heap.size ≤ k) (okp := fun k => w.heap.size ≤ k) (Reps.none _ _) (fun _ h => h) (Nat.le_refl _) (Nat.le_refl _) (by simp))
  clear hC hl
  go_enter Try.func31, Try.ntmps31
  go_wp2_with ((with_reducible refine gate_dst (N := 5) rfl ?_); at_builtin; refine Kd.R_append_row (Value.int .u8) 0 (h1 := fun _ => rfl) (w0 := w) w.heap.size rfl (.tmp 3) (.tmp 4) 22 5 (.int .u8 0) 1 rfl Try.underlying22 info5 rfl (by decide) _ [] l A n c (fun k => w.heap.size ≤ k) rfl rfl ?aF ?aO ?aR ?aB ?aS ?aL ?_; (case aF => exact fun k hk => by rw [World.size_alloc] at hk; omega); (case aO => exact HE.out); (case aR => exact Kd.C_alloc HC.out _); (case aB => exact below_alloc (Below.refl _ _) _); (case aS => simp); (case aL => simp; omega); intro v3 w3 hr3 hb3 hg3 hat3; obtain ⟨A3, n3, c3, rfl⟩ := R_form' hr3; have HR3 := Aside0.mk hr3; have HB3 := Aside0.mk hb3; clear hr3 hb3 hg3 hat3)
  go_ret
  have hs3 := HB3.out.size
  exact ⟨w3.heap.size, rfl, ⟨A3, n3, c3, blk_new w3 _, by omega, Kd.R_lower (Kd.R_alloc HR3.out _) hb, Nat.zero_le _⟩, hs3, below_alloc HB3.out _⟩

theorem Frm.cellAt (w : World) (m g i : Nat) (v : Value) : Frm w ((w.drewN m).setCell ⟨g, i, none⟩ v) (fun k => k = g) := ((Frm.refl w (fun k => k = g)).drewN m).setCell (p := ⟨g, i, none⟩) (.inl rfl) v

/-- What 'read' is told of the rest of the bytes. -/
theorem rest_C {w : World} {A : Option Addr} {n c at_ : Nat} {b : List Int} (hC : KB.C w A n b) (hn : b.length = n) (hc : n ≤ c) (ha : at_ ≤ n) : KB.C w (if c = at_ then A else A.map (·.add at_)) (n - at_) (b.drop at_) := by
  have h := Kd.C_drop (xs := b) (m := at_) (c := c) (by rw [hn]; exact hC) (by omega) (by omega)
  rw [List.length_drop, hn] at h
  simpa [Kd.int, Kd.scalar] using h

set_option maxHeartbeats 2000000 in
set_option maxRecDepth 100000 in
/-- 'read' at function 96, nothing having failed. -/
theorem readNumber_calls (base g : Nat) (P : Nat → Prop) (b : List Int) (at_ : Nat) (w : World) (bx : Nat) (h : Rd base w g P b at_ 0) (v : Int) (sz : Nat) (szI e : Int) (hsz : e = 0 → szI = sz ∧ at_ + sz ≤ b.length) (hbl : b.length ≤ 1000000000000)
    (hcall : ∀ A n c, b.length - at_ = n → n ≤ c → KB.C w.drew A n (b.drop at_) → Calls Try.prog 96 #[.slice A n c, .pointer (some ⟨bx, 0, none⟩)] w.drew fun e' w' => e' = .returned (.tuple #[.int .i64 v, .int .i64 szI, .int .i64 e]) ∧ Drawn0 w.drew w') :
    Calls Try.prog 76 #[.pointer (some ⟨g, 0, none⟩), .func (.func 96) #[] #[.pointer (some ⟨bx, 0, none⟩)]] w fun e' w' => e' = .returned (if e = 0 then .int .i64 v else .int .i64 0) ∧ Rd base w' g P b (if e = 0 then at_ + sz else at_) e ∧ Frm w w' (fun k => k = g) := by
  obtain ⟨A, n, c, hb, hg, hr, ha⟩ := h.tight
  have h0 : w.cell? ⟨g, 0, none⟩ = some (.slice A n c) := blk_cell hb 0
  have h1 : w.cell? ⟨g, 1, none⟩ = some (.int .i64 (at_ : Int)) := blk_cell hb 1
  have h2 : w.cell? ⟨g, 2, none⟩ = some (.int .i64 0) := blk_cell hb 2
  have f1 : w.frozen? ⟨g, 1, none⟩ = false := blk_frozen hb 1
  have f2 : w.frozen? ⟨g, 2, none⟩ = false := blk_frozen hb 2
  have hrd := Kd.R_reads' hr
  have hn : n = b.length := hrd.1
  have hcn : n ≤ c := hrd.2.1
  have han : at_ ≤ n := by omega
  have hnl : n ≤ 1000000000000 := by omega
  obtain ⟨A', hA'⟩ : ∃ A', (if c = at_ then A else A.map (·.add at_)) = A' := ⟨_, rfl⟩
  have hC := rest_C (A := A) (c := c) (by rw [hn]; exact hrd.2.2) hn.symm hcn han
  rw [hA'] at hC
  have HX := Aside0.mk (hcall A' (n - at_) (c - at_) (by omega) (by omega) (Kd.C_drew hC))
  have HB := Aside0.mk hb
  have HR := Aside0.mk hr
  have HN := Aside0.mk hn
  have HS := Aside0.mk hsz
  clear hb hr hrd hn hbl ha hcall hC hsz h
  by_cases he : e = 0
  · subst he
    obtain ⟨hs1, hs2⟩ := HS.out rfl
    have hs2' : at_ + sz ≤ n := by rw [HN.out]; exact hs2
    subst hs1
    clear HS hs2
    go_enter Try.func76, Try.ntmps76
    go_wp2_with fail
    refine start_ (n := 18) (S := fun w' => w'.cell? ⟨g, 0, none⟩ = some (.slice A n c) ∧ w'.cell? ⟨g, 1, none⟩ = some (.int .i64 (at_ : Int)) ∧ True ∧ True) (ds := []) #[false, false, false, false, false, false, false, false, false, false, false, false, false, false, false, false, false, false] (by kernel_rfl) rfl rfl ⟨h0, h1, trivial, trivial⟩ (fun hHeld => ?_)
    refine pure_ (i := 0) (N := some 20) (v := ?_) (a' := ?_) #[true, false, false, false, false, false, false, false, false, false, false, false, false, false, false, false, false, false] rfl rfl (by kernel_rfl) (fun _ _ _ h => h) (Or.inl ⟨by rfl, ?_⟩) ?_ ?_
    rotate_left
    · intro w'
      go_simp
      with_reducible rfl
    rotate_left
    · simp only [Act.put, List.setIfInBounds_toArray, List.set_cons_zero, List.set_cons_succ, i64_w, i32_w]
      rfl
    refine pure_ (i := 1) (N := some 21) (v := ?_) (a' := ?_) #[true, true, false, false, false, false, false, false, false, false, false, false, false, false, false, false, false, false] rfl rfl (by kernel_rfl) (fun _ _ _ h => h) (Or.inl ⟨by rfl, ?_⟩) ?_ ?_
    rotate_left
    · intro w'
      go_simp
      with_reducible rfl
    rotate_left
    · simp only [Act.put, List.setIfInBounds_toArray, List.set_cons_zero, List.set_cons_succ, i64_w, i32_w]
      rfl
    refine pure_ (i := 2) (N := some 22) (v := ?_) (a' := ?_) #[true, true, true, false, false, false, false, false, false, false, false, false, false, false, false, false, false, false] rfl rfl (by kernel_rfl) (fun _ _ _ h => h) (Or.inl ⟨by rfl, ?_⟩) ?_ ?_
    rotate_left
    · intro w'
      go_simp
      with_reducible rfl
    rotate_left
    · simp only [Act.put, List.setIfInBounds_toArray, List.set_cons_zero, List.set_cons_succ, i64_w, i32_w]
      rfl
    refine pure_ (i := 3) (N := some 23) (v := ?_) (a' := ?_) #[true, true, true, true, false, false, false, false, false, false, false, false, false, false, false, false, false, false] rfl rfl (by kernel_rfl) (fun _ _ _ h => h) (Or.inl ⟨by rfl, ?_⟩) ?_ ?_
    rotate_left
    · intro w'
      go_simp
      with_reducible rfl
    rotate_left
    · simp only [Act.put, List.setIfInBounds_toArray, List.set_cons_zero, List.set_cons_succ, i64_w, i32_w]
      rfl
    refine take_ (i := 4) (N := some 24) (v := ?_) (a' := ?_) #[true, true, true, true, true, false, false, false, false, false, false, false, false, false, false, false, false, false] rfl rfl (by kernel_rfl) (fun _ _ _ h => h) (Or.inl ⟨by rfl, ?_⟩) hHeld ?_ ?_
    rotate_left
    · rintro w' ⟨s0, s1, s2, s3⟩
      go_simp
      with_reducible rfl
    rotate_left
    · simp only [Act.put, List.setIfInBounds_toArray, List.set_cons_zero, List.set_cons_succ, i64_w, i32_w]
      rfl
    refine pure_ (i := 5) (N := some 25) (v := ?_) (a' := ?_) #[true, true, true, true, true, true, false, false, false, false, false, false, false, false, false, false, false, false] rfl rfl (by kernel_rfl) (fun _ _ _ h => h) (Or.inl ⟨by rfl, ?_⟩) ?_ ?_
    rotate_left
    · intro w'
      go_simp
      with_reducible rfl
    rotate_left
    · simp only [Act.put, List.setIfInBounds_toArray, List.set_cons_zero, List.set_cons_succ, i64_w, i32_w]
      rfl
    refine pure_ (i := 6) (N := some 26) (v := ?_) (a' := ?_) #[true, true, true, true, true, true, true, false, false, false, false, false, false, false, false, false, false, false] rfl rfl (by kernel_rfl) (fun _ _ _ h => h) (Or.inl ⟨by rfl, ?_⟩) ?_ ?_
    rotate_left
    · intro w'
      go_simp
      with_reducible rfl
    rotate_left
    · simp only [Act.put, List.setIfInBounds_toArray, List.set_cons_zero, List.set_cons_succ, i64_w, i32_w]
      rfl
    refine pure_ (i := 7) (N := some 27) (v := ?_) (a' := ?_) #[true, true, true, true, true, true, true, true, false, false, false, false, false, false, false, false, false, false] rfl rfl (by kernel_rfl) (fun _ _ _ h => h) (Or.inl ⟨by rfl, ?_⟩) ?_ ?_
    rotate_left
    · intro w'
      go_simp
      with_reducible rfl
    rotate_left
    · simp only [Act.put, List.setIfInBounds_toArray, List.set_cons_zero, List.set_cons_succ, i64_w, i32_w]
      rfl
    refine take_ (i := 8) (N := some 28) (v := ?_) (a' := ?_) #[true, true, true, true, true, true, true, true, true, false, false, false, false, false, false, false, false, false] rfl rfl (by kernel_rfl) (fun _ _ _ h => h) (Or.inl ⟨by rfl, ?_⟩) hHeld ?_ ?_
    rotate_left
    · rintro w' ⟨s0, s1, s2, s3⟩
      go_simp
      with_reducible rfl
    rotate_left
    · simp only [Act.put, List.setIfInBounds_toArray, List.set_cons_zero, List.set_cons_succ, i64_w, i32_w]
      rfl
    refine pure_ (i := 9) (N := some 29) (v := ?_) (a' := ?_) #[true, true, true, true, true, true, true, true, true, true, false, false, false, false, false, false, false, false] rfl rfl (by kernel_rfl) (fun _ _ _ h => h) (Or.inl ⟨by rfl, ?_⟩) ?_ ?_
    rotate_left
    · intro w'
      go_simp
      with_reducible rfl
    rotate_left
    · simp only [Act.put, List.setIfInBounds_toArray, List.set_cons_zero, List.set_cons_succ, i64_w, i32_w]
      rfl
    refine one_ (i := 10) (N := some 30) #[true, true, true, true, true, true, true, true, true, true, true, false, false, false, false, false, false, false] rfl rfl (by kernel_rfl) (by decide) (fun K hK => ?_)
    refine call_ 96 #[.slice A' (n - at_) (c - at_), .pointer (some ⟨bx, 0, none⟩)] (by rfl) rfl ?hrun ?_
    case hrun => go_simp
    refine HX.out.mono ?_
    rintro e w1 ⟨rfl, ⟨m, rfl⟩⟩
    refine ⟨_, rfl, ?_⟩
    refine hK.out _ _ ⟨h0, h1, trivial, trivial⟩ (fun hHeld => ?_)
    clear hK K hHeld
    refine pure_ (i := 11) (N := some 19) (v := ?_) (a' := ?_) #[true, true, true, true, true, true, true, true, true, true, true, true, false, false, false, false, false, false] rfl rfl (by kernel_rfl) (fun _ _ _ h => h) (Or.inl ⟨by rfl, ?_⟩) ?_ ?_
    rotate_left
    · intro w'
      go_simp
      with_reducible rfl
    rotate_left
    · simp only [Act.put, List.setIfInBounds_toArray, List.set_cons_zero, List.set_cons_succ, i64_w, i32_w]
      rfl
    refine pure_ (i := 12) (N := some 31) (v := ?_) (a' := ?_) #[true, true, true, true, true, true, true, true, true, true, true, true, true, false, false, false, false, false] rfl rfl (by kernel_rfl) (fun _ _ _ h => h) (Or.inl ⟨by rfl, ?_⟩) ?_ ?_
    rotate_left
    · intro w'
      go_simp
      with_reducible rfl
    rotate_left
    · simp only [Act.put, List.setIfInBounds_toArray, List.set_cons_zero, List.set_cons_succ, i64_w, i32_w]
      rfl
    refine pure_ (i := 13) (N := some 32) (v := ?_) (a' := ?_) #[true, true, true, true, true, true, true, true, true, true, true, true, true, true, false, false, false, false] rfl rfl (by kernel_rfl) (fun _ _ _ h => h) (Or.inl ⟨by rfl, ?_⟩) ?_ ?_
    rotate_left
    · intro w'
      go_simp
      with_reducible rfl
    rotate_left
    · simp only [Act.put, List.setIfInBounds_toArray, List.set_cons_zero, List.set_cons_succ, i64_w, i32_w]
      rfl
    refine pure_ (i := 14) (N := some 33) (v := ?_) (a' := ?_) #[true, true, true, true, true, true, true, true, true, true, true, true, true, true, true, false, false, false] rfl rfl (by kernel_rfl) (fun _ _ _ h => h) (Or.inl ⟨by rfl, ?_⟩) ?_ ?_
    rotate_left
    · intro w'
      go_simp
      with_reducible rfl
    rotate_left
    · simp only [Act.put, List.setIfInBounds_toArray, List.set_cons_zero, List.set_cons_succ, i64_w, i32_w]
      rfl
    refine pure_ (i := 15) (N := some 6) (v := ?_) (a' := ?_) #[true, true, true, true, true, true, true, true, true, true, true, true, true, true, true, true, false, false] rfl rfl (by kernel_rfl) (fun _ _ _ h => h) (Or.inl ⟨by rfl, ?_⟩) ?_ ?_
    rotate_left
    · intro w'
      go_simp
      with_reducible rfl
    rotate_left
    · simp only [Act.put, List.setIfInBounds_toArray, List.set_cons_zero, List.set_cons_succ, i64_w, i32_w]
      rfl
    refine pure_ (i := 16) (N := some 7) (v := ?_) (a' := ?_) #[true, true, true, true, true, true, true, true, true, true, true, true, true, true, true, true, true, false] rfl rfl (by kernel_rfl) (fun _ _ _ h => h) (Or.inl ⟨by rfl, ?_⟩) ?_ ?_
    rotate_left
    · intro w'
      go_simp
      with_reducible rfl
    rotate_left
    · simp only [Act.put, List.setIfInBounds_toArray, List.set_cons_zero, List.set_cons_succ, i64_w, i32_w]
      rfl
    refine pure_ (i := 17) (N := some 8) (v := ?_) (a' := ?_) #[true, true, true, true, true, true, true, true, true, true, true, true, true, true, true, true, true, true] rfl rfl (by kernel_rfl) (fun _ _ _ h => h) (Or.inl ⟨by rfl, ?_⟩) ?_ ?_
    rotate_left
    · intro w'
      go_simp
      with_reducible rfl
    rotate_left
    · simp only [Act.put, List.setIfInBounds_toArray, List.set_cons_zero, List.set_cons_succ, i64_w, i32_w]
      rfl
    refine done_ (by kernel_rfl) ?_
    go_wp2
    go_ret
    refine ⟨rfl, ⟨A, n, c, ?_, hg, Kd.R_mono (Kd.R_far (p := ⟨g, 1, none⟩) (Kd.R_drewN HR.out (1 + m)) (fun k hk => hk.2.1) _) (fun k hk => hk.1), by have := HN.out; simp; omega⟩, Frm.cellAt _ _ _ _ _⟩
    have hb2 := blk_set (blk_drewN HB.out (1 + m)) 1 (.int .i64 ((at_ : Int) + (sz : Int)))
    simpa using hb2
  · have he1 : (e != 0) = true := bne_iff_ne.mpr he
    rw [if_neg he, if_neg he]
    clear HS
    go_enter Try.func76, Try.ntmps76
    go_wp2_with fail
    refine start_ (n := 18) (S := fun w' => w'.cell? ⟨g, 0, none⟩ = some (.slice A n c) ∧ w'.cell? ⟨g, 1, none⟩ = some (.int .i64 (at_ : Int)) ∧ True ∧ True) (ds := []) #[false, false, false, false, false, false, false, false, false, false, false, false, false, false, false, false, false, false] (by kernel_rfl) rfl rfl ⟨h0, h1, trivial, trivial⟩ (fun hHeld => ?_)
    refine pure_ (i := 0) (N := some 20) (v := ?_) (a' := ?_) #[true, false, false, false, false, false, false, false, false, false, false, false, false, false, false, false, false, false] rfl rfl (by kernel_rfl) (fun _ _ _ h => h) (Or.inl ⟨by rfl, ?_⟩) ?_ ?_
    rotate_left
    · intro w'
      go_simp
      with_reducible rfl
    rotate_left
    · simp only [Act.put, List.setIfInBounds_toArray, List.set_cons_zero, List.set_cons_succ, i64_w, i32_w]
      rfl
    refine pure_ (i := 1) (N := some 21) (v := ?_) (a' := ?_) #[true, true, false, false, false, false, false, false, false, false, false, false, false, false, false, false, false, false] rfl rfl (by kernel_rfl) (fun _ _ _ h => h) (Or.inl ⟨by rfl, ?_⟩) ?_ ?_
    rotate_left
    · intro w'
      go_simp
      with_reducible rfl
    rotate_left
    · simp only [Act.put, List.setIfInBounds_toArray, List.set_cons_zero, List.set_cons_succ, i64_w, i32_w]
      rfl
    refine pure_ (i := 2) (N := some 22) (v := ?_) (a' := ?_) #[true, true, true, false, false, false, false, false, false, false, false, false, false, false, false, false, false, false] rfl rfl (by kernel_rfl) (fun _ _ _ h => h) (Or.inl ⟨by rfl, ?_⟩) ?_ ?_
    rotate_left
    · intro w'
      go_simp
      with_reducible rfl
    rotate_left
    · simp only [Act.put, List.setIfInBounds_toArray, List.set_cons_zero, List.set_cons_succ, i64_w, i32_w]
      rfl
    refine pure_ (i := 3) (N := some 23) (v := ?_) (a' := ?_) #[true, true, true, true, false, false, false, false, false, false, false, false, false, false, false, false, false, false] rfl rfl (by kernel_rfl) (fun _ _ _ h => h) (Or.inl ⟨by rfl, ?_⟩) ?_ ?_
    rotate_left
    · intro w'
      go_simp
      with_reducible rfl
    rotate_left
    · simp only [Act.put, List.setIfInBounds_toArray, List.set_cons_zero, List.set_cons_succ, i64_w, i32_w]
      rfl
    refine take_ (i := 4) (N := some 24) (v := ?_) (a' := ?_) #[true, true, true, true, true, false, false, false, false, false, false, false, false, false, false, false, false, false] rfl rfl (by kernel_rfl) (fun _ _ _ h => h) (Or.inl ⟨by rfl, ?_⟩) hHeld ?_ ?_
    rotate_left
    · rintro w' ⟨s0, s1, s2, s3⟩
      go_simp
      with_reducible rfl
    rotate_left
    · simp only [Act.put, List.setIfInBounds_toArray, List.set_cons_zero, List.set_cons_succ, i64_w, i32_w]
      rfl
    refine pure_ (i := 5) (N := some 25) (v := ?_) (a' := ?_) #[true, true, true, true, true, true, false, false, false, false, false, false, false, false, false, false, false, false] rfl rfl (by kernel_rfl) (fun _ _ _ h => h) (Or.inl ⟨by rfl, ?_⟩) ?_ ?_
    rotate_left
    · intro w'
      go_simp
      with_reducible rfl
    rotate_left
    · simp only [Act.put, List.setIfInBounds_toArray, List.set_cons_zero, List.set_cons_succ, i64_w, i32_w]
      rfl
    refine pure_ (i := 6) (N := some 26) (v := ?_) (a' := ?_) #[true, true, true, true, true, true, true, false, false, false, false, false, false, false, false, false, false, false] rfl rfl (by kernel_rfl) (fun _ _ _ h => h) (Or.inl ⟨by rfl, ?_⟩) ?_ ?_
    rotate_left
    · intro w'
      go_simp
      with_reducible rfl
    rotate_left
    · simp only [Act.put, List.setIfInBounds_toArray, List.set_cons_zero, List.set_cons_succ, i64_w, i32_w]
      rfl
    refine pure_ (i := 7) (N := some 27) (v := ?_) (a' := ?_) #[true, true, true, true, true, true, true, true, false, false, false, false, false, false, false, false, false, false] rfl rfl (by kernel_rfl) (fun _ _ _ h => h) (Or.inl ⟨by rfl, ?_⟩) ?_ ?_
    rotate_left
    · intro w'
      go_simp
      with_reducible rfl
    rotate_left
    · simp only [Act.put, List.setIfInBounds_toArray, List.set_cons_zero, List.set_cons_succ, i64_w, i32_w]
      rfl
    refine take_ (i := 8) (N := some 28) (v := ?_) (a' := ?_) #[true, true, true, true, true, true, true, true, true, false, false, false, false, false, false, false, false, false] rfl rfl (by kernel_rfl) (fun _ _ _ h => h) (Or.inl ⟨by rfl, ?_⟩) hHeld ?_ ?_
    rotate_left
    · rintro w' ⟨s0, s1, s2, s3⟩
      go_simp
      with_reducible rfl
    rotate_left
    · simp only [Act.put, List.setIfInBounds_toArray, List.set_cons_zero, List.set_cons_succ, i64_w, i32_w]
      rfl
    refine pure_ (i := 9) (N := some 29) (v := ?_) (a' := ?_) #[true, true, true, true, true, true, true, true, true, true, false, false, false, false, false, false, false, false] rfl rfl (by kernel_rfl) (fun _ _ _ h => h) (Or.inl ⟨by rfl, ?_⟩) ?_ ?_
    rotate_left
    · intro w'
      go_simp
      with_reducible rfl
    rotate_left
    · simp only [Act.put, List.setIfInBounds_toArray, List.set_cons_zero, List.set_cons_succ, i64_w, i32_w]
      rfl
    refine one_ (i := 10) (N := some 30) #[true, true, true, true, true, true, true, true, true, true, true, false, false, false, false, false, false, false] rfl rfl (by kernel_rfl) (by decide) (fun K hK => ?_)
    refine call_ 96 #[.slice A' (n - at_) (c - at_), .pointer (some ⟨bx, 0, none⟩)] (by rfl) rfl ?hrun ?_
    case hrun => go_simp
    refine HX.out.mono ?_
    rintro e w1 ⟨rfl, ⟨m, rfl⟩⟩
    refine ⟨_, rfl, ?_⟩
    refine hK.out _ _ ⟨h0, h1, trivial, trivial⟩ (fun hHeld => ?_)
    clear hK K hHeld
    refine pure_ (i := 11) (N := some 19) (v := ?_) (a' := ?_) #[true, true, true, true, true, true, true, true, true, true, true, true, false, false, false, false, false, false] rfl rfl (by kernel_rfl) (fun _ _ _ h => h) (Or.inl ⟨by rfl, ?_⟩) ?_ ?_
    rotate_left
    · intro w'
      go_simp
      with_reducible rfl
    rotate_left
    · simp only [Act.put, List.setIfInBounds_toArray, List.set_cons_zero, List.set_cons_succ, i64_w, i32_w]
      rfl
    refine pure_ (i := 12) (N := some 31) (v := ?_) (a' := ?_) #[true, true, true, true, true, true, true, true, true, true, true, true, true, false, false, false, false, false] rfl rfl (by kernel_rfl) (fun _ _ _ h => h) (Or.inl ⟨by rfl, ?_⟩) ?_ ?_
    rotate_left
    · intro w'
      go_simp
      with_reducible rfl
    rotate_left
    · simp only [Act.put, List.setIfInBounds_toArray, List.set_cons_zero, List.set_cons_succ, i64_w, i32_w]
      rfl
    refine pure_ (i := 13) (N := some 32) (v := ?_) (a' := ?_) #[true, true, true, true, true, true, true, true, true, true, true, true, true, true, false, false, false, false] rfl rfl (by kernel_rfl) (fun _ _ _ h => h) (Or.inl ⟨by rfl, ?_⟩) ?_ ?_
    rotate_left
    · intro w'
      go_simp
      with_reducible rfl
    rotate_left
    · simp only [Act.put, List.setIfInBounds_toArray, List.set_cons_zero, List.set_cons_succ, i64_w, i32_w]
      rfl
    refine pure_ (i := 14) (N := some 33) (v := ?_) (a' := ?_) #[true, true, true, true, true, true, true, true, true, true, true, true, true, true, true, false, false, false] rfl rfl (by kernel_rfl) (fun _ _ _ h => h) (Or.inl ⟨by rfl, ?_⟩) ?_ ?_
    rotate_left
    · intro w'
      go_simp
      with_reducible rfl
    rotate_left
    · simp only [Act.put, List.setIfInBounds_toArray, List.set_cons_zero, List.set_cons_succ, i64_w, i32_w]
      rfl
    refine pure_ (i := 15) (N := some 6) (v := ?_) (a' := ?_) #[true, true, true, true, true, true, true, true, true, true, true, true, true, true, true, true, false, false] rfl rfl (by kernel_rfl) (fun _ _ _ h => h) (Or.inl ⟨by rfl, ?_⟩) ?_ ?_
    rotate_left
    · intro w'
      go_simp
      with_reducible rfl
    rotate_left
    · simp only [Act.put, List.setIfInBounds_toArray, List.set_cons_zero, List.set_cons_succ, i64_w, i32_w]
      rfl
    refine pure_ (i := 16) (N := some 7) (v := ?_) (a' := ?_) #[true, true, true, true, true, true, true, true, true, true, true, true, true, true, true, true, true, false] rfl rfl (by kernel_rfl) (fun _ _ _ h => h) (Or.inl ⟨by rfl, ?_⟩) ?_ ?_
    rotate_left
    · intro w'
      go_simp
      with_reducible rfl
    rotate_left
    · simp only [Act.put, List.setIfInBounds_toArray, List.set_cons_zero, List.set_cons_succ, i64_w, i32_w]
      rfl
    refine pure_ (i := 17) (N := some 8) (v := ?_) (a' := ?_) #[true, true, true, true, true, true, true, true, true, true, true, true, true, true, true, true, true, true] rfl rfl (by kernel_rfl) (fun _ _ _ h => h) (Or.inl ⟨by rfl, ?_⟩) ?_ ?_
    rotate_left
    · intro w'
      go_simp
      with_reducible rfl
    rotate_left
    · simp only [Act.put, List.setIfInBounds_toArray, List.set_cons_zero, List.set_cons_succ, i64_w, i32_w]
      rfl
    refine done_ (by kernel_rfl) ?_
    go_wp2
    go_ret
    refine ⟨rfl, ⟨A, n, c, ?_, hg, Kd.R_mono (Kd.R_far (p := ⟨g, 2, none⟩) (Kd.R_drewN HR.out (1 + m)) (fun k hk => hk.2.1) _) (fun k hk => hk.1), by have := HN.out; omega⟩, Frm.cellAt _ _ _ _ _⟩
    have hb2 := blk_set (blk_drewN HB.out (1 + m)) 2 (.int .i64 e)
    simpa using hb2

/-- .. something having failed before: nothing is read. -/
theorem readNumber_failed (base g : Nat) (P : Nat → Prop) (b : List Int) (at_ : Nat) (f : Int) (w : World) (bx : Nat) (h : Rd base w g P b at_ f) (hf : f ≠ 0) :
    Calls Try.prog 76 #[.pointer (some ⟨g, 0, none⟩), .func (.func 96) #[] #[.pointer (some ⟨bx, 0, none⟩)]] w fun e' w' => e' = .returned (.int .i64 0) ∧ w' = w := by
  obtain ⟨A, n, c, hb, hg, hr, ha⟩ := h
  have h2 : w.cell? ⟨g, 2, none⟩ = some (.int .i64 f) := blk_cell hb 2
  have hf1 : (f != 0) = true := bne_iff_ne.mpr hf
  clear hb hr hf
  go_enter Try.func76, Try.ntmps76
  go_wp2
  go_ret
  exact ⟨rfl, rfl⟩

set_option maxHeartbeats 2000000 in
set_option maxRecDepth 100000 in
/-- 'read' at function 100, nothing having failed. -/
theorem readText_calls (base g : Nat) (P : Nat → Prop) (b : List Int) (at_ : Nat) (w : World) (bx : Nat) (h : Rd base w g P b at_ 0) (v : ByteArray) (sz : Nat) (szI e : Int) (hsz : e = 0 → szI = sz ∧ at_ + sz ≤ b.length) (hbl : b.length ≤ 1000000000000)
    (hcall : ∀ A n c, b.length - at_ = n → n ≤ c → KB.C w.drew A n (b.drop at_) → Calls Try.prog 100 #[.slice A n c, .pointer (some ⟨bx, 0, none⟩)] w.drew fun e' w' => e' = .returned (.tuple #[.string v, .int .i64 szI, .int .i64 e]) ∧ Drawn0 w.drew w') :
    Calls Try.prog 99 #[.pointer (some ⟨g, 0, none⟩), .func (.func 100) #[] #[.pointer (some ⟨bx, 0, none⟩)]] w fun e' w' => e' = .returned (if e = 0 then .string v else .string ⟨#[]⟩) ∧ Rd base w' g P b (if e = 0 then at_ + sz else at_) e ∧ Frm w w' (fun k => k = g) := by
  obtain ⟨A, n, c, hb, hg, hr, ha⟩ := h.tight
  have h0 : w.cell? ⟨g, 0, none⟩ = some (.slice A n c) := blk_cell hb 0
  have h1 : w.cell? ⟨g, 1, none⟩ = some (.int .i64 (at_ : Int)) := blk_cell hb 1
  have h2 : w.cell? ⟨g, 2, none⟩ = some (.int .i64 0) := blk_cell hb 2
  have f1 : w.frozen? ⟨g, 1, none⟩ = false := blk_frozen hb 1
  have f2 : w.frozen? ⟨g, 2, none⟩ = false := blk_frozen hb 2
  have hrd := Kd.R_reads' hr
  have hn : n = b.length := hrd.1
  have hcn : n ≤ c := hrd.2.1
  have han : at_ ≤ n := by omega
  have hnl : n ≤ 1000000000000 := by omega
  obtain ⟨A', hA'⟩ : ∃ A', (if c = at_ then A else A.map (·.add at_)) = A' := ⟨_, rfl⟩
  have hC := rest_C (A := A) (c := c) (by rw [hn]; exact hrd.2.2) hn.symm hcn han
  rw [hA'] at hC
  have HX := Aside0.mk (hcall A' (n - at_) (c - at_) (by omega) (by omega) (Kd.C_drew hC))
  have HB := Aside0.mk hb
  have HR := Aside0.mk hr
  have HN := Aside0.mk hn
  have HS := Aside0.mk hsz
  clear hb hr hrd hn hbl ha hcall hC hsz h
  by_cases he : e = 0
  · subst he
    obtain ⟨hs1, hs2⟩ := HS.out rfl
    have hs2' : at_ + sz ≤ n := by rw [HN.out]; exact hs2
    subst hs1
    clear HS hs2
    go_enter Try.func99, Try.ntmps99
    go_wp2_with fail
    refine start_ (n := 18) (S := fun w' => w'.cell? ⟨g, 0, none⟩ = some (.slice A n c) ∧ w'.cell? ⟨g, 1, none⟩ = some (.int .i64 (at_ : Int)) ∧ True ∧ True) (ds := []) #[false, false, false, false, false, false, false, false, false, false, false, false, false, false, false, false, false, false] (by kernel_rfl) rfl rfl ⟨h0, h1, trivial, trivial⟩ (fun hHeld => ?_)
    refine pure_ (i := 0) (N := some 20) (v := ?_) (a' := ?_) #[true, false, false, false, false, false, false, false, false, false, false, false, false, false, false, false, false, false] rfl rfl (by kernel_rfl) (fun _ _ _ h => h) (Or.inl ⟨by rfl, ?_⟩) ?_ ?_
    rotate_left
    · intro w'
      go_simp
      with_reducible rfl
    rotate_left
    · simp only [Act.put, List.setIfInBounds_toArray, List.set_cons_zero, List.set_cons_succ, i64_w, i32_w]
      rfl
    refine pure_ (i := 1) (N := some 21) (v := ?_) (a' := ?_) #[true, true, false, false, false, false, false, false, false, false, false, false, false, false, false, false, false, false] rfl rfl (by kernel_rfl) (fun _ _ _ h => h) (Or.inl ⟨by rfl, ?_⟩) ?_ ?_
    rotate_left
    · intro w'
      go_simp
      with_reducible rfl
    rotate_left
    · simp only [Act.put, List.setIfInBounds_toArray, List.set_cons_zero, List.set_cons_succ, i64_w, i32_w]
      rfl
    refine pure_ (i := 2) (N := some 22) (v := ?_) (a' := ?_) #[true, true, true, false, false, false, false, false, false, false, false, false, false, false, false, false, false, false] rfl rfl (by kernel_rfl) (fun _ _ _ h => h) (Or.inl ⟨by rfl, ?_⟩) ?_ ?_
    rotate_left
    · intro w'
      go_simp
      with_reducible rfl
    rotate_left
    · simp only [Act.put, List.setIfInBounds_toArray, List.set_cons_zero, List.set_cons_succ, i64_w, i32_w]
      rfl
    refine pure_ (i := 3) (N := some 23) (v := ?_) (a' := ?_) #[true, true, true, true, false, false, false, false, false, false, false, false, false, false, false, false, false, false] rfl rfl (by kernel_rfl) (fun _ _ _ h => h) (Or.inl ⟨by rfl, ?_⟩) ?_ ?_
    rotate_left
    · intro w'
      go_simp
      with_reducible rfl
    rotate_left
    · simp only [Act.put, List.setIfInBounds_toArray, List.set_cons_zero, List.set_cons_succ, i64_w, i32_w]
      rfl
    refine take_ (i := 4) (N := some 24) (v := ?_) (a' := ?_) #[true, true, true, true, true, false, false, false, false, false, false, false, false, false, false, false, false, false] rfl rfl (by kernel_rfl) (fun _ _ _ h => h) (Or.inl ⟨by rfl, ?_⟩) hHeld ?_ ?_
    rotate_left
    · rintro w' ⟨s0, s1, s2, s3⟩
      go_simp
      with_reducible rfl
    rotate_left
    · simp only [Act.put, List.setIfInBounds_toArray, List.set_cons_zero, List.set_cons_succ, i64_w, i32_w]
      rfl
    refine pure_ (i := 5) (N := some 25) (v := ?_) (a' := ?_) #[true, true, true, true, true, true, false, false, false, false, false, false, false, false, false, false, false, false] rfl rfl (by kernel_rfl) (fun _ _ _ h => h) (Or.inl ⟨by rfl, ?_⟩) ?_ ?_
    rotate_left
    · intro w'
      go_simp
      with_reducible rfl
    rotate_left
    · simp only [Act.put, List.setIfInBounds_toArray, List.set_cons_zero, List.set_cons_succ, i64_w, i32_w]
      rfl
    refine pure_ (i := 6) (N := some 26) (v := ?_) (a' := ?_) #[true, true, true, true, true, true, true, false, false, false, false, false, false, false, false, false, false, false] rfl rfl (by kernel_rfl) (fun _ _ _ h => h) (Or.inl ⟨by rfl, ?_⟩) ?_ ?_
    rotate_left
    · intro w'
      go_simp
      with_reducible rfl
    rotate_left
    · simp only [Act.put, List.setIfInBounds_toArray, List.set_cons_zero, List.set_cons_succ, i64_w, i32_w]
      rfl
    refine pure_ (i := 7) (N := some 27) (v := ?_) (a' := ?_) #[true, true, true, true, true, true, true, true, false, false, false, false, false, false, false, false, false, false] rfl rfl (by kernel_rfl) (fun _ _ _ h => h) (Or.inl ⟨by rfl, ?_⟩) ?_ ?_
    rotate_left
    · intro w'
      go_simp
      with_reducible rfl
    rotate_left
    · simp only [Act.put, List.setIfInBounds_toArray, List.set_cons_zero, List.set_cons_succ, i64_w, i32_w]
      rfl
    refine take_ (i := 8) (N := some 28) (v := ?_) (a' := ?_) #[true, true, true, true, true, true, true, true, true, false, false, false, false, false, false, false, false, false] rfl rfl (by kernel_rfl) (fun _ _ _ h => h) (Or.inl ⟨by rfl, ?_⟩) hHeld ?_ ?_
    rotate_left
    · rintro w' ⟨s0, s1, s2, s3⟩
      go_simp
      with_reducible rfl
    rotate_left
    · simp only [Act.put, List.setIfInBounds_toArray, List.set_cons_zero, List.set_cons_succ, i64_w, i32_w]
      rfl
    refine pure_ (i := 9) (N := some 29) (v := ?_) (a' := ?_) #[true, true, true, true, true, true, true, true, true, true, false, false, false, false, false, false, false, false] rfl rfl (by kernel_rfl) (fun _ _ _ h => h) (Or.inl ⟨by rfl, ?_⟩) ?_ ?_
    rotate_left
    · intro w'
      go_simp
      with_reducible rfl
    rotate_left
    · simp only [Act.put, List.setIfInBounds_toArray, List.set_cons_zero, List.set_cons_succ, i64_w, i32_w]
      rfl
    refine one_ (i := 10) (N := some 30) #[true, true, true, true, true, true, true, true, true, true, true, false, false, false, false, false, false, false] rfl rfl (by kernel_rfl) (by decide) (fun K hK => ?_)
    refine call_ 100 #[.slice A' (n - at_) (c - at_), .pointer (some ⟨bx, 0, none⟩)] (by rfl) rfl ?hrun ?_
    case hrun => go_simp
    refine HX.out.mono ?_
    rintro e w1 ⟨rfl, ⟨m, rfl⟩⟩
    refine ⟨_, rfl, ?_⟩
    refine hK.out _ _ ⟨h0, h1, trivial, trivial⟩ (fun hHeld => ?_)
    clear hK K hHeld
    refine pure_ (i := 11) (N := some 19) (v := ?_) (a' := ?_) #[true, true, true, true, true, true, true, true, true, true, true, true, false, false, false, false, false, false] rfl rfl (by kernel_rfl) (fun _ _ _ h => h) (Or.inl ⟨by rfl, ?_⟩) ?_ ?_
    rotate_left
    · intro w'
      go_simp
      with_reducible rfl
    rotate_left
    · simp only [Act.put, List.setIfInBounds_toArray, List.set_cons_zero, List.set_cons_succ, i64_w, i32_w]
      rfl
    refine pure_ (i := 12) (N := some 31) (v := ?_) (a' := ?_) #[true, true, true, true, true, true, true, true, true, true, true, true, true, false, false, false, false, false] rfl rfl (by kernel_rfl) (fun _ _ _ h => h) (Or.inl ⟨by rfl, ?_⟩) ?_ ?_
    rotate_left
    · intro w'
      go_simp
      with_reducible rfl
    rotate_left
    · simp only [Act.put, List.setIfInBounds_toArray, List.set_cons_zero, List.set_cons_succ, i64_w, i32_w]
      rfl
    refine pure_ (i := 13) (N := some 32) (v := ?_) (a' := ?_) #[true, true, true, true, true, true, true, true, true, true, true, true, true, true, false, false, false, false] rfl rfl (by kernel_rfl) (fun _ _ _ h => h) (Or.inl ⟨by rfl, ?_⟩) ?_ ?_
    rotate_left
    · intro w'
      go_simp
      with_reducible rfl
    rotate_left
    · simp only [Act.put, List.setIfInBounds_toArray, List.set_cons_zero, List.set_cons_succ, i64_w, i32_w]
      rfl
    refine pure_ (i := 14) (N := some 33) (v := ?_) (a' := ?_) #[true, true, true, true, true, true, true, true, true, true, true, true, true, true, true, false, false, false] rfl rfl (by kernel_rfl) (fun _ _ _ h => h) (Or.inl ⟨by rfl, ?_⟩) ?_ ?_
    rotate_left
    · intro w'
      go_simp
      with_reducible rfl
    rotate_left
    · simp only [Act.put, List.setIfInBounds_toArray, List.set_cons_zero, List.set_cons_succ, i64_w, i32_w]
      rfl
    refine pure_ (i := 15) (N := some 6) (v := ?_) (a' := ?_) #[true, true, true, true, true, true, true, true, true, true, true, true, true, true, true, true, false, false] rfl rfl (by kernel_rfl) (fun _ _ _ h => h) (Or.inl ⟨by rfl, ?_⟩) ?_ ?_
    rotate_left
    · intro w'
      go_simp
      with_reducible rfl
    rotate_left
    · simp only [Act.put, List.setIfInBounds_toArray, List.set_cons_zero, List.set_cons_succ, i64_w, i32_w]
      rfl
    refine pure_ (i := 16) (N := some 7) (v := ?_) (a' := ?_) #[true, true, true, true, true, true, true, true, true, true, true, true, true, true, true, true, true, false] rfl rfl (by kernel_rfl) (fun _ _ _ h => h) (Or.inl ⟨by rfl, ?_⟩) ?_ ?_
    rotate_left
    · intro w'
      go_simp
      with_reducible rfl
    rotate_left
    · simp only [Act.put, List.setIfInBounds_toArray, List.set_cons_zero, List.set_cons_succ, i64_w, i32_w]
      rfl
    refine pure_ (i := 17) (N := some 8) (v := ?_) (a' := ?_) #[true, true, true, true, true, true, true, true, true, true, true, true, true, true, true, true, true, true] rfl rfl (by kernel_rfl) (fun _ _ _ h => h) (Or.inl ⟨by rfl, ?_⟩) ?_ ?_
    rotate_left
    · intro w'
      go_simp
      with_reducible rfl
    rotate_left
    · simp only [Act.put, List.setIfInBounds_toArray, List.set_cons_zero, List.set_cons_succ, i64_w, i32_w]
      rfl
    refine done_ (by kernel_rfl) ?_
    go_wp2
    go_ret
    refine ⟨rfl, ⟨A, n, c, ?_, hg, Kd.R_mono (Kd.R_far (p := ⟨g, 1, none⟩) (Kd.R_drewN HR.out (1 + m)) (fun k hk => hk.2.1) _) (fun k hk => hk.1), by have := HN.out; simp; omega⟩, Frm.cellAt _ _ _ _ _⟩
    have hb2 := blk_set (blk_drewN HB.out (1 + m)) 1 (.int .i64 ((at_ : Int) + (sz : Int)))
    simpa using hb2
  · have he1 : (e != 0) = true := bne_iff_ne.mpr he
    rw [if_neg he, if_neg he]
    clear HS
    go_enter Try.func99, Try.ntmps99
    go_wp2_with fail
    refine start_ (n := 18) (S := fun w' => w'.cell? ⟨g, 0, none⟩ = some (.slice A n c) ∧ w'.cell? ⟨g, 1, none⟩ = some (.int .i64 (at_ : Int)) ∧ True ∧ True) (ds := []) #[false, false, false, false, false, false, false, false, false, false, false, false, false, false, false, false, false, false] (by kernel_rfl) rfl rfl ⟨h0, h1, trivial, trivial⟩ (fun hHeld => ?_)
    refine pure_ (i := 0) (N := some 20) (v := ?_) (a' := ?_) #[true, false, false, false, false, false, false, false, false, false, false, false, false, false, false, false, false, false] rfl rfl (by kernel_rfl) (fun _ _ _ h => h) (Or.inl ⟨by rfl, ?_⟩) ?_ ?_
    rotate_left
    · intro w'
      go_simp
      with_reducible rfl
    rotate_left
    · simp only [Act.put, List.setIfInBounds_toArray, List.set_cons_zero, List.set_cons_succ, i64_w, i32_w]
      rfl
    refine pure_ (i := 1) (N := some 21) (v := ?_) (a' := ?_) #[true, true, false, false, false, false, false, false, false, false, false, false, false, false, false, false, false, false] rfl rfl (by kernel_rfl) (fun _ _ _ h => h) (Or.inl ⟨by rfl, ?_⟩) ?_ ?_
    rotate_left
    · intro w'
      go_simp
      with_reducible rfl
    rotate_left
    · simp only [Act.put, List.setIfInBounds_toArray, List.set_cons_zero, List.set_cons_succ, i64_w, i32_w]
      rfl
    refine pure_ (i := 2) (N := some 22) (v := ?_) (a' := ?_) #[true, true, true, false, false, false, false, false, false, false, false, false, false, false, false, false, false, false] rfl rfl (by kernel_rfl) (fun _ _ _ h => h) (Or.inl ⟨by rfl, ?_⟩) ?_ ?_
    rotate_left
    · intro w'
      go_simp
      with_reducible rfl
    rotate_left
    · simp only [Act.put, List.setIfInBounds_toArray, List.set_cons_zero, List.set_cons_succ, i64_w, i32_w]
      rfl
    refine pure_ (i := 3) (N := some 23) (v := ?_) (a' := ?_) #[true, true, true, true, false, false, false, false, false, false, false, false, false, false, false, false, false, false] rfl rfl (by kernel_rfl) (fun _ _ _ h => h) (Or.inl ⟨by rfl, ?_⟩) ?_ ?_
    rotate_left
    · intro w'
      go_simp
      with_reducible rfl
    rotate_left
    · simp only [Act.put, List.setIfInBounds_toArray, List.set_cons_zero, List.set_cons_succ, i64_w, i32_w]
      rfl
    refine take_ (i := 4) (N := some 24) (v := ?_) (a' := ?_) #[true, true, true, true, true, false, false, false, false, false, false, false, false, false, false, false, false, false] rfl rfl (by kernel_rfl) (fun _ _ _ h => h) (Or.inl ⟨by rfl, ?_⟩) hHeld ?_ ?_
    rotate_left
    · rintro w' ⟨s0, s1, s2, s3⟩
      go_simp
      with_reducible rfl
    rotate_left
    · simp only [Act.put, List.setIfInBounds_toArray, List.set_cons_zero, List.set_cons_succ, i64_w, i32_w]
      rfl
    refine pure_ (i := 5) (N := some 25) (v := ?_) (a' := ?_) #[true, true, true, true, true, true, false, false, false, false, false, false, false, false, false, false, false, false] rfl rfl (by kernel_rfl) (fun _ _ _ h => h) (Or.inl ⟨by rfl, ?_⟩) ?_ ?_
    rotate_left
    · intro w'
      go_simp
      with_reducible rfl
    rotate_left
    · simp only [Act.put, List.setIfInBounds_toArray, List.set_cons_zero, List.set_cons_succ, i64_w, i32_w]
      rfl
    refine pure_ (i := 6) (N := some 26) (v := ?_) (a' := ?_) #[true, true, true, true, true, true, true, false, false, false, false, false, false, false, false, false, false, false] rfl rfl (by kernel_rfl) (fun _ _ _ h => h) (Or.inl ⟨by rfl, ?_⟩) ?_ ?_
    rotate_left
    · intro w'
      go_simp
      with_reducible rfl
    rotate_left
    · simp only [Act.put, List.setIfInBounds_toArray, List.set_cons_zero, List.set_cons_succ, i64_w, i32_w]
      rfl
    refine pure_ (i := 7) (N := some 27) (v := ?_) (a' := ?_) #[true, true, true, true, true, true, true, true, false, false, false, false, false, false, false, false, false, false] rfl rfl (by kernel_rfl) (fun _ _ _ h => h) (Or.inl ⟨by rfl, ?_⟩) ?_ ?_
    rotate_left
    · intro w'
      go_simp
      with_reducible rfl
    rotate_left
    · simp only [Act.put, List.setIfInBounds_toArray, List.set_cons_zero, List.set_cons_succ, i64_w, i32_w]
      rfl
    refine take_ (i := 8) (N := some 28) (v := ?_) (a' := ?_) #[true, true, true, true, true, true, true, true, true, false, false, false, false, false, false, false, false, false] rfl rfl (by kernel_rfl) (fun _ _ _ h => h) (Or.inl ⟨by rfl, ?_⟩) hHeld ?_ ?_
    rotate_left
    · rintro w' ⟨s0, s1, s2, s3⟩
      go_simp
      with_reducible rfl
    rotate_left
    · simp only [Act.put, List.setIfInBounds_toArray, List.set_cons_zero, List.set_cons_succ, i64_w, i32_w]
      rfl
    refine pure_ (i := 9) (N := some 29) (v := ?_) (a' := ?_) #[true, true, true, true, true, true, true, true, true, true, false, false, false, false, false, false, false, false] rfl rfl (by kernel_rfl) (fun _ _ _ h => h) (Or.inl ⟨by rfl, ?_⟩) ?_ ?_
    rotate_left
    · intro w'
      go_simp
      with_reducible rfl
    rotate_left
    · simp only [Act.put, List.setIfInBounds_toArray, List.set_cons_zero, List.set_cons_succ, i64_w, i32_w]
      rfl
    refine one_ (i := 10) (N := some 30) #[true, true, true, true, true, true, true, true, true, true, true, false, false, false, false, false, false, false] rfl rfl (by kernel_rfl) (by decide) (fun K hK => ?_)
    refine call_ 100 #[.slice A' (n - at_) (c - at_), .pointer (some ⟨bx, 0, none⟩)] (by rfl) rfl ?hrun ?_
    case hrun => go_simp
    refine HX.out.mono ?_
    rintro e w1 ⟨rfl, ⟨m, rfl⟩⟩
    refine ⟨_, rfl, ?_⟩
    refine hK.out _ _ ⟨h0, h1, trivial, trivial⟩ (fun hHeld => ?_)
    clear hK K hHeld
    refine pure_ (i := 11) (N := some 19) (v := ?_) (a' := ?_) #[true, true, true, true, true, true, true, true, true, true, true, true, false, false, false, false, false, false] rfl rfl (by kernel_rfl) (fun _ _ _ h => h) (Or.inl ⟨by rfl, ?_⟩) ?_ ?_
    rotate_left
    · intro w'
      go_simp
      with_reducible rfl
    rotate_left
    · simp only [Act.put, List.setIfInBounds_toArray, List.set_cons_zero, List.set_cons_succ, i64_w, i32_w]
      rfl
    refine pure_ (i := 12) (N := some 31) (v := ?_) (a' := ?_) #[true, true, true, true, true, true, true, true, true, true, true, true, true, false, false, false, false, false] rfl rfl (by kernel_rfl) (fun _ _ _ h => h) (Or.inl ⟨by rfl, ?_⟩) ?_ ?_
    rotate_left
    · intro w'
      go_simp
      with_reducible rfl
    rotate_left
    · simp only [Act.put, List.setIfInBounds_toArray, List.set_cons_zero, List.set_cons_succ, i64_w, i32_w]
      rfl
    refine pure_ (i := 13) (N := some 32) (v := ?_) (a' := ?_) #[true, true, true, true, true, true, true, true, true, true, true, true, true, true, false, false, false, false] rfl rfl (by kernel_rfl) (fun _ _ _ h => h) (Or.inl ⟨by rfl, ?_⟩) ?_ ?_
    rotate_left
    · intro w'
      go_simp
      with_reducible rfl
    rotate_left
    · simp only [Act.put, List.setIfInBounds_toArray, List.set_cons_zero, List.set_cons_succ, i64_w, i32_w]
      rfl
    refine pure_ (i := 14) (N := some 33) (v := ?_) (a' := ?_) #[true, true, true, true, true, true, true, true, true, true, true, true, true, true, true, false, false, false] rfl rfl (by kernel_rfl) (fun _ _ _ h => h) (Or.inl ⟨by rfl, ?_⟩) ?_ ?_
    rotate_left
    · intro w'
      go_simp
      with_reducible rfl
    rotate_left
    · simp only [Act.put, List.setIfInBounds_toArray, List.set_cons_zero, List.set_cons_succ, i64_w, i32_w]
      rfl
    refine pure_ (i := 15) (N := some 6) (v := ?_) (a' := ?_) #[true, true, true, true, true, true, true, true, true, true, true, true, true, true, true, true, false, false] rfl rfl (by kernel_rfl) (fun _ _ _ h => h) (Or.inl ⟨by rfl, ?_⟩) ?_ ?_
    rotate_left
    · intro w'
      go_simp
      with_reducible rfl
    rotate_left
    · simp only [Act.put, List.setIfInBounds_toArray, List.set_cons_zero, List.set_cons_succ, i64_w, i32_w]
      rfl
    refine pure_ (i := 16) (N := some 7) (v := ?_) (a' := ?_) #[true, true, true, true, true, true, true, true, true, true, true, true, true, true, true, true, true, false] rfl rfl (by kernel_rfl) (fun _ _ _ h => h) (Or.inl ⟨by rfl, ?_⟩) ?_ ?_
    rotate_left
    · intro w'
      go_simp
      with_reducible rfl
    rotate_left
    · simp only [Act.put, List.setIfInBounds_toArray, List.set_cons_zero, List.set_cons_succ, i64_w, i32_w]
      rfl
    refine pure_ (i := 17) (N := some 8) (v := ?_) (a' := ?_) #[true, true, true, true, true, true, true, true, true, true, true, true, true, true, true, true, true, true] rfl rfl (by kernel_rfl) (fun _ _ _ h => h) (Or.inl ⟨by rfl, ?_⟩) ?_ ?_
    rotate_left
    · intro w'
      go_simp
      with_reducible rfl
    rotate_left
    · simp only [Act.put, List.setIfInBounds_toArray, List.set_cons_zero, List.set_cons_succ, i64_w, i32_w]
      rfl
    refine done_ (by kernel_rfl) ?_
    go_wp2
    go_ret
    refine ⟨rfl, ⟨A, n, c, ?_, hg, Kd.R_mono (Kd.R_far (p := ⟨g, 2, none⟩) (Kd.R_drewN HR.out (1 + m)) (fun k hk => hk.2.1) _) (fun k hk => hk.1), by have := HN.out; omega⟩, Frm.cellAt _ _ _ _ _⟩
    have hb2 := blk_set (blk_drewN HB.out (1 + m)) 2 (.int .i64 e)
    simpa using hb2

/-- .. something having failed before: nothing is read. -/
theorem readText_failed (base g : Nat) (P : Nat → Prop) (b : List Int) (at_ : Nat) (f : Int) (w : World) (bx : Nat) (h : Rd base w g P b at_ f) (hf : f ≠ 0) :
    Calls Try.prog 99 #[.pointer (some ⟨g, 0, none⟩), .func (.func 100) #[] #[.pointer (some ⟨bx, 0, none⟩)]] w fun e' w' => e' = .returned (.string ⟨#[]⟩) ∧ w' = w := by
  obtain ⟨A, n, c, hb, hg, hr, ha⟩ := h
  have h2 : w.cell? ⟨g, 2, none⟩ = some (.int .i64 f) := blk_cell hb 2
  have hf1 : (f != 0) = true := bne_iff_ne.mpr hf
  clear hb hr hf
  go_enter Try.func99, Try.ntmps99
  go_wp2
  go_ret
  exact ⟨rfl, rfl⟩

end Go.Proofs.Ytbddllklagiajaa

namespace Go.Proofs.Ytbddllklagiajaa
open Go.RowKit Go.Proofs.YtbddllklagiajaaW.PrintWords Go.Proofs.YtbddllklagiajaaW.PrintLast Go.Proofs.YtbddllklagiajaaW.PrintMore
set_option linter.unusedVariables false
set_option linter.unusedSimpArgs false

/-- What a method of a Reader leaves. -/
def Read {α : Type} (V : α → Value) (base g : Nat) (P : Nat → Prop) (b : List Int) (w : World) (r : α × Nat × Int) (e : Ending) (w' : World) : Prop :=
  e = .returned (V r.1) ∧ Rd base w' g P b r.2.1 r.2.2 ∧ Frm w w' (fun k => k = g)

theorem Read.of {α : Type} {V : α → Value} {base g : Nat} {P : Nat → Prop} {b : List Int} {w w' : World} {z : α} {r : α × Int × Int} {at_ : Nat} {e : Ending}
    (h : e = .returned (if r.2.2 = 0 then V r.1 else V z) ∧ Rd base w' g P b (if r.2.2 = 0 then at_ + r.2.1.toNat else at_) r.2.2 ∧ Frm w w' (fun k => k = g)) : Read V base g P b w (rStep z r (at_, 0)) e w' := by
  unfold rStep
  rw [if_pos rfl]
  by_cases he : r.2.2 = 0
  · rw [if_pos he] at h ⊢
    rw [if_pos he, he] at h
    exact h
  · rw [if_neg he] at h ⊢
    rw [if_neg he] at h
    exact h

theorem Read.failed {α : Type} {V : α → Value} {base g : Nat} {P : Nat → Prop} {b : List Int} {w w' : World} {z : α} {r : α × Int × Int} {s : Nat × Int} {e : Ending} (hf : s.2 ≠ 0) (hR : Rd base w g P b s.1 s.2)
    (h : e = .returned (V z) ∧ w' = w) : Read V base g P b w (rStep z r s) e w' := by
  unfold rStep
  rw [if_neg hf]
  obtain ⟨rfl, rfl⟩ := h
  exact ⟨rfl, hR, Frm.refl _ _⟩

section
variable (base g : Nat) (P : Nat → Prop) (b : List Int) (s : Nat × Int) (w : World) (h : Rd base w g P b s.1 s.2) (hby : Bytes b) (hbl : b.length ≤ 1000000000000)
include h hby hbl

theorem num_any (bx : Nat) (most : Int) (hbx : w.cell? ⟨bx, 0, none⟩ = some (.int .i64 most)) :
    Calls Try.prog 76 #[.pointer (some ⟨g, 0, none⟩), .func (.func 96) #[] #[.pointer (some ⟨bx, 0, none⟩)]] w (Read (.int .i64) base g P b w (rStep 0 (numR most (b.drop s.1)) s)) := by
  obtain ⟨at_, f⟩ := s
  dsimp only at *
  have hrb : Bytes (b.drop at_) := fun x hx => hby x (List.mem_of_mem_drop hx)
  have hal := h.len
  by_cases hf : f = 0
  · subst hf
    refine (readNumber_calls base g P b at_ w bx h (numR most (b.drop at_)).1 (numR most (b.drop at_)).2.1.toNat (numR most (b.drop at_)).2.1 (numR most (b.drop at_)).2.2
      (fun he => by have := numR_size most _ hrb he; rw [List.length_drop] at this; omega) hbl
      (fun A n c hn hc hC => numFn_calls A n c bx most (b.drop at_) w.drew (by rw [List.length_drop]; omega) hc hC hrb (by omega) hbx)).mono (fun e w' hh => Read.of hh)
  · exact (readNumber_failed base g P b at_ f w bx h hf).mono (fun e w' hh => Read.failed (s := (at_, f)) hf h hh)

theorem txt_any (bx : Nat) (most : Int) (hbx : w.cell? ⟨bx, 0, none⟩ = some (.int .i64 most)) :
    Calls Try.prog 99 #[.pointer (some ⟨g, 0, none⟩), .func (.func 100) #[] #[.pointer (some ⟨bx, 0, none⟩)]] w (Read .string base g P b w (rStep (⟨#[]⟩ : ByteArray) (txtR most (b.drop s.1)) s)) := by
  obtain ⟨at_, f⟩ := s
  dsimp only at *
  have hrb : Bytes (b.drop at_) := fun x hx => hby x (List.mem_of_mem_drop hx)
  have hal := h.len
  by_cases hf : f = 0
  · subst hf
    refine (readText_calls base g P b at_ w bx h (txtR most (b.drop at_)).1 (txtR most (b.drop at_)).2.1.toNat (txtR most (b.drop at_)).2.1 (txtR most (b.drop at_)).2.2
      (fun he => by have := txtR_size most _ hrb he; rw [List.length_drop] at this; omega) hbl
      (fun A n c hn hc hC => txtFn_calls A n c bx most (b.drop at_) w.drew (by rw [List.length_drop]; omega) hc hC hrb (by omega) hbx)).mono (fun e w' hh => Read.of hh)
  · exact (readText_failed base g P b at_ f w bx h hf).mono (fun e w' hh => Read.failed (s := (at_, f)) hf h hh)

theorem Number_calls (most : Int) : Calls Try.prog 78 #[.pointer (some ⟨g, 0, none⟩), .int .i64 most] w (Read (.int .i64) base g P b w (rStep 0 (numR most (b.drop s.1)) s)) := by
  have hF : Frm w (w.alloc (.cells #[.int .i64 most] 3)) (fun _ => False) := (Frm.refl _ _).alloc _
  have HX := Aside0.mk (num_any base g P b s (w.alloc (.cells #[.int .i64 most] 3)) (h.frm hF (fun h => h) (fun _ _ h => h)) hby hbl w.heap.size most (blk_cell (blk_new w _) 0))
  obtain ⟨r, hr⟩ : ∃ r, rStep 0 (numR most (b.drop s.1)) s = r := ⟨_, rfl⟩
  rw [hr] at HX ⊢
  have HF := Aside0.mk hF
  clear hr h hby hbl hF
  go_enter Try.func78, Try.ntmps78
  go_wp2_with fail
  refine HX.out.mono ?_
  rintro e w' ⟨rfl, h2, h3⟩
  have HZ := Aside0.mk h2
  have HZ3 := Aside0.mk (((Frm.refl w (fun k => k = g)).alloc _).then_ h3 (fun _ h => .inl h))
  clear h2 h3
  go_wp2
  go_ret
  exact ⟨rfl, HZ.out, HZ3.out⟩

theorem Text_calls (most : Int) : Calls Try.prog 80 #[.pointer (some ⟨g, 0, none⟩), .int .i64 most] w (Read .string base g P b w (rStep (⟨#[]⟩ : ByteArray) (txtR most (b.drop s.1)) s)) := by
  have hF : Frm w (w.alloc (.cells #[.int .i64 most] 3)) (fun _ => False) := (Frm.refl _ _).alloc _
  have HX := Aside0.mk (txt_any base g P b s (w.alloc (.cells #[.int .i64 most] 3)) (h.frm hF (fun h => h) (fun _ _ h => h)) hby hbl w.heap.size most (blk_cell (blk_new w _) 0))
  obtain ⟨r, hr⟩ : ∃ r, rStep (⟨#[]⟩ : ByteArray) (txtR most (b.drop s.1)) s = r := ⟨_, rfl⟩
  rw [hr] at HX ⊢
  have HF := Aside0.mk hF
  clear hr h hby hbl hF
  go_enter Try.func80, Try.ntmps80
  go_wp2_with fail
  refine HX.out.mono ?_
  rintro e w' ⟨rfl, h2, h3⟩
  have HZ := Aside0.mk h2
  have HZ3 := Aside0.mk (((Frm.refl w (fun k => k = g)).alloc _).then_ h3 (fun _ h => .inl h))
  clear h2 h3
  go_wp2
  go_ret
  exact ⟨rfl, HZ.out, HZ3.out⟩
end

set_option maxHeartbeats 800000 in
theorem rest_calls (base g : Nat) (P : Nat → Prop) (b : List Int) (at_ : Nat) (f : Int) (w : World) (h : Rd base w g P b at_ f) (hbl : b.length ≤ 1000000000000) :
    Calls Try.prog 37 #[.pointer (some ⟨g, 0, none⟩)] w fun e w' => e = .returned (.int .i64 ((b.length - at_ : Nat) : Int)) ∧ ∃ m, w' = w.drewN m := by
  obtain ⟨A, n, c, hb, hg, hr, ha⟩ := h
  have h0 : w.cell? ⟨g, 0, none⟩ = some (.slice A n c) := blk_cell hb 0
  have h1 : w.cell? ⟨g, 1, none⟩ = some (.int .i64 (at_ : Int)) := blk_cell hb 1
  have hn := (Kd.R_reads' hr).1
  have ha2 : at_ ≤ n := by omega
  have hn2 : n ≤ 1000000000000 := by omega
  rw [← hn]
  clear hb hr hn ha hbl
  go_enter Try.func37, Try.ntmps37
  go_wp2_with fail
  go_quiet (fail)
  go_wp2
  go_ret
  refine ⟨?_, ⟨_, rfl⟩⟩
  have : ((n - at_ : Nat) : Int) = (n : Int) - (at_ : Int) := by omega
  rw [this]
  rfl

def closeR (b : List Int) (s : Nat × Int) : Int := if s.2 = 0 ∧ 0 < b.length - s.1 then 5 else s.2

set_option maxHeartbeats 800000 in
theorem close_calls (base g : Nat) (P : Nat → Prop) (b : List Int) (s : Nat × Int) (w : World) (h : Rd base w g P b s.1 s.2) (hbl : b.length ≤ 1000000000000) :
    Calls Try.prog 36 #[.pointer (some ⟨g, 0, none⟩)] w fun e w' => e = .returned (.int .i64 (closeR b s)) ∧ ∃ m, w' = w.drewN m := by
  obtain ⟨at_, f⟩ := s
  unfold closeR
  dsimp only at *
  have HR := Aside0.mk (rest_calls base g P b at_ f w h hbl)
  obtain ⟨A, n, c, hb, hg, hr, ha⟩ := h
  have h2 : w.cell? ⟨g, 2, none⟩ = some (.int .i64 f) := blk_cell hb 2
  clear hb hr ha hbl
  obtain ⟨z, hze⟩ : ∃ z, b.length - at_ = z := ⟨_, rfl⟩
  rw [hze] at HR ⊢
  clear hze
  by_cases hf : f = 0
  · subst hf
    by_cases hz : 0 < z
    · rw [if_pos ⟨rfl, hz⟩]
      have hz1 : decide (0 < z) = true := decide_eq_true hz
      go_enter Try.func36, Try.ntmps36
      go_wp2_with fail
      refine HR.out.mono ?_
      rintro e w' ⟨rfl, m, rfl⟩
      go_wp2
      go_ret
      exact ⟨rfl, ⟨_, rfl⟩⟩
    · rw [if_neg (fun h => hz h.2)]
      have hz1 : decide (0 < z) = false := decide_eq_false hz
      go_enter Try.func36, Try.ntmps36
      go_wp2_with fail
      refine HR.out.mono ?_
      rintro e w' ⟨rfl, m, rfl⟩
      go_wp2
      go_ret
      exact ⟨rfl, ⟨_, rfl⟩⟩
  · rw [if_neg (fun h => hf h.1)]
    have hf1 : (f == 0) = false := beq_eq_false_iff_ne.mpr hf
    clear hf
    go_enter Try.func36, Try.ntmps36
    go_wp2
    go_ret
    exact ⟨rfl, ⟨0, rfl⟩⟩

end Go.Proofs.Ytbddllklagiajaa
