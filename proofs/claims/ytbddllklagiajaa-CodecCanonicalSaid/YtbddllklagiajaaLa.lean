/- The walk of CodecParses. -/
import Derived.Test.YtbddllklagiajaaVd
import Derived.Test.YtbddllklagiajaaMd
import Derived.ProofKit
namespace Go.Proofs.Ytbddllklagiajaa
open PCodecKeeps (info5)
open Go.RowKit Go.Proofs.YtbddllklagiajaaW.PrintWords Go.Proofs.YtbddllklagiajaaW.PrintLast Go.Proofs.YtbddllklagiajaaW.PrintMore
set_option linter.unusedVariables false
set_option linter.unusedSimpArgs false

theorem parse_calls (A : Option Addr) (n c : Nat) (l : List Int) (w : World) (hn : l.length = n) (hc : n ≤ c) (hC : KB.C w A n l) (hb : Bytes l) (hl : n ≤ 9223372036854775806) :
    Calls Try.prog 19 #[.slice A n c] w fun e w' => e = .returned (.tuple #[.int .i64 (prs l).1, .int .i64 (prs l).2.1, .int .i64 (prs l).2.2]) ∧ Drawn0 w w' := by
  subst hn
  exact PCodecNumbers.codec_Parse.calls 40 A c l _ _ _ w hC hc (Parse_f l hl hb (by omega))

theorem refParse_calls (A : Option Addr) (n c : Nat) (l : List Int) (w : World) (hn : l.length = n) (hc : n ≤ c) (hC : KB.C w A n l) (hb : Bytes l) (hl : n ≤ 9223372036854775806) :
    Calls Try.prog 20 #[.slice A n c] w fun e w' => e = .returned (.tuple #[.int .i64 (prs l).1, .int .i64 (prs l).2.1, .int .i64 (prs l).2.2]) ∧ Drawn0 w w' := by
  subst hn
  exact PCodecKeeps.replevinref01_Parse.calls 40 A c l _ _ _ w hC hc (refParse_f l hl hb (by omega))

theorem append_f (l : List Int) (n : Nat) (hn : n < 9223372036854775808) (hl : l.length ≤ 140737488000000) : PCodecNumbers.codec_Append.f 40 l n = some (l ++ enc n, 0) := by
  have h1 := enc_len9 hn
  unfold PCodecNumbers.codec_Append.f
  rw [if_neg (by omega)]
  simp only [Option.bind_some, List.nil_append, List.length_nil, u64_of_nat (show n < 18446744073709551616 by omega), natural_f (k := 40) (show n < 18446744073709551616 by omega) (by omega)]
  rw [if_pos (by omega), if_pos (by omega)]

theorem append_calls (A : Option Addr) (m c : Nat) (l : List Int) (n : Nat) (w : World) (hm : l.length = m) (hc : m ≤ c) (hC : KB.C w A m l) (hn : n < 9223372036854775808) (hl : m ≤ 140737488000000) :
    Calls Try.prog 22 #[.slice A m c, .int .i64 n] w fun e w' => ∃ v, e = .returned (.tuple #[v, .int .i64 0]) ∧ KB.R 5 w' w.heap.size (fun _ => True) v (l ++ enc n) ∧ Below w.heap.size w w' := by
  subst hm
  exact PCodecNumbers.codec_Append.calls 40 A c l n _ _ w hC hc (append_f l n hn hl)

/-- What Parse answers, two ways. -/
theorem prs_ways (l : List Int) (hb : Bytes l) : (∃ f : Int, prs l = (0, 0, f) ∧ f ≠ 0) ∨ (∃ n k : Nat, prs l = ((n : Int), (k : Int), 0) ∧ n < 9223372036854775808 ∧ k ≤ l.length ∧ enc n = l.take k) := by
  have h9 := grp9_lt l
  unfold prs grp at *
  by_cases h1 : 9 ≤ lead l
  · rw [if_pos h1]; exact .inl ⟨3, rfl, by decide⟩
  rw [if_neg h1] at h9 ⊢
  by_cases h2 : l.length ≤ lead l
  · rw [if_pos h2]; exact .inl ⟨28, rfl, by decide⟩
  rw [if_neg h2] at h9 ⊢
  by_cases h3 : 0 < lead l ∧ l.getD (lead l) 0 = 0
  · rw [if_pos h3]; exact .inl ⟨3, rfl, by decide⟩
  rw [if_neg h3] at h9 ⊢
  exact .inr ⟨_, _, rfl, h9, show lead l + 1 ≤ l.length by omega, enc_val l hb (by omega) h3⟩

set_option maxHeartbeats 1000000 in
set_option maxRecDepth 100000 in
/-- From the place on where the bytes are cut: n of them. -/
theorem codecParses_walk (a0 : Option Addr) (len0 cap0 : Nat) (l : List Int) (w : World) (hl : l.length = min len0 100) (hC : KB.C w a0 l.length l) (hB : Bytes l) (hm : len0 ≤ 9223372036854775807) (hc : len0 ≤ cap0) :
    Calls Try.prog 3 #[.slice a0 len0 cap0] w fun e w' => e = .returned (.bool true) ∧ Below w.heap.size w w' := by
  have HC := Aside0.mk hC
  have HBy := Aside0.mk hB
  have HL := Aside0.mk hl
  rcases prs_ways l hB with ⟨f, hp, hf⟩ | ⟨n, k, hp, hn, hk, he⟩
  · have HP := Aside0.mk hp
    have hf1 : (f != 0) = true := bne_iff_ne.mpr hf
    have hf2 : (f == 0) = false := beq_eq_false_iff_ne.mpr hf
    clear hC hB hl hp hf
    go_enter Try.func3, Try.ntmps3
    go_wp2_with fail
    all_goals
      refine (parse_calls _ _ _ l _ (by have := HL.out; omega) (by omega) (by have := HC.out; rw [HL.out] at this; first | (rw [show min len0 100 = 100 by omega] at this; exact this) | (rw [show min len0 100 = len0 by omega] at this; exact this)) HBy.out (by omega)).mono ?_
      rintro e w1 ⟨rfl, D1⟩
      rw [HP.out]
      have HB := Aside0.mk D1.below
      clear D1
      go_wp2_with fail
      refine (refParse_calls _ _ _ l _ (by have := HL.out; omega) (by omega) (by have := Kd.C_below HC.out HB.out; rw [HL.out] at this; first | (rw [show min len0 100 = 100 by omega] at this; exact this) | (rw [show min len0 100 = len0 by omega] at this; exact this)) HBy.out (by omega)).mono ?_
      rintro e w2 ⟨rfl, D2⟩
      rw [HP.out]
      have HB2 := Aside0.mk (below_step HB.out D2.below)
      clear D2 HB
      go_wp2_with fail
      refine (known_calls _).mono ?_
      rintro e w3 ⟨rfl, B3⟩
      have HB := Aside0.mk (below_step HB2.out B3)
      clear B3
      go_wp2
      go_ret
      exact ⟨rfl, HB.out⟩
  · have HP := Aside0.mk hp
    clear hC hB hl hp
    go_enter Try.func3, Try.ntmps3
    go_wp2_with fail
    all_goals
      refine (parse_calls _ _ _ l _ (by have := HL.out; omega) (by omega) (by have := HC.out; rw [HL.out] at this; first | (rw [show min len0 100 = 100 by omega] at this; exact this) | (rw [show min len0 100 = len0 by omega] at this; exact this)) HBy.out (by omega)).mono ?_
      rintro e w1 ⟨rfl, D1⟩
      rw [HP.out]
      have HB := Aside0.mk D1.below
      clear D1
      go_wp2_with fail
      refine (refParse_calls _ _ _ l _ (by have := HL.out; omega) (by omega) (by have := Kd.C_below HC.out HB.out; rw [HL.out] at this; first | (rw [show min len0 100 = 100 by omega] at this; exact this) | (rw [show min len0 100 = len0 by omega] at this; exact this)) HBy.out (by omega)).mono ?_
      rintro e w2 ⟨rfl, D2⟩
      rw [HP.out]
      have HB2 := Aside0.mk (below_step HB.out D2.below)
      clear D2 HB
      go_wp2_with fail
      refine (append_calls _ _ _ [] n _ rfl (Nat.le_refl _) (Kd.C_nil _ _) hn (Nat.zero_le _)).mono ?_
      rintro e w3 ⟨v, rfl, R3, B3⟩
      obtain ⟨A3, n3, c3, rfl⟩ := R_form' R3
      have HB3 := Aside0.mk (below_step HB2.out B3)
      have hcv : ∀ W, Below w3.heap.size w3 W → (convert 22 9 (.slice A3 n3 c3)).run Try.prog W = .ok (.string (strOfNums (l.take k))) W := by
        intro W hW
        have h1 := Kd.R_reads' (Kd.R_below R3 hW)
        have h2 := Kd.C_string (P := Try.prog) (c := c3) Try.underlying22 Try.underlying5 Try.underlying9 h1.2.2
        rw [← h1.1, List.nil_append, he] at h2
        exact h2
      have hcw : ∀ W, Below w3.heap.size w3 W → (convert 22 9 (.slice a0 k cap0)).run Try.prog W = .ok (.string (strOfNums (l.take k))) W := by
        intro W hW
        have h1 := Kd.C_take (Kd.C_below (Kd.C_below HC.out HB3.out) hW) hk
        have h2 := Kd.C_string (P := Try.prog) (c := cap0) Try.underlying22 Try.underlying5 Try.underlying9 h1
        rw [show (l.take k).length = k by rw [List.length_take]; omega] at h2
        exact h2
      have hks : k ≤ cap0 := by have := HL.out; omega
      have HCV := Aside0.mk hcv
      have HCW := Aside0.mk hcw
      clear R3 B3 HB2 hcv hcw he
      obtain ⟨sx, hsx⟩ : ∃ sx, strOfNums (l.take k) = sx := ⟨_, rfl⟩
      rw [hsx] at HCV HCW
      clear hsx
      go_wp2_with fail
      refine start_ (n := 15) (S := fun w' => (convert 22 9 (.slice A3 n3 c3)).run Try.prog w' = .ok (.string sx) w' ∧ (convert 22 9 (.slice a0 k cap0)).run Try.prog w' = .ok (.string sx) w' ∧ True ∧ True) (ds := []) #[false, false, false, false, false, false, false, false, false, false, false, false, false, false, false] (by kernel_rfl) rfl rfl ⟨HCV.out _ (Below.refl _ _).drew, HCW.out _ (Below.refl _ _).drew, trivial, trivial⟩ (fun hHeld => ?_)
      refine one_ (i := 0) (N := some 65) #[true, false, false, false, false, false, false, false, false, false, false, false, false, false, false] rfl rfl (by kernel_rfl) (by decide) (fun K hK => ?_)
      refine goes_ Try.func21 (by kernel_rfl) rfl #[] (by rfl) rfl rfl (by simp) ?_
      refine (known_calls _).mono ?_
      rintro e w4 ⟨rfl, B4⟩
      refine ⟨_, rfl, ?_⟩
      have hw4 : Below w3.heap.size w3 w4 := below_step (Below.refl _ _).drew B4
      have HB4 := Aside0.mk (below_step HB3.out hw4)
      refine hK.out _ _ ⟨HCV.out _ hw4, HCW.out _ hw4, trivial, trivial⟩ (fun hHeld => ?_)
      clear hK K HCV HCW B4 hw4
      refine pure_ (i := 1) (N := some 66) (v := ?_) (a' := ?_) #[true, true, false, false, false, false, false, false, false, false, false, false, false, false, false] rfl rfl (by kernel_rfl) (fun _ _ _ h => h) (Or.inl ⟨by rfl, ?_⟩) ?_ ?_
      rotate_left
      · intro w'
        go_simp
        with_reducible rfl
      rotate_left
      · simp only [Act.put, List.setIfInBounds_toArray, List.set_cons_zero, List.set_cons_succ, i64_w, i32_w]
        rfl
      refine pure_ (i := 2) (N := some 67) (v := ?_) (a' := ?_) #[true, true, true, false, false, false, false, false, false, false, false, false, false, false, false] rfl rfl (by kernel_rfl) (fun _ _ _ h => h) (Or.inl ⟨by rfl, ?_⟩) ?_ ?_
      rotate_left
      · intro w'
        go_simp
        with_reducible rfl
      rotate_left
      · simp only [Act.put, List.setIfInBounds_toArray, List.set_cons_zero, List.set_cons_succ, i64_w, i32_w]
        rfl
      refine pure_ (i := 3) (N := some 68) (v := ?_) (a' := ?_) #[true, true, true, true, false, false, false, false, false, false, false, false, false, false, false] rfl rfl (by kernel_rfl) (fun _ _ _ h => h) (Or.inl ⟨by rfl, ?_⟩) ?_ ?_
      rotate_left
      · intro w'
        go_simp
        with_reducible rfl
      rotate_left
      · simp only [Act.put, List.setIfInBounds_toArray, List.set_cons_zero, List.set_cons_succ, i64_w, i32_w]
        rfl
      refine pure_ (i := 4) (N := some 69) (v := ?_) (a' := ?_) #[true, true, true, true, true, false, false, false, false, false, false, false, false, false, false] rfl rfl (by kernel_rfl) (fun _ _ _ h => h) (Or.inl ⟨by rfl, ?_⟩) ?_ ?_
      rotate_left
      · intro w'
        go_simp
        with_reducible rfl
      rotate_left
      · simp only [Act.put, List.setIfInBounds_toArray, List.set_cons_zero, List.set_cons_succ, i64_w, i32_w]
        rfl
      refine pure_ (i := 5) (N := some 70) (v := ?_) (a' := ?_) #[true, true, true, true, true, true, false, false, false, false, false, false, false, false, false] rfl rfl (by kernel_rfl) (fun _ _ _ h => h) (Or.inl ⟨by rfl, ?_⟩) ?_ ?_
      rotate_left
      · intro w'
        go_simp
        with_reducible rfl
      rotate_left
      · simp only [Act.put, List.setIfInBounds_toArray, List.set_cons_zero, List.set_cons_succ, i64_w, i32_w]
        rfl
      refine pure_ (i := 6) (N := some 71) (v := ?_) (a' := ?_) #[true, true, true, true, true, true, true, false, false, false, false, false, false, false, false] rfl rfl (by kernel_rfl) (fun _ _ _ h => h) (Or.inl ⟨by rfl, ?_⟩) ?_ ?_
      rotate_left
      · intro w'
        go_simp
        with_reducible rfl
      rotate_left
      · simp only [Act.put, List.setIfInBounds_toArray, List.set_cons_zero, List.set_cons_succ, i64_w, i32_w]
        rfl
      refine take_ (i := 7) (N := some 72) (v := ?_) (a' := ?_) #[true, true, true, true, true, true, true, true, false, false, false, false, false, false, false] rfl rfl (by kernel_rfl) (fun _ _ _ h => h) (Or.inl ⟨by rfl, ?_⟩) hHeld ?_ ?_
      rotate_left
      · rintro w' ⟨s0, s1, s2, s3⟩
        go_simp
        with_reducible rfl
      rotate_left
      · simp only [Act.put, List.setIfInBounds_toArray, List.set_cons_zero, List.set_cons_succ, i64_w, i32_w]
        rfl
      refine pure_ (i := 8) (N := some 73) (v := ?_) (a' := ?_) #[true, true, true, true, true, true, true, true, true, false, false, false, false, false, false] rfl rfl (by kernel_rfl) (fun _ _ _ h => h) (Or.inl ⟨by rfl, ?_⟩) ?_ ?_
      rotate_left
      · intro w'
        go_simp
        with_reducible rfl
      rotate_left
      · simp only [Act.put, List.setIfInBounds_toArray, List.set_cons_zero, List.set_cons_succ, i64_w, i32_w]
        rfl
      refine pure_ (i := 9) (N := some 74) (v := ?_) (a' := ?_) #[true, true, true, true, true, true, true, true, true, true, false, false, false, false, false] rfl rfl (by kernel_rfl) (fun _ _ _ h => h) (Or.inl ⟨by rfl, ?_⟩) ?_ ?_
      rotate_left
      · intro w'
        go_simp
        with_reducible rfl
      rotate_left
      · simp only [Act.put, List.setIfInBounds_toArray, List.set_cons_zero, List.set_cons_succ, i64_w, i32_w]
        rfl
      refine pure_ (i := 10) (N := some 75) (v := ?_) (a' := ?_) #[true, true, true, true, true, true, true, true, true, true, true, false, false, false, false] rfl rfl (by kernel_rfl) (fun _ _ _ h => h) (Or.inl ⟨by rfl, ?_⟩) ?_ ?_
      rotate_left
      · intro w'
        go_simp
        with_reducible rfl
      rotate_left
      · simp only [Act.put, List.setIfInBounds_toArray, List.set_cons_zero, List.set_cons_succ, i64_w, i32_w]
        rfl
      refine take_ (i := 11) (N := some 76) (v := ?_) (a' := ?_) #[true, true, true, true, true, true, true, true, true, true, true, true, false, false, false] rfl rfl (by kernel_rfl) (fun _ _ _ h => h) (Or.inl ⟨by rfl, ?_⟩) hHeld ?_ ?_
      rotate_left
      · rintro w' ⟨s0, s1, s2, s3⟩
        go_simp
        with_reducible rfl
      rotate_left
      · simp only [Act.put, List.setIfInBounds_toArray, List.set_cons_zero, List.set_cons_succ, i64_w, i32_w]
        rfl
      refine pure_ (i := 12) (N := some 77) (v := ?_) (a' := ?_) #[true, true, true, true, true, true, true, true, true, true, true, true, true, false, false] rfl rfl (by kernel_rfl) (fun _ _ _ h => h) (Or.inl ⟨by rfl, ?_⟩) ?_ ?_
      rotate_left
      · intro w'
        go_simp
        with_reducible rfl
      rotate_left
      · simp only [Act.put, List.setIfInBounds_toArray, List.set_cons_zero, List.set_cons_succ, i64_w, i32_w]
        rfl
      refine pure_ (i := 13) (N := some 78) (v := ?_) (a' := ?_) #[true, true, true, true, true, true, true, true, true, true, true, true, true, true, false] rfl rfl (by kernel_rfl) (fun _ _ _ h => h) (Or.inl ⟨by rfl, ?_⟩) ?_ ?_
      rotate_left
      · intro w'
        go_simp
        with_reducible rfl
      rotate_left
      · simp only [Act.put, List.setIfInBounds_toArray, List.set_cons_zero, List.set_cons_succ, i64_w, i32_w]
        rfl
      refine pure_ (i := 14) (N := some 2) (v := ?_) (a' := ?_) #[true, true, true, true, true, true, true, true, true, true, true, true, true, true, true] rfl rfl (by kernel_rfl) (fun _ _ _ h => h) (Or.inl ⟨by rfl, ?_⟩) ?_ ?_
      rotate_left
      · intro w'
        go_simp
        with_reducible rfl
      rotate_left
      · simp only [Act.put, List.setIfInBounds_toArray, List.set_cons_zero, List.set_cons_succ, i64_w, i32_w]
        rfl
      refine done_ (by kernel_rfl) ?_
      go_wp2
      go_ret
      exact ⟨rfl, HB4.out⟩

end Go.Proofs.Ytbddllklagiajaa
