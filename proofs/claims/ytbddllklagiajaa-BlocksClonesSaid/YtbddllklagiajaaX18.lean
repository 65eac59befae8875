/- slices.Equal at bytes, (*Map).Equal. -/
import Derived.Test.YtbddllklagiajaaX10
import Derived.Deep.QuietTactic
import Derived.BigQuiet
namespace Go.Proofs.Ytbddllklagiajaa
open Go.RowKit Go.Proofs.YtbddllklagiajaaW.PrintWords Go.Proofs.YtbddllklagiajaaW.PrintLast Go.Proofs.YtbddllklagiajaaW.PrintMore
set_option linter.unusedVariables false
set_option linter.unusedSimpArgs false

set_option maxRecDepth 100000 in
set_option maxHeartbeats 4000000 in
theorem sequal_calls (A1 A2 : Option Addr) (n1 n2 c1 c2 : Nat) (xs ys : List Int) (w : World) (h1 : xs.length = n1) (h2 : ys.length = n2) (C1 : KB.C w A1 n1 xs) (C2 : KB.C w A2 n2 ys) (hn : n1 ≤ 65536) :
    Calls Try.prog 93 #[.slice A1 n1 c1, .slice A2 n2 c2] w fun e w' => e = .returned (.bool (decide (xs = ys))) ∧ ∃ m, w' = w.drewN m := by
  have HC1 := Aside0.mk C1
  have HC2 := Aside0.mk C2
  have HL1 := Aside0.mk h1
  have HL2 := Aside0.mk h2
  clear C1 C2 h1 h2
  by_cases hne : n1 = n2
  · subst hne
    go_enter Try.func93, Try.ntmps93
    go_wp2
    go_loopw [13] (fun i wr => ∃ k : Nat, k ≤ n1 ∧ i = .int .i64 k ∧ xs.take k = ys.take k ∧ ∃ m, wr = w.drewN m) (fun i _ => n1 - (intOf i).toNat)
    case atStart => exact ⟨0, Nat.zero_le _, rfl, by simp, 0, rfl⟩
    case round =>
      obtain ⟨k, hk, rfl, ht, m, rfl⟩ := hrel
      have HT := Aside0.mk ht
      clear ht
      by_cases hlt : k < n1
      · obtain ⟨a1, e1, x1⟩ := Kd.at_int HC1.out k (by omega) (by omega)
        obtain ⟨a2, e2, x2⟩ := Kd.at_int HC2.out k (by omega) (by omega)
        subst e1 e2
        rw [mg_rd, Int.toNat_natCast] at x1 x2
        obtain ⟨s1, hs1⟩ : ∃ s, xs.getD k 0 = s := ⟨_, rfl⟩
        obtain ⟨s2, hs2⟩ : ∃ s, ys.getD k 0 = s := ⟨_, rfl⟩
        rw [hs1] at x1
        rw [hs2] at x2
        have y1 : ∀ q, (w.drewN q).cell? (a1.add k) = some (.int .u8 s1) := fun q => x1
        have y2 : ∀ q, (w.drewN q).cell? (a2.add k) = some (.int .u8 s2) := fun q => x2
        have HS1 := Aside0.mk hs1
        have HS2 := Aside0.mk hs2
        clear hs1 hs2
        by_cases he : s1 = s2
        · subst he
          go_wp2_with fail
          go_quiet (fail)
          go_wp2
          go_roundw
          case rel =>
            refine ⟨k + 1, by omega, by go_num, ?_, _, rfl⟩
            rw [take_snoc' xs k (by rw [HL1.out]; exact hlt), take_snoc' ys k (by rw [HL2.out]; exact hlt), HT.out, HS1.out, HS2.out]
          case measure => simp [intOf]; omega
        · have hbe : (s1 == s2) = false := beq_eq_false_iff_ne.mpr he
          have hbn : (s1 != s2) = true := by simp [bne, hbe]
          have HE := Aside0.mk he
          clear he
          go_wp2_with fail
          go_quiet (fail)
          go_wp2
          go_ret
          have hxy : ¬ xs = ys := fun e => HE.out (by rw [← HS1.out, ← HS2.out, e])
          refine ⟨?_, _, World.drewN_drewN _ _ _⟩
          rw [decide_eq_false hxy]
          rfl
      · obtain rfl : k = n1 := by omega
        clear hlt hk
        go_wp2
        go_ret
        have ht := HT.out
        rw [List.take_of_length_le (by rw [HL1.out]; exact Nat.le_refl _), List.take_of_length_le (by rw [HL2.out]; exact Nat.le_refl _)] at ht
        refine ⟨?_, _, rfl⟩
        rw [decide_eq_true ht]
        rfl
  · have hd : ((n1 : Int) == (n2 : Int)) = false := beq_eq_false_iff_ne.mpr (by omega)
    have hd2 : ((n1 : Int) != (n2 : Int)) = true := by simp [bne, hd]
    have HNE := Aside0.mk hne
    go_enter Try.func93, Try.ntmps93
    go_wp2
    go_ret
    have hxy : ¬ xs = ys := fun e => HNE.out (by rw [← HL1.out, ← HL2.out, e])
    refine ⟨?_, 0, rfl⟩
    rw [decide_eq_false hxy]
    rfl

set_option maxRecDepth 100000 in
set_option maxHeartbeats 4000000 in
theorem equal_calls (base1 g1 base2 g2 : Nat) (P1 P2 : Nat → Prop) (first : Int) (st1 st2 : List Int) (w : World) (h1 : Mp base1 w g1 P1 first st1) (h2 : Mp base2 w g2 P2 first st2) (hl : st1.length ≤ 65536) :
    Calls Try.prog 59 #[.pointer (some ⟨g1, 0, none⟩), .pointer (some ⟨g2, 0, none⟩)] w fun e w' => e = .returned (.bool (decide (st1 = st2))) ∧ ∃ m, w' = w.drewN m := by
  obtain ⟨A1, n1, c1, hb1, _, hr1⟩ := h1
  obtain ⟨A2, n2, c2, hb2, _, hr2⟩ := h2
  have r1 := Kd.R_reads' hr1
  have r2 := Kd.R_reads' hr2
  have HSE := Aside0.mk (fun q => sequal_calls A1 A2 n1 n2 c1 c2 st1 st2 (w.drewN q) r1.1.symm r2.1.symm (by rw [r1.1]; exact r1.2.2) (by rw [r2.1]; exact r2.2.2) (by rw [r1.1]; exact hl))
  have x0 : ∀ q, (w.drewN q).cell? ⟨g1, 0, none⟩ = some (.int .i64 first) := fun q => blk_cell hb1 0
  have x1 : ∀ q, (w.drewN q).cell? ⟨g1, 1, none⟩ = some (.slice A1 n1 c1) := fun q => blk_cell hb1 1
  have x2 : ∀ q, (w.drewN q).cell? ⟨g2, 0, none⟩ = some (.int .i64 first) := fun q => blk_cell hb2 0
  have x3 : ∀ q, (w.drewN q).cell? ⟨g2, 1, none⟩ = some (.slice A2 n2 c2) := fun q => blk_cell hb2 1
  clear hb1 hb2 hr1 hr2 r1 r2 hl
  go_enter Try.func59, Try.ntmps59
  go_wp2_with fail
  go_quiet ((go_at_call 93; exact Calls.quiet_of (HSE.out _)))
  go_wp2
  go_ret
  exact ⟨rfl, _, rfl⟩
end Go.Proofs.Ytbddllklagiajaa
