/- The reference's 'groups'. -/
import Derived.Test.YtbddllklagiajaaMc
set_option linter.unusedVariables false
set_option linter.unusedSimpArgs false
namespace Go.Proofs.Ytbddllklagiajaa
open Go.RowKit Go.Proofs.YtbddllklagiajaaW.PrintWords Go.Proofs.YtbddllklagiajaaW.PrintLast Go.Proofs.YtbddllklagiajaaW.PrintMore

/-- The reference's answer: a number beyond 64 bits is an error. -/
def grpR (most : Nat) (l : List Int) : Nat × Nat × Nat :=
  if (grp most l).2.2 = 0 ∧ lead l = 9 ∧ 1 < l.getD (lead l) 0 then (0, 0, 3) else grp most l

theorem grpR_9 (l : List Int) : grpR 9 l = grp 9 l := by
  unfold grpR
  rw [if_neg]
  rintro ⟨h1, h2, _⟩
  unfold grp at h1
  rw [if_pos (by omega)] at h1
  simp at h1

theorem val_drop (m : List Int) (i : Nat) (h : i < m.length) (hb : 0 ≤ m.getD i 0) : val (m.drop i) = (m.getD i 0 % 128).toNat + 128 * val (m.drop (i + 1)) := by
  rw [List.drop_eq_getElem_cons h]
  simp [val, List.getD, h]

theorem ref_l1 (l : List Int) (e : Nat) (he : e < l.length) (he9 : e ≤ 9) (hb : Bytes l) : ∀ (i k : Nat), i ≤ e + 1 → i < k →
    PCodecKeeps.replevinref01_groups.l1 k l e ((val ((l.take (e + 1)).drop i) % 18446744073709551616 : Nat) : Int) ((i : Int) - 1) = some (((val (l.take (e + 1)) % 18446744073709551616 : Nat) : Int), ((e + 1 : Nat) : Int), 0) := by
  intro i
  induction i with
  | zero =>
    intro k hi hk
    obtain ⟨k, rfl⟩ : ∃ m, k = m + 1 := ⟨k - 1, by omega⟩
    simp only [PCodecKeeps.replevinref01_groups.l1]
    rw [if_neg (by omega), List.drop_zero, show wrap64 ((e : Int) + 1) = ((e + 1 : Nat) : Int) by unfold wrap64; omega]
  | succ i ih =>
    intro k hi hk
    obtain ⟨k, rfl⟩ : ∃ m, k = m + 1 := ⟨k - 1, by omega⟩
    simp only [PCodecKeeps.replevinref01_groups.l1]
    have hx : ((i + 1 : Nat) : Int) - 1 = (i : Int) := by omega
    rw [hx, if_pos (by omega), if_pos (by omega), if_pos (by omega), rd_nat]
    have hg : (l.take (e + 1)).getD i 0 = l.getD i 0 := by
      rw [List.getD_eq_getElem?_getD, List.getD_eq_getElem?_getD, List.getElem?_take_of_lt (by omega)]
    have hc : 0 ≤ l.getD i 0 := by
      rw [List.getD_eq_getElem?_getD, List.getElem?_eq_getElem (by omega)]
      exact (hb _ (List.getElem_mem _)).1
    have hv := val_drop (l.take (e + 1)) i (by rw [List.length_take]; omega) (by rw [hg]; exact hc)
    rw [hg] at hv
    have e1 : IntKind.u64.wrap (IntKind.u64.wrap (128 * ((val ((l.take (e + 1)).drop (i + 1)) % 18446744073709551616 : Nat) : Int)) + IntKind.u64.wrap (Int.tmod (l.getD i 0) 128)) = ((val ((l.take (e + 1)).drop i) % 18446744073709551616 : Nat) : Int) := by
      rw [hv, Int.tmod_eq_emod_of_nonneg hc]
      simp only [IntKind.wrap_u64]
      omega
    rw [e1, show wrap64 ((i : Int) - 1) = (i : Int) - 1 by unfold wrap64; omega]
    exact ih k (by omega) (by omega)

def grpZ (g : Nat × Nat × Nat) : Int × Int × Int := ((g.1 : Int), (g.2.1 : Int), (g.2.2 : Int))

theorem val_lt64 (l : List Int) (hb : Bytes l) (h1 : lead l < l.length) (h2 : lead l ≤ 9) (h3 : ¬ (lead l = 9 ∧ 1 < l.getD (lead l) 0)) : val (l.take (lead l + 1)) < 18446744073709551616 := by
  have hc0 : 0 ≤ l.getD (lead l) 0 := by
    rw [List.getD_eq_getElem?_getD, List.getElem?_eq_getElem h1]
    exact (hb _ (List.getElem_mem _)).1
  by_cases h9 : lead l = 9
  · rw [take_snoc' l _ h1, val_append _ _ (by
      rw [List.getD_eq_getElem?_getD, List.getElem?_eq_getElem h1]
      exact (hb _ (List.getElem_mem _)).1)]
    have h4 := val_lt (l.take (lead l))
    rw [List.length_take, Nat.min_eq_left (by omega)] at h4 ⊢
    have h5 : (l.getD (lead l) 0 % 128).toNat ≤ 1 := by omega
    have h6 : (128 : Nat) ^ lead l = 9223372036854775808 := by rw [h9]
    rw [h6] at h4 ⊢
    have : (l.getD (lead l) 0 % 128).toNat * 9223372036854775808 ≤ 1 * 9223372036854775808 := Nat.mul_le_mul_right _ h5
    omega
  · have h4 := val_lt (l.take (lead l + 1))
    have h5 : (l.take (lead l + 1)).length ≤ 9 := by rw [List.length_take]; omega
    have h6 : 128 ^ (l.take (lead l + 1)).length ≤ 128 ^ 9 := Nat.pow_le_pow_right (by omega) h5
    have : (128 : Nat) ^ 9 = 9223372036854775808 := by decide
    omega

theorem ref_l0 (most : Nat) (l : List Int) (hm : most ≤ 10) (hlen : l.length ≤ 9223372036854775806) (hb : Bytes l) (d : Nat) : ∀ (k i : Nat), i + d = min (lead l) most → d + 20 < k →
    PCodecKeeps.replevinref01_groups.l0 k l most i = some (grpZ (grpR most l)) := by
  have hle := lead_le l
  induction d with
  | zero =>
    intro k i hi hk
    obtain ⟨k, rfl⟩ : ∃ m, k = m + 2 := ⟨k - 2, by omega⟩
    have hj : PCodecKeeps.replevinref01_groups.j1 (k + 1) l most i = some (grpZ (grpR most l)) := by
      simp only [PCodecKeeps.replevinref01_groups.j1]
      by_cases h1 : most ≤ lead l
      · have hg : grpZ (grpR most l) = (0, 0, 3) := by unfold grpR grp; rw [if_pos h1, if_neg (by simp)]; rfl
        rw [hg, if_pos (by omega)]
      · have hil : i = lead l := by omega
        rw [if_neg (by omega)]
        by_cases h2 : l.length ≤ lead l
        · have hg : grpZ (grpR most l) = (0, 0, 28) := by unfold grpR grp; rw [if_neg h1, if_pos h2, if_neg (by simp)]; rfl
          rw [hg, if_pos (by omega)]
        · rw [if_neg (by omega)]
          have key : ∀ b : Bool, (b = true ↔ (0 < i ∧ l.getD i 0 = 0)) → PCodecKeeps.replevinref01_groups.j2 k l i b = some (grpZ (grpR most l)) := by
            intro b hbb
            obtain ⟨k, rfl⟩ : ∃ m, k = m + 2 := ⟨k - 2, by omega⟩
            simp only [PCodecKeeps.replevinref01_groups.j2]
            by_cases h3 : 0 < i ∧ l.getD i 0 = 0
            · have hg : grpZ (grpR most l) = (0, 0, 3) := by unfold grpR grp; rw [if_neg h1, if_neg h2, ← hil, if_pos h3, if_neg (by simp)]; rfl
              rw [hg, if_pos (hbb.2 h3)]
            · have hgrp : grp most l = (val (l.take (i + 1)), i + 1, 0) := by unfold grp; rw [if_neg h1, if_neg h2, ← hil, if_neg h3]
              rw [if_neg (fun h => h3 (hbb.1 h))]
              have hj3 : ¬ (lead l = 9 ∧ 1 < l.getD (lead l) 0) → PCodecKeeps.replevinref01_groups.j3 (k + 1) l i = some (grpZ (grpR most l)) := by
                intro h4
                simp only [PCodecKeeps.replevinref01_groups.j3]
                have hl1 := ref_l1 l i (by omega) (by omega) hb (i + 1) k (by omega) (by omega)
                rw [List.drop_eq_nil_of_le (by rw [List.length_take]; omega)] at hl1
                rw [show (((i + 1 : Nat) : Int) - 1) = (i : Int) by omega] at hl1
                refine Eq.trans hl1 ?_
                unfold grpR
                rw [if_neg (fun hh => h4 hh.2), hgrp]
                have hv := val_lt64 l hb (by omega) (by omega) h4
                rw [← hil] at hv
                rw [Nat.mod_eq_of_lt hv]
                rfl
              by_cases h9 : i = 9
              · rw [if_pos (by omega), if_pos (by omega), if_pos (by omega), rd_nat]
                by_cases h4 : l.getD i 0 > 1
                · have hg : grpZ (grpR most l) = (0, 0, 3) := by unfold grpR; rw [if_pos ⟨by rw [hgrp], by omega, by rw [← hil]; exact h4⟩]; rfl
                  rw [hg, if_pos h4]
                · rw [if_neg h4]
                  exact hj3 (fun hh => h4 (by rw [hil]; exact hh.2))
              · rw [if_neg (by omega)]
                exact hj3 (fun hh => h9 (by omega))
          by_cases h3 : i = 0
          · rw [if_neg (by omega)]
            exact key false (by simp; omega)
          · rw [if_pos (by omega), if_pos (by omega), if_pos (by omega), rd_nat]
            exact key _ (by simp; omega)
    simp only [PCodecKeeps.replevinref01_groups.l0]
    by_cases h1 : (i : Int) < (l.length : Int)
    · rw [if_pos h1]
      by_cases h2 : (i : Int) < (most : Int)
      · rw [if_pos h2, if_pos (by omega), rd_nat]
        have hc := lead_at l (by omega)
        rw [show lead l = i by omega] at hc
        rw [if_neg (by omega)]
        exact hj
      · rw [if_neg h2]; exact hj
    · rw [if_neg h1]; exact hj
  | succ d ih =>
    intro k i hi hk
    obtain ⟨k, rfl⟩ : ∃ m, k = m + 1 := ⟨k - 1, by omega⟩
    simp only [PCodecKeeps.replevinref01_groups.l0]
    have hc := lead_lt l i (by omega)
    rw [if_pos (by omega), if_pos (by omega), if_pos (by omega), rd_nat, if_pos (by omega), show wrap64 ((i : Int) + 1) = ((i + 1 : Nat) : Int) by unfold wrap64; omega]
    exact ih k (i + 1) (by omega) (by omega)

theorem refGroups_f {k most : Nat} (l : List Int) (hm : most ≤ 10) (hlen : l.length ≤ 9223372036854775806) (hb : Bytes l) (hk : 40 ≤ k) :
    PCodecKeeps.replevinref01_groups.f k l most = some (grpZ (grpR most l)) := by
  unfold PCodecKeeps.replevinref01_groups.f
  exact ref_l0 most l hm hlen hb (min (lead l) most) k 0 (by omega) (by omega)

theorem refParse_f {k : Nat} (l : List Int) (hlen : l.length ≤ 9223372036854775806) (hb : Bytes l) (hk : 40 ≤ k) : PCodecKeeps.replevinref01_Parse.f k l = some (prs l) := by
  unfold PCodecKeeps.replevinref01_Parse.f
  rw [show (9 : Int) = ((9 : Nat) : Int) from rfl, refGroups_f l (by omega) hlen hb hk]
  simp only [Option.bind_some, grpZ, grpR_9, prs]
  have := grp9_lt l
  rw [show wrap64 (((grp 9 l).1 : Nat) : Int) = ((grp 9 l).1 : Int) by unfold wrap64; omega]

end Go.Proofs.Ytbddllklagiajaa
