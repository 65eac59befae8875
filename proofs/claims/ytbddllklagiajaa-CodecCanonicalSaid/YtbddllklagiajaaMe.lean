/- What a Reader's methods read, without memory. -/
import Derived.Test.YtbddllklagiajaaMd
set_option linter.unusedVariables false
set_option linter.unusedSimpArgs false
namespace Go.Proofs.Ytbddllklagiajaa
open Go.RowKit Go.Proofs.YtbddllklagiajaaW.PrintWords Go.Proofs.YtbddllklagiajaaW.PrintLast Go.Proofs.YtbddllklagiajaaW.PrintMore

/-- The signed number for which a natural number stands. -/
def unzig (u : Nat) : Int := if u % 2 = 1 then -1 - ((u / 2 : Nat) : Int) else ((u / 2 : Nat) : Int)

def numR (most : Int) (l : List Int) : Int × Int × Int := if (prs l).2.2 = 0 ∧ most < (prs l).1 then (0, 0, 2) else prs l
def sgnR (l : List Int) : Int × Int × Int := if (grpR 10 l).2.2 = 0 then (unzig (grpR 10 l).1, ((grpR 10 l).2.1 : Int), 0) else (0, 0, ((grpR 10 l).2.2 : Int))
def flgR (l : List Int) : Bool × Int × Int := if l.length = 0 then (false, 0, 28) else if 1 < l.getD 0 0 then (false, 0, 3) else (l.getD 0 0 == 1, 1, 0)
def txtR (most : Int) (l : List Int) : ByteArray × Int × Int :=
  if (prs l).2.2 ≠ 0 then (⟨#[]⟩, 0, (prs l).2.2)
  else if min most 16777216 < (prs l).1 then (⟨#[]⟩, 0, 5)
  else if (l.length : Int) - (prs l).2.1 < (prs l).1 then (⟨#[]⟩, 0, 28)
  else (strOfNums ((l.drop (prs l).2.1.toNat).take (prs l).1.toNat), (prs l).2.1 + (prs l).1, 0)

/-- Parse, three ways. -/
theorem prs_cases (l : List Int) (hb : Bytes l) : (prs l = (0, 0, 3)) ∨ (prs l = (0, 0, 28)) ∨ (∃ n k : Nat, prs l = ((n : Int), (k : Int), 0) ∧ n < 9223372036854775808 ∧ 0 < k ∧ k ≤ 9 ∧ k ≤ l.length ∧ enc n = l.take k) := by
  have h9 := grp9_lt l
  unfold prs grp at *
  by_cases h1 : 9 ≤ lead l
  · rw [if_pos h1]; exact .inl rfl
  rw [if_neg h1] at h9 ⊢
  by_cases h2 : l.length ≤ lead l
  · rw [if_pos h2]; exact .inr (.inl rfl)
  rw [if_neg h2] at h9 ⊢
  by_cases h3 : 0 < lead l ∧ l.getD (lead l) 0 = 0
  · rw [if_pos h3]; exact .inl rfl
  rw [if_neg h3] at h9 ⊢
  exact .inr (.inr ⟨_, _, rfl, h9, show 0 < lead l + 1 by omega, show lead l + 1 ≤ 9 by omega, show lead l + 1 ≤ l.length by omega, enc_val l hb (by omega) h3⟩)

/-- groups of at most ten, three ways. -/
theorem grpR_cases (l : List Int) (hb : Bytes l) : (grpR 10 l = (0, 0, 3)) ∨ (grpR 10 l = (0, 0, 28)) ∨
    (∃ n k : Nat, grpR 10 l = (n, k, 0) ∧ n < 18446744073709551616 ∧ 0 < k ∧ k ≤ 10 ∧ k ≤ l.length ∧ enc n = l.take k) := by
  unfold grpR
  by_cases h0 : (grp 10 l).2.2 = 0 ∧ lead l = 9 ∧ 1 < l.getD (lead l) 0
  · rw [if_pos h0]; exact .inl rfl
  rw [if_neg h0]
  unfold grp at h0 ⊢
  by_cases h1 : 10 ≤ lead l
  · rw [if_pos h1]; exact .inl rfl
  rw [if_neg h1] at h0 ⊢
  by_cases h2 : l.length ≤ lead l
  · rw [if_pos h2]; exact .inr (.inl rfl)
  rw [if_neg h2] at h0 ⊢
  by_cases h3 : 0 < lead l ∧ l.getD (lead l) 0 = 0
  · rw [if_pos h3]; exact .inl rfl
  rw [if_neg h3] at h0 ⊢
  have h4 := val_lt64 l hb (by omega) (by omega) (fun hh => h0 ⟨rfl, hh⟩)
  exact .inr (.inr ⟨_, _, rfl, h4, show 0 < lead l + 1 by omega, show lead l + 1 ≤ 10 by omega, show lead l + 1 ≤ l.length by omega, enc_val l hb (by omega) h3⟩)

/-- codec's own groups against the reference's: the tenth byte. -/
theorem grpW_cases (l : List Int) (hb : Bytes l) :
    (grpW 10 l).2.2 ≠ 0 ∧ sgnR l = (0, 0, (grpW 10 l).2.2) ∨
    (∃ n k : Nat, grpW 10 l = ((n : Int), (k : Int), 0) ∧ n < 18446744073709551616 ∧ k ≤ l.length ∧ (k = 10 → 9 < l.length) ∧
      ((k = 10 ∧ 1 < l.getD 9 0 ∧ sgnR l = (0, 0, 3)) ∨ (¬ (k = 10 ∧ 1 < l.getD 9 0) ∧ sgnR l = (unzig n, (k : Int), 0)))) := by
  by_cases he : (grp 10 l).2.2 = 0
  · right
    have hlead : (grp 10 l) = (val (l.take (lead l + 1)), lead l + 1, 0) ∧ lead l < l.length ∧ lead l ≤ 9 := by
      unfold grp at he ⊢
      by_cases h1 : 10 ≤ lead l
      · rw [if_pos h1] at he; simp at he
      rw [if_neg h1] at he ⊢
      by_cases h2 : l.length ≤ lead l
      · rw [if_pos h2] at he; simp at he
      rw [if_neg h2] at he ⊢
      by_cases h3 : 0 < lead l ∧ l.getD (lead l) 0 = 0
      · rw [if_pos h3] at he; simp at he
      rw [if_neg h3]
      exact ⟨rfl, by omega, by omega⟩
    obtain ⟨hg, hl1, hl2⟩ := hlead
    by_cases h9 : lead l = 9 ∧ 1 < l.getD (lead l) 0
    · refine ⟨val (l.take (lead l + 1)) % 18446744073709551616, lead l + 1, by unfold grpW; rw [hg]; rfl, by omega, by omega, fun _ => by omega, .inl ⟨by omega, by rw [← h9.1]; exact h9.2, ?_⟩⟩
      have hR : grpR 10 l = (0, 0, 3) := by unfold grpR; rw [if_pos ⟨he, h9⟩]
      unfold sgnR
      rw [hR]
      rfl
    · have hv := val_lt64 l hb hl1 hl2 h9
      refine ⟨val (l.take (lead l + 1)) % 18446744073709551616, lead l + 1, by unfold grpW; rw [hg]; rfl, by omega, by omega, fun _ => by omega, .inr ⟨fun hh => h9 ⟨by omega, by rw [show lead l = 9 by omega]; exact hh.2⟩, ?_⟩⟩
      have hR : grpR 10 l = grp 10 l := by unfold grpR; rw [if_neg (fun hh => h9 hh.2)]
      unfold sgnR
      rw [hR, hg, Nat.mod_eq_of_lt hv]
      rfl
  · left
    unfold grpW
    refine ⟨by simpa using he, ?_⟩
    have hR : grpR 10 l = grp 10 l := by unfold grpR; rw [if_neg (fun hh => he hh.1)]
    unfold sgnR
    rw [hR, if_neg he]

theorem numR_size (most : Int) (l : List Int) (hb : Bytes l) (h : (numR most l).2.2 = 0) : 0 < (numR most l).2.1 ∧ (numR most l).2.1 ≤ l.length := by
  unfold numR at h ⊢
  by_cases h1 : (prs l).2.2 = 0 ∧ most < (prs l).1
  · rw [if_pos h1] at h; simp at h
  rw [if_neg h1] at h ⊢
  rcases prs_cases l hb with hr | hr | ⟨n, k, hr, _, h3, h4, h5, _⟩
  · rw [hr] at h; simp at h
  · rw [hr] at h; simp at h
  · rw [hr]; simp; omega
theorem sgnR_size (l : List Int) (hb : Bytes l) (h : (sgnR l).2.2 = 0) : 0 < (sgnR l).2.1 ∧ (sgnR l).2.1 ≤ l.length := by
  unfold sgnR at h ⊢
  rcases grpR_cases l hb with hr | hr | ⟨n, k, hr, _, h3, h4, h5, _⟩
  · rw [hr] at h; simp at h
  · rw [hr] at h; simp at h
  · rw [hr]; simp; omega
theorem flgR_size (l : List Int) (h : (flgR l).2.2 = 0) : 0 < (flgR l).2.1 ∧ (flgR l).2.1 ≤ l.length := by
  unfold flgR at h ⊢
  by_cases h1 : l.length = 0
  · rw [if_pos h1] at h; simp at h
  rw [if_neg h1] at h ⊢
  by_cases h2 : 1 < l.getD 0 0
  · rw [if_pos h2] at h; simp at h
  rw [if_neg h2]
  simp; omega
theorem txtR_size (most : Int) (l : List Int) (hb : Bytes l) (h : (txtR most l).2.2 = 0) : 0 < (txtR most l).2.1 ∧ (txtR most l).2.1 ≤ l.length := by
  unfold txtR at h ⊢
  rcases prs_cases l hb with hr | hr | ⟨n, k, hr, _, h3, h4, h5, _⟩
  · rw [hr, if_pos (by simp)] at h; simp at h
  · rw [hr, if_pos (by simp)] at h; simp at h
  · rw [hr, if_neg (by simp)] at h ⊢
    by_cases h6 : min most 16777216 < (n : Int)
    · rw [if_pos h6] at h; simp at h
    rw [if_neg h6] at h ⊢
    by_cases h7 : (l.length : Int) - (k : Int) < (n : Int)
    · rw [if_pos h7] at h; simp at h
    rw [if_neg h7]
    dsimp only
    omega

/-- A value read, or not. -/
def rStep {α : Type} (z : α) (r : α × Int × Int) (s : Nat × Int) : α × Nat × Int := if s.2 = 0 then (if r.2.2 = 0 then (r.1, s.1 + r.2.1.toNat, 0) else (z, s.1, r.2.2)) else (z, s.1, s.2)

end Go.Proofs.Ytbddllklagiajaa
