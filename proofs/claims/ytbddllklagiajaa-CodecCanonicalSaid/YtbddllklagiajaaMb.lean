/- Groups at the beginning of bytes, without memory. -/
import Derived.Test.YtbddllklagiajaaMa
import Derived.Test.YtbddllklagiajaaPCodecKeepsx2
import Derived.Laws.Bits64
set_option linter.unusedVariables false
set_option linter.unusedSimpArgs false
namespace Go.Proofs.Ytbddllklagiajaa
open Go.RowKit Go.Proofs.YtbddllklagiajaaW.PrintWords Go.Proofs.YtbddllklagiajaaW.PrintLast Go.Proofs.YtbddllklagiajaaW.PrintMore

/-- The elements are bytes. -/
def Bytes (l : List Int) : Prop := ∀ x ∈ l, 0 ≤ x ∧ x ≤ 255

/-- The number that groups stand for. -/
def val : List Int → Nat
  | [] => 0
  | c :: l => (c % 128).toNat + 128 * val l

/-- How many bytes at the beginning are at least 128. -/
def lead : List Int → Nat
  | [] => 0
  | c :: l => if 128 ≤ c then lead l + 1 else 0

theorem lead_le (l : List Int) : lead l ≤ l.length := by
  induction l with
  | nil => simp [lead]
  | cons c l ih => simp only [lead, List.length_cons]; split <;> omega

theorem lead_lt (l : List Int) : ∀ i, i < lead l → 128 ≤ l.getD i 0 := by
  induction l with
  | nil => intro i h; simp [lead] at h
  | cons c l ih =>
    intro i h
    simp only [lead] at h
    split at h
    · cases i with
      | zero => simpa
      | succ i => simpa using ih i (by omega)
    · omega

theorem lead_at (l : List Int) (h : lead l < l.length) : l.getD (lead l) 0 < 128 := by
  induction l with
  | nil => simp at h
  | cons c l ih =>
    simp only [lead] at h ⊢
    split
    · rename_i hc
      rw [if_pos hc] at h
      simpa using ih (by simpa using h)
    · simpa using (by omega : c < 128)

/-- What is at the beginning of bytes: the number, its length, and the error. -/
def grp (most : Nat) (l : List Int) : Nat × Nat × Nat :=
  if most ≤ lead l then (0, 0, 3)
  else if l.length ≤ lead l then (0, 0, 28)
  else if 0 < lead l ∧ l.getD (lead l) 0 = 0 then (0, 0, 3)
  else (val (l.take (lead l + 1)), lead l + 1, 0)

theorem val_append (l : List Int) (c : Int) (hb : 0 ≤ c) : val (l ++ [c]) = val l + (c % 128).toNat * 128 ^ l.length := by
  induction l with
  | nil => simp [val]
  | cons d l ih => simp only [List.cons_append, val, ih, List.length_cons, Nat.pow_succ]; rw [Nat.mul_add, ← Nat.add_assoc]; congr 1; rw [Nat.mul_comm 128, Nat.mul_assoc]

theorem val_lt (l : List Int) : val l < 128 ^ l.length := by
  induction l with
  | nil => simp [val]
  | cons d l ih =>
    simp only [val, List.length_cons, Nat.pow_succ]
    have : (d % 128).toNat < 128 := by omega
    omega

theorem take_snoc' (l : List Int) (i : Nat) (h : i < l.length) : l.take (i + 1) = l.take i ++ [l.getD i 0] := by
  rw [List.take_succ_eq_append_getElem h]
  simp [List.getD, h]

theorem enc_bytes (n : Nat) : Bytes (enc n) := by
  induction n using Nat.strongRecOn with
  | ind n ih =>
    by_cases h : n < 128
    · rw [enc_small h]; intro x hx; simp at hx; omega
    · rw [enc_big h]
      intro x hx
      rcases List.mem_cons.1 hx with rfl | hx
      · omega
      · exact ih (n / 128) (by omega) x hx

/-- The groups of a number, with anything behind them. -/
theorem lead_enc (n : Nat) (r : List Int) : lead (enc n ++ r) + 1 = (enc n).length := by
  induction n using Nat.strongRecOn with
  | ind n ih =>
    by_cases h : n < 128
    · rw [enc_small h]; simp [lead]; omega
    · rw [enc_big h]
      have := ih (n / 128) (by omega)
      simp only [List.cons_append, lead, List.length_cons]
      rw [if_pos (by omega)]
      omega

theorem val_enc (n : Nat) : val (enc n) = n := by
  induction n using Nat.strongRecOn with
  | ind n ih =>
    by_cases h : n < 128
    · rw [enc_small h]; simp [val]; omega
    · rw [enc_big h, val, ih (n / 128) (by omega)]
      omega

theorem enc_last (n : Nat) (r : List Int) : 0 < lead (enc n ++ r) → (enc n ++ r).getD (lead (enc n ++ r)) 0 ≠ 0 := by
  induction n using Nat.strongRecOn with
  | ind n ih =>
    by_cases h : n < 128
    · rw [enc_small h]; simp only [List.cons_append, lead]; rw [if_neg (by omega)]; omega
    · rw [enc_big h]
      simp only [List.cons_append, lead]
      rw [if_pos (by omega)]
      intro _
      rw [List.getD_cons_succ]
      by_cases h0 : 0 < lead (enc (n / 128) ++ r)
      · exact ih (n / 128) (by omega) h0
      · have e0 : lead (enc (n / 128) ++ r) = 0 := by omega
        rw [e0]
        by_cases h1 : n / 128 < 128
        · rw [enc_small h1]; simp; omega
        · rw [enc_big h1] at e0
          simp only [List.cons_append, lead] at e0
          rw [if_pos (by omega)] at e0
          omega

theorem grp_enc {most n : Nat} (r : List Int) (h : n < 128 ^ most) (hm : 0 < most) : grp most (enc n ++ r) = (n, (enc n).length, 0) := by
  have h1 := lead_enc n r
  have hlen : (enc n).length ≤ most := by
    obtain ⟨m, rfl⟩ : ∃ m, most = m + 1 := ⟨most - 1, by omega⟩
    exact enc_len m n h
  unfold grp
  rw [if_neg (by omega), if_neg (by simp; omega), if_neg (fun hh => enc_last n r hh.1 hh.2), h1]
  simp [val_enc]

/-- What is read is an encoding. -/
theorem enc_val (l : List Int) (hb : Bytes l) (h1 : lead l < l.length) (h2 : ¬ (0 < lead l ∧ l.getD (lead l) 0 = 0)) : enc (val (l.take (lead l + 1))) = l.take (lead l + 1) := by
  induction l with
  | nil => simp at h1
  | cons c l ih =>
    have hc := hb c (by simp)
    by_cases h : 128 ≤ c
    · simp only [lead] at h1 h2 ⊢
      rw [if_pos h] at h1 h2 ⊢
      simp only [List.length_cons] at h1
      rw [List.getD_cons_succ] at h2
      have hne : l.getD (lead l) 0 ≠ 0 := fun he => h2 ⟨by omega, he⟩
      have hi := ih (fun x hx => hb x (List.mem_cons_of_mem _ hx)) (by omega) (fun hh => hne hh.2)
      simp only [List.take_succ_cons, val]
      have hp : 0 < val (l.take (lead l + 1)) := by
        rw [take_snoc' l (lead l) (by omega), val_append _ _ (by
          rw [List.getD_eq_getElem?_getD, List.getElem?_eq_getElem (by omega)]
          exact (hb _ (List.mem_cons_of_mem _ (List.getElem_mem _))).1)]
        have h3 : 0 < (l.getD (lead l) 0 % 128).toNat := by
          have h4 := lead_at l (by omega)
          have h5 : 0 ≤ l.getD (lead l) 0 := by
            rw [List.getD_eq_getElem?_getD, List.getElem?_eq_getElem (by omega)]
            exact (hb _ (List.mem_cons_of_mem _ (List.getElem_mem _))).1
          omega
        have h6 : 0 < (l.getD (lead l) 0 % 128).toNat * 128 ^ (l.take (lead l)).length := Nat.mul_pos h3 (Nat.pos_of_ne_zero (by simp))
        omega
      rw [enc_big (by omega)]
      have e1 : ((c % 128).toNat + 128 * val (l.take (lead l + 1))) / 128 = val (l.take (lead l + 1)) := by omega
      have e2 : ((((c % 128).toNat + 128 * val (l.take (lead l + 1))) % 128 + 128 : Nat) : Int) = c := by omega
      rw [e1, e2, hi]
    · simp only [lead]
      rw [if_neg h]
      simp only [List.take_succ_cons, List.take_zero, val]
      rw [enc_small (by omega)]
      simp; omega

end Go.Proofs.Ytbddllklagiajaa
