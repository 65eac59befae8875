/- What was written is read again; what was read is written again; bytes that are missing are told. -/
import Derived.Test.YtbddllklagiajaaVl
import Derived.Test.YtbddllklagiajaaVf
import Derived.Test.YtbddllklagiajaaLb
set_option linter.unusedVariables false
set_option linter.unusedSimpArgs false
namespace Go.Proofs.Ytbddllklagiajaa
open PCodecKeeps (S51 k51 z51)
open Go.RowKit Go.Proofs.YtbddllklagiajaaW.PrintWords Go.Proofs.YtbddllklagiajaaW.PrintLast Go.Proofs.YtbddllklagiajaaW.PrintMore

theorem unzig_zig (n : Int) : unzig (zig n) = n := by unfold unzig zig; split <;> split <;> omega
theorem zig_unzig (u : Nat) : zig (unzig u) = u := by unfold unzig zig; split <;> split <;> omega
theorem unzig_range {u : Nat} (h : u < 18446744073709551616) : -9223372036854775808 ≤ unzig u ∧ unzig u ≤ 9223372036854775807 := by unfold unzig; split <;> omega

theorem bytesOf_nums (l : List Int) (h : Bytes l) : bytesOf (strOfNums l) = l := by
  unfold bytesOf
  rw [strOfNums_data, List.map_map]
  conv => rhs; rw [← List.map_id l]
  apply List.map_congr_left
  intro x hx
  have := h x hx
  simp [UInt8.toNat_ofNat']
  omega
theorem nums_bytesOf (s : ByteArray) : strOfNums (bytesOf s) = s := by
  apply ByteArray.ext
  apply Array.ext'
  rw [strOfNums_data]
  unfold bytesOf
  rw [List.map_map]
  conv => rhs; rw [← List.map_id s.data.toList]
  apply List.map_congr_left
  intro x hx
  simp
theorem bytesOf_bytes (s : ByteArray) : Bytes (bytesOf s) := by
  intro x hx
  unfold bytesOf at hx
  obtain ⟨b, _, rfl⟩ := List.mem_map.1 hx
  have := b.toNat_lt
  omega

/-- May be written. -/
def okN (v : S51) : Prop := v.f0 % 4 = 0 → 0 ≤ v.f1
def encV (v : S51) : List Int := if v.f0 % 4 = 0 then enc v.f1.toNat else if v.f0 % 4 = 1 then enc (zig v.f1) else if v.f0 % 4 = 2 then [flagB v.f2] else enc v.f3.size ++ bytesOf v.f3

theorem stepV_good (out : List Int) (v : S51) (h : okN v) : stepV (out, 0) v = (out ++ encV v, 0) := by
  unfold stepV encV
  by_cases h0 : v.f0 % 4 = 0
  · rw [if_pos h0, if_pos h0]
    unfold numS
    rw [if_pos rfl, if_neg (by have := h h0; omega)]
  rw [if_neg h0, if_neg h0]
  by_cases h1 : v.f0 % 4 = 1
  · rw [if_pos h1, if_pos h1]
    rfl
  rw [if_neg h1, if_neg h1]
  by_cases h2 : v.f0 % 4 = 2
  · rw [if_pos h2, if_pos h2]
    rfl
  rw [if_neg h2, if_neg h2]
  rfl
theorem stepV_bad (out : List Int) (v : S51) (h : ¬ okN v) : stepV (out, 0) v = (out, 2) := by
  unfold okN at h
  have h0 : v.f0 % 4 = 0 := Classical.byContradiction (fun hn => h (fun h0 => absurd h0 hn))
  unfold stepV numS
  rw [if_pos h0, if_pos rfl, if_pos (by
    rcases Int.lt_or_le v.f1 0 with h1 | h1
    · exact h1
    · exact absurd (fun _ => h1) h)]
theorem writeV_cons (v : S51) (l : List S51) (st : St) : writeV (v :: l) st = writeV l (stepV st v) := rfl
theorem writeV_good (l : List S51) (out : List Int) (h : (writeV l (out, 0)).2 = 0) : (∀ v ∈ l, okN v) ∧ writeV l (out, 0) = (out ++ (l.map encV).flatten, 0) := by
  induction l generalizing out with
  | nil => simp [writeV]
  | cons v l ih =>
    rw [writeV_cons] at h ⊢
    by_cases hv : okN v
    · rw [stepV_good out v hv] at h ⊢
      obtain ⟨h1, h2⟩ := ih _ h
      refine ⟨fun u hu => ?_, by rw [h2]; simp⟩
      rcases List.mem_cons.1 hu with rfl | hu
      · exact hv
      · exact h1 u hu
    · rw [stepV_bad out v hv, writeV_failed _ _ (by simp)] at h
      simp at h
theorem writeV_ok (l : List S51) (out : List Int) (h : ∀ v ∈ l, okN v) : writeV l (out, 0) = (out ++ (l.map encV).flatten, 0) := by
  induction l generalizing out with
  | nil => simp [writeV]
  | cons v l ih =>
    rw [writeV_cons, stepV_good out v (h v (by simp)), ih _ (fun u hu => h u (List.mem_cons_of_mem _ hu))]
    simp

/-- Its limit permits it. -/
def Lim (v : S51) : Prop := (v.f0 % 4 = 0 → v.f1 ≤ v.f4) ∧ (v.f0 % 4 = 3 → (v.f3.size : Int) ≤ v.f4 ∧ v.f3.size ≤ 16777216)
def backV (v : S51) : S51 := if v.f0 % 4 = 0 then ⟨v.f0, v.f1, false, ⟨#[]⟩, v.f4⟩ else if v.f0 % 4 = 1 then ⟨v.f0, v.f1, false, ⟨#[]⟩, v.f4⟩ else if v.f0 % 4 = 2 then ⟨v.f0, 0, v.f2, ⟨#[]⟩, v.f4⟩ else ⟨v.f0, 0, false, v.f3, v.f4⟩

theorem flagB_cases (b : Bool) : (b = true ∧ flagB b = 1) ∨ (b = false ∧ flagB b = 0) := by cases b <;> simp [flagB]

theorem grpR_enc {n : Nat} (r : List Int) (h : n < 18446744073709551616) : grpR 10 (enc n ++ r) = (n, (enc n).length, 0) := by
  have hg := grp_enc (most := 10) r (show n < 128 ^ 10 by omega) (by omega)
  unfold grpR
  rw [hg, if_neg]
  rintro ⟨_, h9, h1⟩
  -- ten groups, the last at most one
  have hle := lead_enc n r
  have hlen : (enc n).length = 10 := by omega
  have hval := val_enc n
  have hsn := take_snoc' (enc n) 9 (by omega)
  rw [List.take_of_length_le (by omega)] at hsn
  rw [h9] at h1
  have hget : (enc n ++ r).getD 9 0 = (enc n).getD 9 0 := by
    rw [List.getD_eq_getElem?_getD, List.getD_eq_getElem?_getD, List.getElem?_append_left (by omega)]
  rw [hget] at h1
  have h128 := lead_at (enc n ++ r) (by rw [List.length_append]; omega)
  rw [h9, hget] at h128
  rw [hsn, val_append _ _ (by omega), List.length_take, hlen] at hval
  have : (128 : Nat) ^ min 9 10 = 9223372036854775808 := by decide
  rw [this] at hval
  have h2 : 2 ≤ ((enc n).getD 9 0 % 128).toNat := by omega
  have h3 : 2 * 9223372036854775808 ≤ ((enc n).getD 9 0 % 128).toNat * 9223372036854775808 := Nat.mul_le_mul_right _ h2
  omega

theorem lead_take (l : List Int) : ∀ m, m ≤ lead l → lead (l.take m) = m := by
  induction l with
  | nil => intro m h; simp [lead] at h; subst h; rfl
  | cons c l ih =>
    intro m h
    cases m with
    | zero => rfl
    | succ m =>
      simp only [lead] at h
      simp only [List.take_succ_cons, lead]
      split at h
      · rename_i hc
        rw [if_pos hc, ih m (by omega)]
      · omega
theorem lead_cut (n m : Nat) (h : m < (enc n).length) : lead ((enc n).take m) = m := by
  have := lead_enc n []
  rw [List.append_nil] at this
  exact lead_take _ m (by omega)
theorem grp_cut (most n m : Nat) (h : m < (enc n).length) (hm : (enc n).length ≤ most) : grp most ((enc n).take m) = (0, 0, 28) := by
  unfold grp
  rw [lead_cut n m h, if_neg (by omega), if_pos (by rw [List.length_take]; omega)]
theorem prs_cut {n m : Nat} (h : m < (enc n).length) (hn : n < 9223372036854775808) : prs ((enc n).take m) = (0, 0, 28) := by
  unfold prs
  rw [grp_cut 9 n m h (enc_len9 hn)]
  rfl
theorem grpR_cut {n m : Nat} (h : m < (enc n).length) (hn : n < 18446744073709551616) : grpR 10 ((enc n).take m) = (0, 0, 28) := by
  unfold grpR
  rw [grp_cut 10 n m h (enc_len10 hn), if_neg (by simp)]

theorem rStep_ok {α : Type} (z v : α) (k : Int) (at_ : Nat) : rStep z (v, k, 0) (at_, 0) = (v, at_ + k.toNat, 0) := by simp [rStep]
theorem rStep_err {α : Type} (z v : α) (k f : Int) (at_ : Nat) (h : f ≠ 0) : rStep z (v, k, f) (at_, 0) = (z, at_, f) := by simp [rStep, h]
theorem rStep_still {α : Type} (z : α) (r : α × Int × Int) (s : Nat × Int) (h : s.2 ≠ 0) : (rStep z r s).2 = s := by simp [rStep, h]

theorem readStep_good (b : List Int) (v : S51) (at_ : Nat) (r : List Int) (hb : b.drop at_ = encV v ++ r) (h : okN v) (ho : OkV v) (hl : Lim v) : readStep b v (at_, 0) = (backV v, at_ + (encV v).length, 0) := by
  have hf0 := ho.1.1
  unfold readStep backV
  dsimp only
  rw [hb]
  by_cases h0 : v.f0 % 4 = 0
  · have he : encV v = enc v.f1.toNat := by unfold encV; rw [if_pos h0]
    have hp := prs_enc r (show v.f1.toNat < 9223372036854775808 by have := ho.2.1.2; omega)
    have h1 := h h0
    rw [if_pos h0, if_pos h0, he]
    have hn : numR v.f4 (enc v.f1.toNat ++ r) = (v.f1, ((enc v.f1.toNat).length : Int), 0) := by
      unfold numR
      rw [hp, if_neg (by intro hh; have := hh.2; have := hl.1 h0; omega)]
      rw [show ((v.f1.toNat : Nat) : Int) = v.f1 by omega]
    rw [hn, rStep_ok]
    simp
  rw [if_neg h0, if_neg h0]
  by_cases h1 : v.f0 % 4 = 1
  · have he : encV v = enc (zig v.f1) := by unfold encV; rw [if_neg h0, if_pos h1]
    have hz := zig_lt ho.2.1.1 ho.2.1.2
    rw [if_pos h1, if_pos h1, he]
    have hn : sgnR (enc (zig v.f1) ++ r) = (v.f1, ((enc (zig v.f1)).length : Int), 0) := by
      unfold sgnR
      rw [grpR_enc r hz, if_pos rfl, unzig_zig]
    rw [hn, rStep_ok]
    simp
  rw [if_neg h1, if_neg h1]
  by_cases h2 : v.f0 % 4 = 2
  · have he : encV v = [flagB v.f2] := by unfold encV; rw [if_neg h0, if_neg h1, if_pos h2]
    rw [if_pos h2, if_pos h2, he]
    have hn : flgR ([flagB v.f2] ++ r) = (v.f2, 1, 0) := by
      unfold flgR
      rcases flagB_cases v.f2 with ⟨e1, e2⟩ | ⟨e1, e2⟩ <;> rw [e2, e1] <;> simp
    rw [hn, rStep_ok]
    simp
  rw [if_neg h2, if_neg h2]
  have h3 : v.f0 % 4 = 3 := by omega
  have he : encV v = enc v.f3.size ++ bytesOf v.f3 := by unfold encV; rw [if_neg h0, if_neg h1, if_neg h2]
  have hs := (hl.2 h3)
  rw [he, List.append_assoc]
  have hp := prs_enc (bytesOf v.f3 ++ r) (show v.f3.size < 9223372036854775808 by omega)
  have hlen := bytesOf_length v.f3
  have hn : txtR v.f4 (enc v.f3.size ++ (bytesOf v.f3 ++ r)) = (v.f3, ((enc v.f3.size).length : Int) + (v.f3.size : Int), 0) := by
    unfold txtR
    rw [hp, if_neg (by simp)]
    dsimp only
    rw [if_neg (by omega), if_neg (by simp only [List.length_append]; omega)]
    rw [show (((enc v.f3.size).length : Nat) : Int).toNat = (enc v.f3.size).length by omega, List.drop_left, show ((v.f3.size : Nat) : Int).toNat = (bytesOf v.f3).length by omega, List.take_left, nums_bytesOf]
  rw [hn, rStep_ok]
  simp only [List.length_append, hlen]
  rw [show (((enc v.f3.size).length : Int) + (v.f3.size : Int)).toNat = (enc v.f3.size).length + v.f3.size by omega]

theorem readStep_cut (b : List Int) (v : S51) (at_ m : Nat) (hb : b.drop at_ = (encV v).take m) (hm : m < (encV v).length) (h : okN v) (ho : OkV v) (hl : Lim v) : (readStep b v (at_, 0)).2 = (at_, 28) := by
  have hf0 := ho.1.1
  unfold readStep
  dsimp only
  rw [hb]
  by_cases h0 : v.f0 % 4 = 0
  · have he : encV v = enc v.f1.toNat := by unfold encV; rw [if_pos h0]
    rw [he] at hm
    have hp := prs_cut hm (show v.f1.toNat < 9223372036854775808 by have := ho.2.1.2; omega)
    rw [if_pos h0, he]
    have hn : numR v.f4 ((enc v.f1.toNat).take m) = (0, 0, 28) := by
      unfold numR
      rw [hp, if_neg (by simp)]
    rw [hn, rStep_err _ _ _ _ _ (by decide)]
  rw [if_neg h0]
  by_cases h1 : v.f0 % 4 = 1
  · have he : encV v = enc (zig v.f1) := by unfold encV; rw [if_neg h0, if_pos h1]
    have hz := zig_lt ho.2.1.1 ho.2.1.2
    rw [he] at hm
    rw [if_pos h1, he]
    have hn : sgnR ((enc (zig v.f1)).take m) = (0, 0, 28) := by
      unfold sgnR
      rw [grpR_cut hm hz]
      rfl
    rw [hn, rStep_err _ _ _ _ _ (by decide)]
  rw [if_neg h1]
  by_cases h2 : v.f0 % 4 = 2
  · have he : encV v = [flagB v.f2] := by unfold encV; rw [if_neg h0, if_neg h1, if_pos h2]
    rw [he] at hm
    rw [if_pos h2, he]
    obtain rfl : m = 0 := by simpa using hm
    have hn : flgR ([flagB v.f2].take 0) = (false, 0, 28) := by
      unfold flgR
      simp
    rw [hn, rStep_err _ _ _ _ _ (by decide)]
  rw [if_neg h2]
  have h3 : v.f0 % 4 = 3 := by omega
  have he : encV v = enc v.f3.size ++ bytesOf v.f3 := by unfold encV; rw [if_neg h0, if_neg h1, if_neg h2]
  have hs := (hl.2 h3)
  have hlen := bytesOf_length v.f3
  rw [he] at hm ⊢
  rw [List.length_append] at hm
  have hn : ∃ z k, txtR v.f4 ((enc v.f3.size ++ bytesOf v.f3).take m) = (z, k, 28) := by
    by_cases hmk : m < (enc v.f3.size).length
    · rw [List.take_append_of_le_length (by omega)]
      refine ⟨⟨#[]⟩, 0, ?_⟩
      unfold txtR
      rw [prs_cut hmk (by omega), if_pos (by simp)]
    · rw [List.take_append, List.take_of_length_le (by omega)]
      have hp := prs_enc ((bytesOf v.f3).take (m - (enc v.f3.size).length)) (show v.f3.size < 9223372036854775808 by omega)
      refine ⟨⟨#[]⟩, 0, ?_⟩
      unfold txtR
      rw [hp, if_neg (by simp)]
      dsimp only
      rw [if_neg (by omega), if_pos (by simp only [List.length_append, List.length_take]; omega)]
  obtain ⟨z, k, hn⟩ := hn
  rw [hn, rStep_err _ _ _ _ _ (by decide)]

theorem readStep_still (b : List Int) (v : S51) (s : Nat × Int) (h : s.2 ≠ 0) : (readStep b v s).2 = s := by
  unfold readStep
  split
  · exact rStep_still _ _ _ h
  split
  · exact rStep_still _ _ _ h
  split
  · exact rStep_still _ _ _ h
  · exact rStep_still _ _ _ h
theorem readV_still (b : List Int) (l : List S51) (s : Nat × Int) (h : s.2 ≠ 0) : (readV b l s).2 = s := by
  induction l generalizing s with
  | nil => rfl
  | cons v l ih =>
    simp only [readV]
    rw [ih _ (by rw [readStep_still b v s h]; exact h), readStep_still b v s h]

theorem drop_more {b x y : List Int} {n : Nat} (h : b.drop n = x ++ y) : b.drop (n + x.length) = y := by
  rw [← List.drop_drop, h, List.drop_left]

theorem readV_good (b : List Int) (l : List S51) (at_ : Nat) (r : List Int) (hb : b.drop at_ = (l.map encV).flatten ++ r) (h : ∀ v ∈ l, okN v ∧ OkV v ∧ Lim v) : readV b l (at_, 0) = (l.map backV, at_ + ((l.map encV).flatten).length, 0) := by
  induction l generalizing at_ with
  | nil => simp [readV]
  | cons v l ih =>
    simp only [List.map_cons, List.flatten_cons, List.append_assoc] at hb
    obtain ⟨h1, h2, h3⟩ := h v (by simp)
    have hs := readStep_good b v at_ _ hb h1 h2 h3
    simp only [readV]
    rw [hs]
    dsimp only
    rw [ih (at_ + (encV v).length) (drop_more hb) (fun u hu => h u (List.mem_cons_of_mem _ hu))]
    simp
    omega

theorem readV_cut (b : List Int) (l : List S51) (at_ m : Nat) (hb : b.drop at_ = ((l.map encV).flatten).take m) (hm : m < ((l.map encV).flatten).length) (h : ∀ v ∈ l, okN v ∧ OkV v ∧ Lim v) : (readV b l (at_, 0)).2.2 = 28 := by
  induction l generalizing at_ m with
  | nil => simp at hm
  | cons v l ih =>
    simp only [List.map_cons, List.flatten_cons] at hb hm
    obtain ⟨h1, h2, h3⟩ := h v (by simp)
    simp only [readV]
    by_cases hv : m < (encV v).length
    · rw [List.take_append_of_le_length (by omega)] at hb
      have hs := readStep_cut b v at_ m hb hv h1 h2 h3
      rw [readV_still _ _ _ (by rw [hs]; simp), hs]
    · rw [List.take_append, List.take_of_length_le (show (encV v).length ≤ m by omega)] at hb
      have hs := readStep_good b v at_ _ hb h1 h2 h3
      rw [hs]
      dsimp only
      rw [List.length_append] at hm
      exact ih (at_ + (encV v).length) (m - (encV v).length) (drop_more hb) (by omega) (fun u hu => h u (List.mem_cons_of_mem _ hu))

/-! ### What was read is written again -/
theorem rStep_inv {α : Type} (z : α) (r : α × Int × Int) (at_ : Nat) (h : (rStep z r (at_, 0)).2.2 = 0) : r.2.2 = 0 ∧ rStep z r (at_, 0) = (r.1, at_ + r.2.1.toNat, 0) := by
  unfold rStep at h ⊢
  rw [if_pos rfl] at h ⊢
  by_cases hr : r.2.2 = 0
  · rw [if_pos hr]; exact ⟨hr, rfl⟩
  · rw [if_neg hr] at h; exact absurd h hr

theorem dropBytes {b : List Int} (h : Bytes b) (n : Nat) : Bytes (b.drop n) := fun x hx => h x (List.mem_of_mem_drop hx)
theorem takeBytes' {b : List Int} (h : Bytes b) (n : Nat) : Bytes (b.take n) := fun x hx => h x (List.mem_of_mem_take hx)

theorem readStep_back (b : List Int) (v : S51) (at_ : Nat) (hb : Bytes b) (hbl : b.length ≤ 16777216) (hat : at_ ≤ b.length) (ho : OkV v) (h : (readStep b v (at_, 0)).2.2 = 0) :
    ∃ k, (readStep b v (at_, 0)).2 = (at_ + k, 0) ∧ at_ + k ≤ b.length ∧ okN (readStep b v (at_, 0)).1 ∧ OkV (readStep b v (at_, 0)).1 ∧ (readStep b v (at_, 0)).1.f3.size ≤ b.length ∧ encV (readStep b v (at_, 0)).1 = (b.drop at_).take k := by
  have hf0 := ho.1.1
  have hd := dropBytes hb at_
  have hlen : (b.drop at_).length = b.length - at_ := List.length_drop
  obtain ⟨l, hl⟩ : ∃ l, b.drop at_ = l := ⟨_, rfl⟩
  unfold readStep at h ⊢
  dsimp only at h ⊢
  rw [hl] at h hd hlen ⊢
  by_cases h0 : v.f0 % 4 = 0
  · rw [if_pos h0] at h ⊢
    obtain ⟨h1, h2⟩ := rStep_inv _ _ _ h
    dsimp only at *
    unfold numR at h1 h2 ⊢
    by_cases hm : (prs l).2.2 = 0 ∧ v.f4 < (prs l).1
    · rw [if_pos hm] at h1; simp at h1
    rw [if_neg hm] at h1 h2 ⊢
    rcases prs_cases l hd with hr | hr | ⟨n, k, hr, h3, h4, h5, h6, h7⟩
    · rw [hr] at h1; simp at h1
    · rw [hr] at h1; simp at h1
    · rw [h2, hr]
      refine ⟨k, by simp, by omega, ?_, ?_, ?_, ?_⟩
      · intro _; show (0 : Int) ≤ (n : Int); omega
      · exact ⟨ho.1, ⟨by show -9223372036854775808 ≤ (n : Int); omega, by show (n : Int) ≤ 9223372036854775807; omega⟩, ho.2.2.1, by show ByteArray.size ⟨#[]⟩ ≤ _; simp [ByteArray.size]⟩
      · simp [ByteArray.size]
      · unfold encV; dsimp only; rw [if_pos h0]; exact h7
  rw [if_neg h0] at h ⊢
  by_cases h1k : v.f0 % 4 = 1
  · rw [if_pos h1k] at h ⊢
    obtain ⟨h1, h2⟩ := rStep_inv _ _ _ h
    dsimp only at *
    unfold sgnR at h1 h2 ⊢
    rcases grpR_cases l hd with hr | hr | ⟨n, k, hr, h3, h4, h5, h6, h7⟩
    · rw [hr] at h1; simp at h1
    · rw [hr] at h1; simp at h1
    · rw [hr, if_pos rfl] at h2
      rw [hr, if_pos rfl, h2]
      have hu := unzig_range h3
      refine ⟨k, by simp, by omega, ?_, ?_, ?_, ?_⟩
      · intro hh; exact absurd hh h0
      · exact ⟨ho.1, hu, ho.2.2.1, by show ByteArray.size ⟨#[]⟩ ≤ _; simp [ByteArray.size]⟩
      · simp [ByteArray.size]
      · unfold encV; dsimp only; rw [if_neg h0, if_pos h1k, zig_unzig]; exact h7
  rw [if_neg h1k] at h ⊢
  by_cases h2k : v.f0 % 4 = 2
  · rw [if_pos h2k] at h ⊢
    obtain ⟨h1, h2⟩ := rStep_inv _ _ _ h
    dsimp only at *
    unfold flgR at h1 h2 ⊢
    by_cases hn : l.length = 0
    · rw [if_pos hn] at h1; simp at h1
    rw [if_neg hn] at h1 h2 ⊢
    by_cases hx : 1 < l.getD 0 0
    · rw [if_pos hx] at h1; simp at h1
    rw [if_neg hx] at h2 ⊢
    rw [h2]
    refine ⟨1, by simp, by omega, ?_, ?_, ?_, ?_⟩
    · intro hh; exact absurd hh h0
    · exact ⟨ho.1, (show (-9223372036854775808 : Int) ≤ 0 ∧ (0 : Int) ≤ 9223372036854775807 from ⟨by decide, by decide⟩), ho.2.2.1, by show ByteArray.size ⟨#[]⟩ ≤ _; simp [ByteArray.size]⟩
    · simp [ByteArray.size]
    · unfold encV; dsimp only; rw [if_neg h0, if_neg h1k, if_pos h2k]
      cases l with
      | nil => simp at hn
      | cons c l =>
        have hc := hd c (by simp)
        simp at hx ⊢
        by_cases hc1 : c = 1
        · subst hc1; rfl
        · have hc0 : c = 0 := by omega
          subst hc0; rfl
  rw [if_neg h2k] at h ⊢
  obtain ⟨h1, h2⟩ := rStep_inv _ _ _ h
  dsimp only at *
  unfold txtR at h1 h2 ⊢
  rcases prs_cases l hd with hr | hr | ⟨n, k, hr, h3, h4, h5, h6, h7⟩
  · rw [hr, if_pos (by simp)] at h1; simp at h1
  · rw [hr, if_pos (by simp)] at h1; simp at h1
  · rw [hr, if_neg (by simp)] at h1 h2 ⊢
    dsimp only at h1 h2 ⊢
    by_cases hm : min v.f4 16777216 < (n : Int)
    · rw [if_pos hm] at h1; simp at h1
    rw [if_neg hm] at h1 h2 ⊢
    by_cases ht : (l.length : Int) - (k : Int) < (n : Int)
    · rw [if_pos ht] at h1; simp at h1
    rw [if_neg ht] at h2 ⊢
    rw [h2]
    have hsz : (strOfNums ((l.drop (k : Int).toNat).take (n : Int).toNat)).size = n := by
      rw [strOfNums_size, List.length_take, List.length_drop]; omega
    refine ⟨k + n, by simp; omega, by omega, ?_, ?_, ?_, ?_⟩
    · intro hh; exact absurd hh h0
    · exact ⟨ho.1, (show (-9223372036854775808 : Int) ≤ 0 ∧ (0 : Int) ≤ 9223372036854775807 from ⟨by decide, by decide⟩), ho.2.2.1, by rw [hsz]; omega⟩
    · rw [hsz]; omega
    · unfold encV; dsimp only; rw [if_neg h0, if_neg h1k, if_neg h2k, hsz, bytesOf_nums _ (takeBytes' (dropBytes hd _) _), h7]
      rw [show (k : Int).toNat = k by omega, show (n : Int).toNat = n by omega, List.take_add]

theorem readV_back (b : List Int) (l : List S51) (at_ : Nat) (hb : Bytes b) (hbl : b.length ≤ 16777216) (hat : at_ ≤ b.length) (ho : ∀ v ∈ l, OkV v) (h : (readV b l (at_, 0)).2.2 = 0) :
    ∃ k, (readV b l (at_, 0)).2 = (at_ + k, 0) ∧ at_ + k ≤ b.length ∧ (∀ v ∈ (readV b l (at_, 0)).1, okN v ∧ OkV v ∧ v.f3.size ≤ b.length) ∧ ((readV b l (at_, 0)).1.map encV).flatten = (b.drop at_).take k := by
  induction l generalizing at_ with
  | nil => exact ⟨0, rfl, by omega, by simp [readV], by simp [readV]⟩
  | cons v l ih =>
    simp only [readV] at h ⊢
    by_cases hs : (readStep b v (at_, 0)).2.2 = 0
    · obtain ⟨k, h1, h2, h3, h4, h5, h6⟩ := readStep_back b v at_ hb hbl hat (ho v (by simp)) hs
      rw [h1] at h ⊢
      obtain ⟨k2, g1, g2, g3, g4⟩ := ih (at_ + k) h2 (fun u hu => ho u (List.mem_cons_of_mem _ hu)) h
      refine ⟨k + k2, by rw [g1, Nat.add_assoc], by omega, ?_, ?_⟩
      · intro u hu
        rcases List.mem_cons.1 hu with rfl | hu
        · exact ⟨h3, h4, h5⟩
        · exact g3 u hu
      · simp only [List.map_cons, List.flatten_cons]
        rw [g4, h6, ← List.drop_drop, ← List.take_add]
    · rw [readV_still _ _ _ hs] at h
      exact absurd h hs

/-- The law's values: cut, with limits. -/
theorem mostV_lim {v : S51} (h : OkV v) (hs : v.f3.size ≤ 16777216) : OkV (mostV v) ∧ Lim (mostV v) := by
  obtain ⟨h1, h2, h3, h4⟩ := h
  unfold mostV OkV Lim
  dsimp only
  refine ⟨⟨h1, h2, ?_, h4⟩, fun h0 => ?_, fun h3k => ?_⟩
  · split <;> omega
  · rw [if_neg (by omega)]; exact Int.le_refl _
  · rw [if_pos h3k]; exact ⟨Int.le_refl _, hs⟩
end Go.Proofs.Ytbddllklagiajaa
