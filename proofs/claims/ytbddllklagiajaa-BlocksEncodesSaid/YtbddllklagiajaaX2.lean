/- Pure laws: what the reference of package blocks computes, and what the program computes. Package blocks: a Map in memory; New. Package blocks: has, First, Count, State. Package blocks: State, Give. Package blocks: become, Commit, Abort. slices.Index, slices.Contains at int. Pure laws: State, Give, Take of the reference; what stays of a map; what the laws say of the states. -/
import Derived.Test.YtbddllklagiajaaX1
import Derived.Test.YtbddllklagiajaaPBlocksEncodesx1
import Derived.Test.YtbddllklagiajaaPBlocksEncodesx2
namespace Go.Proofs.Ytbddllklagiajaa
open PBlocksEncodes
open Go.RowKit Go.Proofs.YtbddllklagiajaaW.PrintWords Go.Proofs.YtbddllklagiajaaW.PrintLast Go.Proofs.YtbddllklagiajaaW.PrintMore
set_option linter.unusedVariables false
set_option linter.unusedSimpArgs false

theorem mg_wrap (x : Int) (h : -9223372036854775808 ≤ x ∧ x ≤ 9223372036854775807) : wrap64 x = x := by unfold wrap64; omega
theorem mg_rd (xs : List Int) (i : Nat) : rd xs (i : Int) = xs.getD i 0 := by simp [rd]

theorem same_l0 (a b : List Int) (hl : a.length = b.length) (hb : a.length ≤ 10000000) : ∀ (k i : Nat), i ≤ a.length → a.length - i < k → a.take i = b.take i → replevinref12_Same.l0 k a b (i : Int) = some (decide (a = b))
  | 0, i, _, h, _ => by omega
  | k + 1, i, hi, hk, he => by
    unfold replevinref12_Same.l0
    by_cases h1 : i < a.length
    · rw [if_pos (by omega), if_pos (by omega), if_pos (by omega), mg_rd, mg_rd]
      have e1 : a.take (i + 1) = a.take i ++ [a.getD i 0] := by rw [List.take_succ_eq_append_getElem h1]; simp [h1]
      have e2 : b.take (i + 1) = b.take i ++ [b.getD i 0] := by rw [List.take_succ_eq_append_getElem (by omega)]; simp [show i < b.length by omega]
      by_cases h2 : a.getD i 0 = b.getD i 0
      · rw [if_pos h2, show wrap64 ((i : Int) + 1) = ((i + 1 : Nat) : Int) by rw [mg_wrap _ (by omega)]; rfl]
        exact same_l0 a b hl hb k (i + 1) (by omega) (by omega) (by rw [e1, e2, he, h2])
      · rw [if_neg h2, decide_eq_false (fun e => h2 (by rw [e]))]
    · rw [if_neg (by omega)]
      have : a = b := by
        rw [List.take_of_length_le (by omega), List.take_of_length_le (by omega)] at he
        exact he
      rw [decide_eq_true this]

theorem same_f (a b : List Int) (hb : a.length ≤ 10000000) (k : Nat) (hk : a.length < k) : replevinref12_Same.f k a b = some (decide (a = b)) := by
  unfold replevinref12_Same.f
  by_cases h : a.length = b.length
  · rw [if_pos (by omega)]
    exact same_l0 a b h hb k 0 (by omega) (by omega) (by simp)
  · rw [if_neg (by omega), decide_eq_false (fun e => h (by rw [e]))]

/-- How many blocks are in a state. -/
def numM (st : List Int) (s : Int) : Nat := st.count s

theorem number_l0 (st : List Int) (s f : Int) (hb : st.length ≤ 10000000) : ∀ (k i acc : Nat), i ≤ st.length → acc ≤ i → st.length - i < k → replevinref12_Number.l0 k s (acc : Int) (i : Int) f st = some ((acc + (st.drop i).count s : Nat) : Int)
  | 0, i, _, _, _, h => by omega
  | k + 1, i, acc, hi, ha, hk => by
    unfold replevinref12_Number.l0
    by_cases h1 : i < st.length
    · rw [if_pos (by omega), if_pos (by omega), mg_rd, List.drop_eq_getElem_cons h1]
      have e1 : st.getD i 0 = st[i] := by simp [h1]
      rw [e1, show wrap64 ((i : Int) + 1) = ((i + 1 : Nat) : Int) by rw [mg_wrap _ (by omega)]; rfl, show wrap64 ((acc : Int) + 1) = ((acc + 1 : Nat) : Int) by rw [mg_wrap _ (by omega)]; rfl]
      by_cases h2 : st[i] = s
      · rw [if_pos h2, number_l0 st s f hb k (i + 1) (acc + 1) (by omega) (by omega) (by omega), List.count_cons, if_pos (by simp [h2])]
        congr 2; omega
      · rw [if_neg h2, number_l0 st s f hb k (i + 1) acc (by omega) (by omega) (by omega), List.count_cons, if_neg (by simp [h2])]
        rfl
    · rw [if_neg (by omega), List.drop_of_length_le (by omega)]
      simp

theorem number_f (st : List Int) (s f : Int) (hb : st.length ≤ 10000000) (k : Nat) (hk : st.length < k) : replevinref12_Number.f k f st s = some (numM st s : Int) := by
  unfold replevinref12_Number.f numM
  have := number_l0 st s f hb k 0 0 (by omega) (by omega) (by omega)
  simpa using this

/-- The blocks in some states. -/
def listM (first : Int) (st ss : List Int) : List Int := ((List.range st.length).filter (fun i => decide (st.getD i 0 ∈ ss))).map (fun i : Nat => first + (i : Int))

theorem list_l0 (st : List Int) (a b f : Int) (hb : st.length ≤ 10000000) (hf : 0 ≤ f ∧ f ≤ 1073741824) : ∀ (k i : Nat) (acc : List Int), i ≤ st.length → acc.length ≤ i → st.length - i < k →
    replevinref12_List.l0 k a b acc (i : Int) f st = some (acc ++ ((List.range' i (st.length - i)).filter (fun i => decide (st.getD i 0 ∈ [a, b]))).map (fun i : Nat => f + (i : Int)))
  | 0, i, _, _, _, h => by omega
  | k + 1, i, acc, hi, ha, hk => by
    unfold replevinref12_List.l0
    by_cases h1 : i < st.length
    · have e1 : st.length - i = (st.length - (i + 1)) + 1 := by omega
      rw [if_pos (by omega), if_pos (by omega), mg_rd, e1, List.range'_succ, List.filter_cons,
        show wrap64 ((i : Int) + 1) = ((i + 1 : Nat) : Int) by rw [mg_wrap _ (by omega)]; rfl, show wrap64 (f + (i : Int)) = f + (i : Int) from mg_wrap _ (by omega), if_pos (show acc.length < 17592186044416 by omega)]
      by_cases h2 : st.getD i 0 = a
      · rw [if_pos h2, list_l0 st a b f hb hf k (i + 1) _ (by omega) (by simp; omega) (by omega), if_pos (by rw [h2, decide_eq_true_iff]; simp)]
        simp
      · rw [if_neg h2]
        by_cases h3 : st.getD i 0 = b
        · rw [if_pos h3, list_l0 st a b f hb hf k (i + 1) _ (by omega) (by simp; omega) (by omega), if_pos (by rw [h3, decide_eq_true_iff]; simp)]
          simp
        · rw [if_neg h3, list_l0 st a b f hb hf k (i + 1) _ (by omega) (by omega) (by omega), if_neg (by rw [decide_eq_true_iff]; simp only [List.mem_cons, List.not_mem_nil, or_false]; rintro (e | e); exact h2 e; exact h3 e)]
    · rw [if_neg (by omega), show st.length - i = 0 by omega]
      simp

theorem list_f (st : List Int) (a b f : Int) (hb : st.length ≤ 10000000) (hf : 0 ≤ f ∧ f ≤ 1073741824) (k : Nat) (hk : st.length < k) : replevinref12_List.f k f st a b = some (listM f st [a, b]) := by
  unfold replevinref12_List.f listM
  have := list_l0 st a b f hb hf k 0 [] (by omega) (by simp) (by omega)
  rw [show ((0 : Nat) : Int) = 0 from rfl] at this
  rw [this, List.range_eq_range']
  simp

/-- What 'change' makes of a state. -/
def chgM (f g s : Int) : Int := if s = 2 then f else if s = 3 then g else s

theorem change_l0 (st : List Int) (f g first r : Int) (hb : st.length ≤ 10000000) : ∀ (k i : Nat) (acc : List Int), i ≤ st.length → acc.length ≤ i → st.length - i < k →
    replevinref12_change.l0 k f g (i : Int) first st r acc = some (r, acc ++ (st.drop i).map (chgM f g))
  | 0, i, _, _, _, h => by omega
  | k + 1, i, acc, hi, ha, hk => by
    unfold replevinref12_change.l0
    by_cases h1 : i < st.length
    · have e1 : st.getD i 0 = st[i] := by simp [h1]
      rw [if_pos (by omega), if_pos (by omega), mg_rd, List.drop_eq_getElem_cons h1, List.map_cons, e1, 
        show wrap64 ((i : Int) + 1) = ((i + 1 : Nat) : Int) by rw [mg_wrap _ (by omega)]; rfl, if_pos (show acc.length < 17592186044416 by omega)]
      by_cases h2 : st[i] = 2
      · have hc : chgM f g st[i] = f := by unfold chgM; rw [if_pos h2]
        rw [if_pos h2, change_l0 st f g first r hb k (i + 1) _ (by omega) (by simp; omega) (by omega), hc]
        simp
      · rw [if_neg h2]
        by_cases h3 : st[i] = 3
        · have hc : chgM f g st[i] = g := by unfold chgM; rw [if_neg h2, if_pos h3]
          rw [if_pos h3, if_pos (show acc.length < 17592186044416 by omega), change_l0 st f g first r hb k (i + 1) _ (by omega) (by simp; omega) (by omega), hc]
          simp
        · have hc : chgM f g st[i] = st[i] := by unfold chgM; rw [if_neg h2, if_neg h3]
          rw [if_neg h3, if_pos (show acc.length < 17592186044416 by omega), change_l0 st f g first r hb k (i + 1) _ (by omega) (by simp; omega) (by omega), hc]
          simp
    · rw [if_neg (by omega), List.drop_of_length_le (by omega)]
      simp

theorem change_f (st : List Int) (f g first : Int) (hb : st.length ≤ 10000000) (k : Nat) (hk : st.length < k) : replevinref12_change.f k first st f g = some (first, st.map (chgM f g)) := by
  unfold replevinref12_change.f
  have := change_l0 st f g first first hb k 0 [] (by omega) (by simp) (by omega)
  rw [show ((0 : Nat) : Int) = 0 from rfl] at this
  simpa using this
theorem commit_f (st : List Int) (first : Int) (hb : st.length ≤ 10000000) (k : Nat) (hk : st.length < k) : replevinref12_Commit.f k first st = some (first, st.map (chgM 1 0)) := by
  unfold replevinref12_Commit.f
  rw [change_f st 1 0 first hb k hk]
  rfl
theorem abort_f (st : List Int) (first : Int) (hb : st.length ≤ 10000000) (k : Nat) (hk : st.length < k) : replevinref12_Abort.f k first st = some (first, st.map (chgM 0 1)) := by
  unfold replevinref12_Abort.f
  rw [change_f st 0 1 first hb k hk]
  rfl

theorem with_f (st : List Int) (first v : Int) (i : Nat) (hi : i < st.length) (hb : st.length ≤ 10000000) (hf : 0 ≤ first ∧ first ≤ 1073741824) : replevinref12_with.f first st (first + (i : Int)) v = some (first, st.set i v) := by
  unfold replevinref12_with.f
  have e : wrap64 (first + (i : Int) - first) = (i : Int) := by rw [mg_wrap _ (by omega)]; omega
  simp only [Option.bind_some, e, List.nil_append, List.length_nil]
  rw [if_pos (by omega), if_pos (by omega), if_pos (by omega)]
  simp

theorem new_f (first : Int) (n : Nat) (h : 0 ≤ first ∧ first ≤ 1073741824 ∧ 1 ≤ n ∧ n ≤ 65536) : replevinref12_New.f first (n : Int) = some (first, List.replicate n 0, 0) := by
  unfold replevinref12_New.f
  rw [if_neg (by omega), if_neg (by omega), if_neg (by omega), if_neg (by omega), if_pos (by omega), if_pos (by omega)]
  simp
theorem new_f_bad (first count : Int) (h : ¬ (0 ≤ first ∧ first ≤ 1073741824 ∧ 1 ≤ count ∧ count ≤ 65536)) : replevinref12_New.f first count = some (0, [], 2) := by
  unfold replevinref12_New.f
  by_cases h1 : first < 0
  · rw [if_pos h1]
  rw [if_neg h1]
  by_cases h2 : first > 1073741824
  · rw [if_pos h2]
  rw [if_neg h2]
  by_cases h3 : count < 1
  · rw [if_pos h3]
  rw [if_neg h3, if_pos (by omega)]
end Go.Proofs.Ytbddllklagiajaa

namespace Go.Proofs.Ytbddllklagiajaa
open PCodecKeeps (info5)
open Go.RowKit Go.Proofs.YtbddllklagiajaaW.PrintWords Go.Proofs.YtbddllklagiajaaW.PrintLast Go.Proofs.YtbddllklagiajaaW.PrintMore
set_option linter.unusedVariables false
set_option linter.unusedSimpArgs false

/-- A Map lies at block g: its first block and the states. -/
def Mp (base : Nat) (w : World) (g : Nat) (P : Nat → Prop) (first : Int) (st : List Int) : Prop :=
  ∃ A n c, w.heap[g]? = some (.cells #[.int .i64 first, .slice A n c] 125 (0, 0)) ∧ base ≤ g ∧ KB.R 5 w base P (.slice A n c) st

namespace Mp
variable {base g : Nat} {w w' : World} {P P' S : Nat → Prop} {first : Int} {st : List Int}
theorem mono (h : Mp base w g P first st) (hp : ∀ k, P k → P' k) : Mp base w g P' first st := by
  obtain ⟨A, n, c, hb, hg, hr⟩ := h
  exact ⟨A, n, c, hb, hg, Kd.R_mono hr hp⟩
theorem lower {base' : Nat} (h : Mp base w g P first st) (hp : base' ≤ base) : Mp base' w g P first st := by
  obtain ⟨A, n, c, hb, hg, hr⟩ := h
  exact ⟨A, n, c, hb, Nat.le_trans hp hg, Kd.R_lower hr hp⟩
theorem frm (h : Mp base w g P first st) (hk : Frm w w' S) (hg : ¬ S g) (hS : ∀ k, P k → ¬ S k) : Mp base w' g P first st := by
  obtain ⟨A, n, c, hb, hg', hr⟩ := h
  exact ⟨A, n, c, hk.blk hb hg, hg', Kd.R_kept hr hk.kept hS⟩
theorem fresh (h : Mp base w g P first st) (hb : Below w.heap.size w w') : Mp base w' g P first st := h.frm (Frm.of_fresh hb (fun _ => False)) (fun h => h) (fun _ _ h => h)
/-- The row's block is not the Map's, is there, and is the call's own. -/
theorem tight (h : Mp base w g P first st) : Mp base w g (fun k => P k ∧ k ≠ g ∧ base ≤ k ∧ k < w.heap.size) first st := by
  obtain ⟨A, n, c, hb, hg', hr⟩ := h
  refine ⟨A, n, c, hb, hg', ?_⟩
  have h1 := Kd.R_types hr hb (by intro q hq; simp [KB, Kd.int, Kd.scalar] at hq; omega)
  exact Kd.R_mono (Kd.R_bound h1) (fun k hk => ⟨hk.1.1, hk.1.2, hk.2.1, hk.2.2.1⟩)
theorem lt (h : Mp base w g P first st) : g < w.heap.size := by
  obtain ⟨A, n, c, hb, _⟩ := h
  exact blk_lt hb
theorem base_le (h : Mp base w g P first st) : base ≤ g := by
  obtain ⟨A, n, c, _, hb, _⟩ := h
  exact hb
end Mp

/-- The range that New accepts. -/
def okRange (first count : Int) : Prop := 0 ≤ first ∧ first ≤ 1073741824 ∧ 1 ≤ count ∧ count ≤ 65536

set_option maxHeartbeats 1000000 in
theorem new_bad (first count : Int) (w : World) (h : ¬ okRange first count) :
    Calls Try.prog 56 #[.int .i64 first, .int .i64 count] w fun e w' => e = .returned (.tuple #[.pointer none, .int .i64 2]) ∧ w' = w := by
  have h4 : first < 0 ∨ (0 ≤ first ∧ 1073741824 < first) ∨ (0 ≤ first ∧ first ≤ 1073741824 ∧ count < 1) ∨ (0 ≤ first ∧ first ≤ 1073741824 ∧ 1 ≤ count ∧ 65536 < count) := by
    unfold okRange at h
    omega
  clear h
  rcases h4 with h1 | ⟨h1, h2⟩ | ⟨h1, h2, h3⟩ | ⟨h1, h2, h3, h4⟩
  all_goals
    go_enter Try.func56, Try.ntmps56
    go_wp2
    go_ret2
    exact ⟨rfl, rfl⟩

set_option maxHeartbeats 1000000 in
theorem new_ok (first : Int) (n : Nat) (w : World) (h : okRange first n) :
    Calls Try.prog 56 #[.int .i64 first, .int .i64 n] w fun e w' => ∃ g, e = .returned (.tuple #[.pointer (some ⟨g, 0, none⟩), .int .i64 0]) ∧ Mp w.heap.size w' g (fun k => w.heap.size ≤ k) first (List.replicate n 0) ∧ w.heap.size ≤ g ∧ Below w.heap.size w w' := by
  obtain ⟨h1, h2, h3, h4⟩ := h
  go_enter Try.func56, Try.ntmps56
  go_wp2_with ((with_reducible refine gate_dst (N := 22) rfl ?_); refine Kd.R_make KB (w0 := w) w.heap.size 5 rfl (N := 22) rfl 22 _ _ rfl (n : Int) rfl rfl Try.underlying22 (.int .u8 0) 1 info5 rfl (by decide) (by decide) 0 (ok := fun k => w.heap.size ≤ k) (okp := fun _ => False) rfl (fun _ h => h.elim) (Nat.le_refl _) ?a0 ?al (Below.refl _ _) (Nat.le_refl _) ?_; (case a0 => omega); (case al => omega); intro v3 w3 hr3 hb3 _ _; obtain ⟨A3, n3, c3, rfl⟩ := R_form' hr3; have HR3 := Aside0.mk hr3; have HB3 := Aside0.mk hb3; clear hr3 hb3)
  go_ret2
  have hs3 := HB3.out.size
  have hr := HR3.out
  rw [Int.toNat_natCast] at hr
  exact ⟨w3.heap.size, rfl, ⟨A3, n3, c3, blk_new w3 _, hs3, Kd.R_alloc hr _⟩, hs3, below_alloc HB3.out _⟩
end Go.Proofs.Ytbddllklagiajaa

namespace Go.Proofs.Ytbddllklagiajaa
open PCodecKeeps (info5)
open Go.RowKit Go.Proofs.YtbddllklagiajaaW.PrintWords Go.Proofs.YtbddllklagiajaaW.PrintLast Go.Proofs.YtbddllklagiajaaW.PrintMore
set_option linter.unusedVariables false
set_option linter.unusedSimpArgs false

/-- What is known of a range. -/
def WfM (first : Int) (st : List Int) : Prop := 0 ≤ first ∧ first ≤ 1073741824 ∧ 1 ≤ st.length ∧ st.length ≤ 65536 ∧ ∀ s ∈ st, 0 ≤ s ∧ s ≤ 3

/-- A block is in the range. -/
def inM (first : Int) (n : Nat) (x : Int) : Prop := first ≤ x ∧ x - first < n
instance (first : Int) (n : Nat) (x : Int) : Decidable (inM first n x) := inferInstanceAs (Decidable (_ ∧ _))

section
variable (base g : Nat) (P : Nat → Prop) (first : Int) (st : List Int) (w : World) (h : Mp base w g P first st)
include h
theorem Mp.cells : ∃ A n c, w.cell? ⟨g, 0, none⟩ = some (.int .i64 first) ∧ w.cell? ⟨g, 1, none⟩ = some (.slice A n c) ∧ st.length = n ∧ n ≤ c ∧ KB.C w A n st := by
  obtain ⟨A, n, c, hb, _, hr⟩ := h
  have hc := Kd.R_reads' hr
  exact ⟨A, n, c, blk_cell hb 0, blk_cell hb 1, hc.1.symm, hc.2.1, by rw [hc.1]; exact hc.2.2⟩

theorem first_calls : Calls Try.prog 47 #[.pointer (some ⟨g, 0, none⟩)] w fun e w' => e = .returned (.int .i64 first) ∧ w' = w := by
  obtain ⟨A, n, c, h0, h1, hl, hc, hC⟩ := h.cells
  clear h hC hl
  go_enter Try.func47, Try.ntmps47
  go_wp2
  go_ret
  exact ⟨rfl, rfl⟩

theorem count_calls : Calls Try.prog 48 #[.pointer (some ⟨g, 0, none⟩)] w fun e w' => e = .returned (.int .i64 (st.length : Int)) ∧ w' = w := by
  obtain ⟨A, n, c, h0, h1, hl, hc, hC⟩ := h.cells
  rw [hl]
  clear h hC hl
  go_enter Try.func48, Try.ntmps48
  go_wp2
  go_ret
  exact ⟨rfl, rfl⟩

theorem has_calls (x : Int) (hf : 0 ≤ first) (hx : x ≤ 9223372036854775807) : Calls Try.prog 88 #[.pointer (some ⟨g, 0, none⟩), .int .i64 x] w fun e w' => e = .returned (.bool (decide (inM first st.length x))) ∧ ∃ m, w' = w.drewN m := by
  obtain ⟨A, n, c, h0, h1, hl, hc, hC⟩ := h.cells
  rw [hl]
  clear h hC hl
  by_cases h2 : first ≤ x
  · by_cases h3 : x - first < n
    · rw [show decide (inM first n x) = true from decide_eq_true ⟨h2, h3⟩]
      have d1 : decide (first ≤ x) = true := decide_eq_true h2
      have d2 : decide (x - first < (n : Int)) = true := decide_eq_true h3
      have hw : IntKind.i64.wrap (x - first) = x - first := by rw [IntKind.wrap_i64]; omega
      clear h2 h3
      go_enter Try.func88, Try.ntmps88
      go_wp2_with fail
      go_region
      go_wp2
      go_ret
      exact ⟨rfl, ⟨1, rfl⟩⟩
    · rw [show decide (inM first n x) = false from decide_eq_false (fun hh => h3 hh.2)]
      have d1 : decide (first ≤ x) = true := decide_eq_true h2
      have d2 : decide (x - first < (n : Int)) = false := decide_eq_false h3
      have hw : IntKind.i64.wrap (x - first) = x - first := by rw [IntKind.wrap_i64]; omega
      clear h2 h3
      go_enter Try.func88, Try.ntmps88
      go_wp2_with fail
      go_region
      go_wp2
      go_ret
      exact ⟨rfl, ⟨1, rfl⟩⟩
  · rw [show decide (inM first n x) = false from decide_eq_false (fun hh => h2 hh.1)]
    have d1 : decide (first ≤ x) = false := decide_eq_false h2
    clear h2
    go_enter Try.func88, Try.ntmps88
    go_wp2_with fail
    go_region
    go_wp2
    go_ret
    exact ⟨rfl, ⟨1, rfl⟩⟩
end
end Go.Proofs.Ytbddllklagiajaa

namespace Go.Proofs.Ytbddllklagiajaa
open PCodecKeeps (info5)
open Go.RowKit Go.Proofs.YtbddllklagiajaaW.PrintWords Go.Proofs.YtbddllklagiajaaW.PrintLast Go.Proofs.YtbddllklagiajaaW.PrintMore
set_option linter.unusedVariables false
set_option linter.unusedSimpArgs false

/-- A byte of a row of the call's own. -/
theorem own_at {w : World} {base n c : Nat} {ok : Nat → Prop} {A : Option Addr} {xs : List Int} (h : KB.R 5 w base ok (.slice A n c) xs) (k : Nat) (hk : k < n) :
    ∃ g, A = some ⟨g, 0, none⟩ ∧ base ≤ g ∧ ok g ∧ g < w.heap.size ∧ w.cell? ⟨g, k, none⟩ = some (.int .u8 (xs.getD k 0)) ∧ w.frozen? ⟨g, k, none⟩ = false := by
  obtain ⟨rfl, hc, hC⟩ := Kd.R_reads' h
  have ho := Kd.own_of_R h
  rcases ho.2 with ⟨he, hn⟩ | ⟨g, cap, cur, he, hg, hb, _⟩
  · omega
  · injection he with h1 h2 h3
    subst h1
    obtain ⟨ad, e, hx⟩ := Kd.at_int hC k (by omega) (by omega)
    injection e with e
    subst e
    refine ⟨g, rfl, hg, h.1 g rfl, blk_lt hb, ?_, blk_frozen hb k⟩
    rw [show (Addr.add ⟨g, 0, none⟩ ((k : Int).toNat)) = ⟨g, k, none⟩ by rw [add_plain]; simp, rd_nat] at hx
    exact hx

/-- The state of a block, or the error. -/
def stateM (first : Int) (st : List Int) (x : Int) : Int × Int := if inM first st.length x then (st.getD (x - first).toNat 0, 0) else (0, 2)

set_option maxHeartbeats 1000000 in
theorem state_nil (x : Int) (w : World) : Calls Try.prog 51 #[.pointer none, .int .i64 x] w fun e w' => e = .returned (.tuple #[.int .i64 0, .int .i64 1]) ∧ w' = w := by
  go_enter Try.func51, Try.ntmps51
  go_wp2
  go_ret2
  exact ⟨rfl, rfl⟩

set_option maxHeartbeats 1000000 in
theorem state_calls (base g : Nat) (P : Nat → Prop) (first : Int) (st : List Int) (w : World) (h : Mp base w g P first st) (x : Int) (hf : 0 ≤ first) (hx : x ≤ 9223372036854775807) (hst : ∀ s ∈ st, 0 ≤ s ∧ s ≤ 3) :
    Calls Try.prog 51 #[.pointer (some ⟨g, 0, none⟩), .int .i64 x] w fun e w' => e = .returned (.tuple #[.int .i64 (stateM first st x).1, .int .i64 (stateM first st x).2]) ∧ ∃ m, w' = w.drewN m := by
  have HH := Aside0.mk (has_calls base g P first st w h x hf hx)
  obtain ⟨A, n, c, hb, _, hr⟩ := h
  have h0 : w.cell? ⟨g, 0, none⟩ = some (.int .i64 first) := blk_cell hb 0
  have h1 : w.cell? ⟨g, 1, none⟩ = some (.slice A n c) := blk_cell hb 1
  have hl := (Kd.R_reads' hr).1
  unfold stateM
  by_cases hin : inM first st.length x
  · rw [if_pos hin]
    rw [show decide (inM first st.length x) = true from decide_eq_true hin] at HH
    obtain ⟨i, hi⟩ : ∃ i : Nat, x = first + i := ⟨(x - first).toNat, by have := hin.1; omega⟩
    subst hi
    have hin2 : i < n := by have := hin.2; omega
    rw [show (first + (i : Int) - first).toNat = i by omega]
    obtain ⟨b, rfl, _, _, _, hc, _⟩ := own_at hr i hin2
    have hs2 : 0 ≤ st.getD i 0 ∧ st.getD i 0 ≤ 3 := by
      refine hst _ ?_
      rw [List.getD_eq_getElem?_getD, List.getElem?_eq_getElem (by omega)]
      exact List.getElem_mem _
    obtain ⟨s, hs⟩ : ∃ s, st.getD i 0 = s := ⟨_, rfl⟩
    rw [hs] at hc hs2 ⊢
    have hws : wrap64 s = s := by unfold wrap64; omega
    have hw : IntKind.i64.wrap (first + (i : Int) - first) = (i : Int) := by rw [IntKind.wrap_i64]; omega
    clear hb hr hl hin hs
    go_enter Try.func51, Try.ntmps51
    go_wp2_with fail
    refine HH.out.mono ?_
    rintro e w1 ⟨rfl, m, rfl⟩
    go_wp2_with fail
    go_region
    go_wp2
    go_ret2
    exact ⟨rfl, ⟨_, rfl⟩⟩
  · rw [if_neg hin]
    rw [show decide (inM first st.length x) = false from decide_eq_false hin] at HH
    clear hb hr hl hin
    go_enter Try.func51, Try.ntmps51
    go_wp2_with fail
    refine HH.out.mono ?_
    rintro e w1 ⟨rfl, m, rfl⟩
    go_wp2
    go_ret2
    exact ⟨rfl, ⟨_, rfl⟩⟩

/-- The states after a block was given back, and the error. -/
def giveM (first : Int) (st : List Int) (x : Int) : List Int × Int :=
  if inM first st.length x then (if st.getD (x - first).toNat 0 = 1 then (st.set (x - first).toNat 3, 0) else if st.getD (x - first).toNat 0 = 2 then (st.set (x - first).toNat 0, 0) else (st, 10)) else (st, 2)

set_option maxHeartbeats 1000000 in
theorem give_nil (x : Int) (w : World) : Calls Try.prog 60 #[.pointer none, .int .i64 x] w fun e w' => e = .returned (.int .i64 1) ∧ w' = w := by
  go_enter Try.func60, Try.ntmps60
  go_wp2_with fail
  refine (state_nil x w).mono ?_
  rintro e w1 ⟨rfl, rfl⟩
  go_wp2
  go_ret
  exact ⟨rfl, rfl⟩

set_option maxHeartbeats 2000000 in
theorem give_calls (base g : Nat) (P : Nat → Prop) (first : Int) (st : List Int) (w : World) (h : Mp base w g P first st) (x : Int) (hf : 0 ≤ first) (hx : x ≤ 9223372036854775807) (hst : ∀ s ∈ st, 0 ≤ s ∧ s ≤ 3) :
    Calls Try.prog 60 #[.pointer (some ⟨g, 0, none⟩), .int .i64 x] w fun e w' => e = .returned (.int .i64 (giveM first st x).2) ∧ Mp base w' g P first (giveM first st x).1 ∧ Frm w w' P := by
  have HH := Aside0.mk (state_calls base g P first st w h x hf hx hst)
  have HM := Aside0.mk h.tight
  have HM0 := Aside0.mk h
  obtain ⟨A, n, c, hb, hbg, hr⟩ := h.tight
  have h0 : w.cell? ⟨g, 0, none⟩ = some (.int .i64 first) := blk_cell hb 0
  have h1 : w.cell? ⟨g, 1, none⟩ = some (.slice A n c) := blk_cell hb 1
  have hl := (Kd.R_reads' hr).1
  unfold stateM at HH
  unfold giveM
  by_cases hin : inM first st.length x
  · rw [if_pos hin]
    rw [if_pos hin] at HH
    obtain ⟨i, hi⟩ : ∃ i : Nat, x = first + i := ⟨(x - first).toNat, by have := hin.1; omega⟩
    subst hi
    have hin2 : i < n := by have := hin.2; omega
    rw [show (first + (i : Int) - first).toNat = i by omega] at HH ⊢
    obtain ⟨b, rfl, hbb, hPb, hlt, hc, hfz⟩ := own_at hr i hin2
    have hne : b ≠ g := hPb.2.1
    have hPb1 := hPb.1
    have hs2 : 0 ≤ st.getD i 0 ∧ st.getD i 0 ≤ 3 := by
      refine hst _ ?_
      rw [List.getD_eq_getElem?_getD, List.getElem?_eq_getElem (by omega)]
      exact List.getElem_mem _
    obtain ⟨s, hs⟩ : ∃ s, st.getD i 0 = s := ⟨_, rfl⟩
    rw [hs] at hc hs2 HH ⊢
    have hw : IntKind.i64.wrap (first + (i : Int) - first) = (i : Int) := by rw [IntKind.wrap_i64]; omega
    have hset : ∀ (m : Nat) (v : Int), Mp base ((w.drewN m).setCell ⟨b, i, none⟩ (.int .u8 v)) g P first (st.set i v) := by
      intro m v
      refine ⟨_, n, c, blk_far (blk_drewN hb m) (fun e => hne e.symm) _, hbg, Kd.R_mono (ok := fun k => P k ∧ k ≠ g ∧ base ≤ k ∧ k < w.heap.size) ?_ (fun k hk => hk.1)⟩
      exact Kd.R_putn (Kd.R_drewN hr m) (i : Int) v
    have HSET := Aside0.mk hset
    have hdr : ∀ m : Nat, Mp base (w.drewN m) g P first st := fun m => HM0.out.frm ((Frm.refl w (fun _ => False)).drewN m) (fun h => h) (fun _ _ h => h)
    have HDR := Aside0.mk hdr
    have HP := Aside0.mk hPb1
    clear hb hr hl hin hs hset hdr hPb hbg hbb hlt hne hPb1
    by_cases e1 : s = 1
    · subst e1
      rw [if_pos rfl]
      go_enter Try.func60, Try.ntmps60
      go_wp2_with fail
      refine HH.out.mono ?_
      rintro e w1 ⟨rfl, m, rfl⟩
      go_wp2_with fail
      go_region
      go_wp2
      go_ret
      exact ⟨rfl, HSET.out (m + 1) 3, ((Frm.refl w P).drewN (m + 1)).setCell (.inl HP.out) _⟩
    · rw [if_neg e1]
      by_cases e2 : s = 2
      · subst e2
        rw [if_pos rfl]
        go_enter Try.func60, Try.ntmps60
        go_wp2_with fail
        refine HH.out.mono ?_
        rintro e w1 ⟨rfl, m, rfl⟩
        go_wp2_with fail
        go_region
        go_wp2
        go_ret
        exact ⟨rfl, HSET.out (m + 1) 0, ((Frm.refl w P).drewN (m + 1)).setCell (.inl HP.out) _⟩
      · rw [if_neg e2]
        have b1 : (s == 1) = false := beq_eq_false_iff_ne.mpr e1
        have b2 : (s == 2) = false := beq_eq_false_iff_ne.mpr e2
        go_enter Try.func60, Try.ntmps60
        go_wp2_with fail
        refine HH.out.mono ?_
        rintro e w1 ⟨rfl, m, rfl⟩
        go_wp2
        go_ret
        exact ⟨rfl, HDR.out m, (Frm.refl w P).drewN m⟩
  · rw [if_neg hin]
    rw [if_neg hin] at HH
    have hdr : ∀ m : Nat, Mp base (w.drewN m) g P first st := fun m => HM0.out.frm ((Frm.refl w (fun _ => False)).drewN m) (fun h => h) (fun _ _ h => h)
    have HDR := Aside0.mk hdr
    clear hb hr hl hin hdr hbg h0 h1
    go_enter Try.func60, Try.ntmps60
    go_wp2_with fail
    refine HH.out.mono ?_
    rintro e w1 ⟨rfl, m, rfl⟩
    go_wp2
    go_ret
    exact ⟨rfl, HDR.out m, (Frm.refl w P).drewN m⟩
end Go.Proofs.Ytbddllklagiajaa

namespace Go.Proofs.Ytbddllklagiajaa
open PCodecKeeps (info5)
open Go.RowKit Go.Proofs.YtbddllklagiajaaW.PrintWords Go.Proofs.YtbddllklagiajaaW.PrintLast Go.Proofs.YtbddllklagiajaaW.PrintMore
set_option linter.unusedVariables false
set_option linter.unusedSimpArgs false

/-- What 'become' makes of a state. -/
def nextM (n0 n1 n2 n3 s : Int) : Int := if s = 0 then n0 else if s = 1 then n1 else if s = 2 then n2 else n3

set_option maxHeartbeats 1000000 in
theorem become_nil (v : Value) (w : World) (cs : Array Value) (hv : v = .agg cs) (hs : cs.size = 4) : Calls Try.prog 90 #[.pointer none, v] w fun e w' => e = .returned (.int .i64 1) ∧ Below w.heap.size w w' := by
  obtain ⟨cs⟩ := cs
  match cs, hs with
  | [c0, c1, c2, c3], _ =>
  subst hv
  go_enter Try.func90, Try.ntmps90
  go_wp2
  go_ret
  exact ⟨rfl, below_alloc (Below.refl _ _) _⟩

set_option maxHeartbeats 4000000 in
theorem become_calls (base g : Nat) (P : Nat → Prop) (first : Int) (st : List Int) (n0 n1 n2 n3 : Int) (w : World) (h : Mp base w g P first st) (hst : ∀ s ∈ st, 0 ≤ s ∧ s ≤ 3) (hlen : st.length ≤ 65536) :
    Calls Try.prog 90 #[.pointer (some ⟨g, 0, none⟩), .agg #[.int .u8 n0, .int .u8 n1, .int .u8 n2, .int .u8 n3]] w fun e w' => e = .returned (.int .i64 0) ∧ Mp base w' g P first (st.map (nextM n0 n1 n2 n3)) ∧ Frm w w' P := by
  have hgl := h.lt
  obtain ⟨A, n, c, hb, hbg, hr⟩ := h.tight
  have hl := (Kd.R_reads' hr).1
  have HB := Aside0.mk hb
  have HBG := Aside0.mk hbg
  have HR := Aside0.mk hr
  have HL := Aside0.mk hl
  have hn : n ≤ 65536 := by omega
  have HS := Aside0.mk hst
  have HG := Aside0.mk hgl
  have h1 : w.cell? ⟨g, 1, none⟩ = some (.slice A n c) := blk_cell hb 1
  have h1a : ∀ o, (w.alloc o).cell? ⟨g, 1, none⟩ = some (.slice A n c) := fun o => ((Frm.refl w (fun _ => False)).alloc o).cell h1 (fun h => h)
  clear hb hbg hr hl hst hgl h hlen
  go_enter Try.func90, Try.ntmps90
  go_wp2
  go_loopw [14] (fun i wr => ∃ k : Nat, k ≤ n ∧ i = .int .i64 k ∧ wr.heap[g]? = some (.cells #[.int .i64 first, .slice A n c] 125 (0, 0)) ∧ KB.R 5 wr base (fun k => P k ∧ k ≠ g ∧ base ≤ k ∧ k < w.heap.size) (.slice A n c) ((st.take k).map (nextM n0 n1 n2 n3) ++ st.drop k) ∧ Frm w wr P ∧ wr.heap[w.heap.size]? = some (.cells #[.int .u8 n0, .int .u8 n1, .int .u8 n2, .int .u8 n3] 129 (0, 0))) (fun i _ => n - (intOf i).toNat)
  case atStart => exact ⟨0, Nat.zero_le _, rfl, blk_alloc HB.out _, Kd.R_alloc HR.out _, (Frm.refl w P).alloc _, blk_new w _⟩
  case round =>
    obtain ⟨k, hk, rfl, hb, hr, hf, hx⟩ := hrel
    by_cases hlt : k < n
    · obtain ⟨b, rfl, hbb, hPb, hbl, hc, hfz⟩ := own_at hr k hlt
      have hkl : k < st.length := by rw [← HL.out]; exact hlt
      have hget : ((st.take k).map (nextM n0 n1 n2 n3) ++ st.drop k).getD k 0 = st.getD k 0 := by
        have h1 : ((st.take k).map (nextM n0 n1 n2 n3)).length = k := by rw [List.length_map, List.length_take]; omega
        rw [List.getD_eq_getElem?_getD, List.getElem?_append_right (by omega), h1, Nat.sub_self, List.getElem?_drop, Nat.add_zero, ← List.getD_eq_getElem?_getD]
      have hset : ∀ v, v = nextM n0 n1 n2 n3 (st.getD k 0) → ((st.take k).map (nextM n0 n1 n2 n3) ++ st.drop k).set k v = (st.take (k + 1)).map (nextM n0 n1 n2 n3) ++ st.drop (k + 1) := by
        rintro v rfl
        have h1 : ((st.take k).map (nextM n0 n1 n2 n3)).length = k := by rw [List.length_map, List.length_take]; omega
        rw [List.set_append_right _ _ (by omega), h1, Nat.sub_self, List.drop_eq_getElem_cons hkl, List.set_cons_zero, take_snoc' st k hkl, List.map_append, List.append_assoc]
        rfl
      have hs2 : 0 ≤ st.getD k 0 ∧ st.getD k 0 ≤ 3 := by
        refine HS.out _ ?_
        rw [List.getD_eq_getElem?_getD, List.getElem?_eq_getElem hkl]
        exact List.getElem_mem _
      rw [hget] at hc
      obtain ⟨s, hs⟩ : ∃ s, st.getD k 0 = s := ⟨_, rfl⟩
      rw [hs] at hc hs2 hset
      have g1 : wr.cell? ⟨g, 1, none⟩ = some (.slice (some ⟨b, 0, none⟩) n c) := blk_cell hb 1
      have x0 : wr.cell? ⟨w.heap.size, 0, none⟩ = some (.int .u8 n0) := blk_cell hx 0
      have x1 : wr.cell? ⟨w.heap.size, 1, none⟩ = some (.int .u8 n1) := blk_cell hx 1
      have x2 : wr.cell? ⟨w.heap.size, 2, none⟩ = some (.int .u8 n2) := blk_cell hx 2
      have x3 : wr.cell? ⟨w.heap.size, 3, none⟩ = some (.int .u8 n3) := blk_cell hx 3
      have HSET := Aside0.mk hset
      have HB1 := Aside0.mk hb
      have HR1 := Aside0.mk hr
      have HF1 := Aside0.mk hf
      have HX1 := Aside0.mk hx
      have HNE := Aside0.mk (show g ≠ b from fun e => hPb.2.1 e.symm)
      have HNX := Aside0.mk (show w.heap.size ≠ b by have := hPb.2.2.2; omega)
      have HPB := Aside0.mk hPb.1
      clear hset hb hr hf hx hget hs hbb hPb hbl hkl
      have h4 : s = 0 ∨ s = 1 ∨ s = 2 ∨ s = 3 := by omega
      clear hs2
      rcases h4 with rfl | rfl | rfl | rfl
      all_goals (go_wp2_with fail)
      all_goals
        go_region
        go_wp2
        go_roundw
        case rel =>
          refine ⟨k + 1, by omega, by go_num, blk_far (blk_drew HB1.out) HNE.out _, ?_, (HF1.out.drew).setCell (.inl HPB.out) _, blk_far (blk_drew HX1.out) HNX.out _⟩
          first | rw [← HSET.out n0 rfl] | rw [← HSET.out n1 rfl] | rw [← HSET.out n2 rfl] | rw [← HSET.out n3 rfl]
          exact Kd.R_putn (Kd.R_drew HR1.out) (k : Int) _
        case measure => simp [intOf]; omega
    · have hkn : k = n := by omega
      have HB1 := Aside0.mk hb
      have HR1 := Aside0.mk hr
      have HF1 := Aside0.mk hf
      subst hkn
      clear hb hr hf hx hlt hk
      go_wp2
      go_ret
      refine ⟨rfl, ⟨A, k, c, HB1.out, HBG.out, Kd.R_mono (ok := fun k => P k ∧ k ≠ g ∧ base ≤ k ∧ k < w.heap.size) ?_ (fun _ h => h.1)⟩, HF1.out⟩
      have := HR1.out
      rw [List.take_of_length_le (by rw [← HL.out]; exact Nat.le_refl _), List.drop_of_length_le (by rw [← HL.out]; exact Nat.le_refl _), List.append_nil] at this
      exact this

theorem commit_calls (base g : Nat) (P : Nat → Prop) (first : Int) (st : List Int) (w : World) (h : Mp base w g P first st) (hst : ∀ s ∈ st, 0 ≤ s ∧ s ≤ 3) (hlen : st.length ≤ 65536) :
    Calls Try.prog 54 #[.pointer (some ⟨g, 0, none⟩)] w fun e w' => e = .returned (.int .i64 0) ∧ Mp base w' g P first (st.map (nextM 0 1 1 0)) ∧ Frm w w' P := by
  have HX := Aside0.mk (become_calls base g P first st 0 1 1 0 w h hst hlen)
  clear h hst hlen
  go_enter Try.func54, Try.ntmps54
  go_wp2_with fail
  refine HX.out.mono ?_
  rintro e w1 ⟨rfl, h1⟩
  have H1 := Aside0.mk h1
  clear h1
  go_wp2
  go_ret
  exact ⟨rfl, H1.out⟩
theorem abort_calls (base g : Nat) (P : Nat → Prop) (first : Int) (st : List Int) (w : World) (h : Mp base w g P first st) (hst : ∀ s ∈ st, 0 ≤ s ∧ s ≤ 3) (hlen : st.length ≤ 65536) :
    Calls Try.prog 53 #[.pointer (some ⟨g, 0, none⟩)] w fun e w' => e = .returned (.int .i64 0) ∧ Mp base w' g P first (st.map (nextM 0 1 0 1)) ∧ Frm w w' P := by
  have HX := Aside0.mk (become_calls base g P first st 0 1 0 1 w h hst hlen)
  clear h hst hlen
  go_enter Try.func53, Try.ntmps53
  go_wp2_with fail
  refine HX.out.mono ?_
  rintro e w1 ⟨rfl, h1⟩
  have H1 := Aside0.mk h1
  clear h1
  go_wp2
  go_ret
  exact ⟨rfl, H1.out⟩
theorem commit_nil (w : World) : Calls Try.prog 54 #[.pointer none] w fun e w' => e = .returned (.int .i64 1) ∧ Below w.heap.size w w' := by
  go_enter Try.func54, Try.ntmps54
  go_wp2_with fail
  refine (become_nil _ w _ rfl rfl).mono ?_
  rintro e w1 ⟨rfl, h1⟩
  have H1 := Aside0.mk h1
  clear h1
  go_wp2
  go_ret
  exact ⟨rfl, H1.out⟩
theorem abort_nil (w : World) : Calls Try.prog 53 #[.pointer none] w fun e w' => e = .returned (.int .i64 1) ∧ Below w.heap.size w w' := by
  go_enter Try.func53, Try.ntmps53
  go_wp2_with fail
  refine (become_nil _ w _ rfl rfl).mono ?_
  rintro e w1 ⟨rfl, h1⟩
  have H1 := Aside0.mk h1
  clear h1
  go_wp2
  go_ret
  exact ⟨rfl, H1.out⟩
end Go.Proofs.Ytbddllklagiajaa

namespace Go.Proofs.Ytbddllklagiajaa
open Go.RowKit Go.Proofs.YtbddllklagiajaaW.PrintWords Go.Proofs.YtbddllklagiajaaW.PrintLast Go.Proofs.YtbddllklagiajaaW.PrintMore
set_option linter.unusedVariables false
set_option linter.unusedSimpArgs false

/-- The first place of a number, or -1. -/
def indexI (l : List Int) (v : Int) : Int := if v ∈ l then (l.idxOf v : Int) else -1

theorem idx_of_notin {l : List Int} {v : Int} {k : Nat} (hk : k < l.length) (h1 : v ∉ l.take k) (h2 : l.getD k 0 = v) : v ∈ l ∧ l.idxOf v = k := by
  have hm : v ∈ l := by rw [← h2, List.getD_eq_getElem?_getD, List.getElem?_eq_getElem hk]; exact List.getElem_mem _
  refine ⟨hm, ?_⟩
  have hsplit : l = l.take k ++ l.drop k := (List.take_append_drop k l).symm
  rw [hsplit, List.idxOf_append, if_neg h1, List.drop_eq_getElem_cons hk]
  have : l[k] = v := by rw [← h2]; simp [List.getD, hk]
  rw [this, List.idxOf_cons_self, List.length_take]
  omega

set_option maxHeartbeats 1000000 in
theorem index_calls (A : Option Addr) (n c : Nat) (l : List Int) (v : Int) (w : World) (hl : l.length = n) (hC : KI.C w A n l) (hn : n ≤ 1000000) :
    Calls Try.prog 105 #[.slice A n c, .int .i64 v] w fun e w' => e = .returned (.int .i64 (indexI l v)) ∧ w' = w := by
  have HC := Aside0.mk hC
  have HL := Aside0.mk hl
  clear hC hl
  go_enter Try.func105, Try.ntmps105
  go_wp2
  go_loopw [8] (fun i wr => ∃ k : Nat, k ≤ n ∧ i = .int .i64 k ∧ v ∉ l.take k ∧ wr = w) (fun i _ => n - (intOf i).toNat)
  case atStart => exact ⟨0, Nat.zero_le _, rfl, by simp, rfl⟩
  case round =>
    obtain ⟨k, hk, rfl, hni, rfl⟩ := hrel
    by_cases hlt : k < n
    · obtain ⟨ad, e, hx⟩ := Kd.at_int HC.out k (by omega) (by omega)
      subst e
      rw [rd_nat, Int.toNat_natCast] at hx
      obtain ⟨x, hxx⟩ : ∃ x, l.getD k 0 = x := ⟨_, rfl⟩
      rw [hxx] at hx
      have HNI := Aside0.mk hni
      have HXX := Aside0.mk hxx
      clear hni hxx
      by_cases he : v = x
      · subst he
        go_wp2
        go_ret
        obtain ⟨h1, h2⟩ := idx_of_notin (by rw [HL.out]; exact hlt) HNI.out HXX.out
        refine ⟨?_, rfl⟩
        unfold indexI
        rw [if_pos h1, h2]
        rfl
      · have hb : (v == x) = false := beq_eq_false_iff_ne.mpr he
        have HE := Aside0.mk he
        clear he
        go_wp2
        go_roundw
        case rel =>
          refine ⟨k + 1, by omega, by go_num, ?_, by trivial⟩
          rw [take_snoc' l k (by rw [HL.out]; exact hlt), HXX.out]
          simp only [List.mem_append, List.mem_singleton]
          rintro (h | h)
          · exact HNI.out h
          · exact HE.out h
        case measure => simp [intOf]; omega
    · have hkn : k = n := by omega
      subst hkn
      have HNI := Aside0.mk hni
      clear hni hlt hk
      go_wp2
      go_ret
      refine ⟨?_, rfl⟩
      unfold indexI
      rw [if_neg (by have := HNI.out; rwa [List.take_of_length_le (by rw [HL.out]; exact Nat.le_refl _)] at this)]
      rfl

theorem contains_calls (A : Option Addr) (n c : Nat) (l : List Int) (v : Int) (w : World) (hl : l.length = n) (hC : KI.C w A n l) (hn : n ≤ 1000000) :
    Calls Try.prog 104 #[.slice A n c, .int .i64 v] w fun e w' => e = .returned (.bool (decide (v ∈ l))) ∧ w' = w := by
  have HX := Aside0.mk (index_calls A n c l v w hl hC hn)
  clear hC hl
  unfold indexI at HX
  by_cases hv : v ∈ l
  · rw [if_pos hv] at HX
    rw [decide_eq_true hv]
    have h0 : decide ((0 : Int) ≤ (l.idxOf v : Int)) = true := decide_eq_true (by omega)
    clear hv
    obtain ⟨q, hq⟩ : ∃ q, l.idxOf v = q := ⟨_, rfl⟩
    rw [hq] at HX h0
    clear hq
    go_enter Try.func104, Try.ntmps104
    go_wp2_with fail
    refine HX.out.mono ?_
    rintro e w1 ⟨rfl, rfl⟩
    go_wp2
    go_ret
    exact ⟨rfl, rfl⟩
  · rw [if_neg hv] at HX
    rw [decide_eq_false hv]
    clear hv
    go_enter Try.func104, Try.ntmps104
    go_wp2_with fail
    refine HX.out.mono ?_
    rintro e w1 ⟨rfl, rfl⟩
    go_wp2
    go_ret
    exact ⟨rfl, rfl⟩
end Go.Proofs.Ytbddllklagiajaa

namespace Go.Proofs.Ytbddllklagiajaa
open PBlocksEncodes
open Go.RowKit Go.Proofs.YtbddllklagiajaaW.PrintWords Go.Proofs.YtbddllklagiajaaW.PrintLast Go.Proofs.YtbddllklagiajaaW.PrintMore
set_option linter.unusedVariables false
set_option linter.unusedSimpArgs false

theorem state_f (st : List Int) (first x : Int) (hf : 0 ≤ first) (hx : x ≤ 9223372036854775807) : replevinref12_State.f first st x = some (stateM first st x) := by
  by_cases h : inM first st.length x
  · have hs : stateM first st x = (st.getD (x - first).toNat 0, 0) := by unfold stateM; rw [if_pos h]
    have h1 := And.left h
    have h2 := And.right h
    rw [hs]
    obtain ⟨i, hi⟩ : ∃ i : Nat, x = first + i := ⟨(x - first).toNat, by omega⟩
    subst hi
    have e : wrap64 (first + (i : Int) - first) = (i : Int) := by rw [mg_wrap _ (by omega)]; omega
    unfold replevinref12_State.f replevinref12_has.f
    rw [if_pos (by omega), e, show (first + (i : Int) - first).toNat = i by omega]
    simp only [Option.bind_some]
    rw [if_pos (decide_eq_true (by omega)), if_pos (by omega), if_pos (by omega), mg_rd]
  · have hs : stateM first st x = (0, 2) := by unfold stateM; rw [if_neg h]
    rw [hs]
    unfold replevinref12_State.f replevinref12_has.f
    by_cases h1 : first ≤ x
    · have h2 : ¬ (x - first < (st.length : Int)) := fun hh => h ⟨h1, hh⟩
      have e : wrap64 (x - first) = x - first := mg_wrap _ (by omega)
      rw [if_pos (by omega), e]
      simp only [Option.bind_some]
      rw [decide_eq_false h2, if_neg (by simp)]
    · rw [if_neg (by omega)]
      simp only [Option.bind_some]
      rw [if_neg (by simp)]

theorem give_f (st : List Int) (first x : Int) (hf : 0 ≤ first ∧ first ≤ 1073741824) (hx : x ≤ 9223372036854775807) (hb : st.length ≤ 10000000) :
    replevinref12_Give.f first st x = some (first, (giveM first st x).1, (giveM first st x).2) := by
  unfold replevinref12_Give.f
  rw [state_f st first x hf.1 hx]
  unfold stateM giveM
  by_cases h : inM first st.length x
  · rw [if_pos h, if_pos h]
    have h1 := And.left h
    have h2 := And.right h
    obtain ⟨i, hi⟩ : ∃ i : Nat, x = first + i := ⟨(x - first).toNat, by omega⟩
    subst hi
    rw [show (first + (i : Int) - first).toNat = i by omega]
    simp only [Option.bind_some, if_true]
    by_cases e1 : st.getD i 0 = 1
    · rw [if_pos e1, if_pos e1, with_f st first 3 i (by omega) hb hf]
      rfl
    · rw [if_neg e1, if_neg e1]
      by_cases e2 : st.getD i 0 = 2
      · rw [if_pos e2, if_pos e2, with_f st first 0 i (by omega) hb hf]
        rfl
      · rw [if_neg e2, if_neg e2]
  · rw [if_neg h, if_neg h]
    simp

/-- The states after the first free block was taken, the block, the error. -/
def takeM (first : Int) (st : List Int) : List Int × Int × Int := if 0 ∈ st then (st.set (st.idxOf 0) 2, first + (st.idxOf 0 : Int), 0) else (st, 0, 26)

theorem take_l0 (st : List Int) (first : Int) (hf : 0 ≤ first ∧ first ≤ 1073741824) (hb : st.length ≤ 10000000) : ∀ (k i : Nat), i ≤ st.length → st.length - i < k → (0 : Int) ∉ st.take i →
    replevinref12_Take.l0 k (i : Int) first st = some (first, (takeM first st).1, (takeM first st).2.1, (takeM first st).2.2)
  | 0, i, _, h, _ => by omega
  | k + 1, i, hi, hk, hn => by
    unfold replevinref12_Take.l0
    by_cases h1 : i < st.length
    · rw [if_pos (by omega), if_pos (by omega), mg_rd, show wrap64 ((i : Int) + 1) = ((i + 1 : Nat) : Int) by rw [mg_wrap _ (by omega)]; rfl, show wrap64 (first + (i : Int)) = first + (i : Int) from mg_wrap _ (by omega)]
      by_cases h2 : st.getD i 0 = 0
      · obtain ⟨hm, he⟩ := idx_of_notin h1 hn h2
        rw [if_pos h2, with_f st first 2 i h1 hb hf]
        unfold takeM
        rw [if_pos hm, he]
        rfl
      · rw [if_neg h2]
        refine take_l0 st first hf hb k (i + 1) (by omega) (by omega) ?_
        rw [List.take_succ_eq_append_getElem h1, List.mem_append]
        rintro (h | h)
        · exact hn h
        · simp only [List.mem_singleton] at h
          exact h2 (by rw [h]; simp [h1])
    · rw [if_neg (by omega)]
      rw [List.take_of_length_le (by omega)] at hn
      unfold takeM
      rw [if_neg hn]
theorem take_f (st : List Int) (first : Int) (hf : 0 ≤ first ∧ first ≤ 1073741824) (hb : st.length ≤ 10000000) (k : Nat) (hk : st.length < k) :
    replevinref12_Take.f k first st = some (first, (takeM first st).1, (takeM first st).2.1, (takeM first st).2.2) := by
  unfold replevinref12_Take.f
  exact take_l0 st first hf hb k 0 (by omega) (by omega) (by simp)

/-! ### What stays -/
theorem st_getD {st : List Int} (h : ∀ s ∈ st, 0 ≤ s ∧ s ≤ 3) (i : Nat) : 0 ≤ st.getD i 0 ∧ st.getD i 0 ≤ 3 := by
  by_cases hi : i < st.length
  · refine h _ ?_
    rw [List.getD_eq_getElem?_getD, List.getElem?_eq_getElem hi]
    exact List.getElem_mem _
  · rw [List.getD_eq_getElem?_getD, List.getElem?_eq_none (by omega)]
    simp
theorem st_set {st : List Int} (h : ∀ s ∈ st, 0 ≤ s ∧ s ≤ 3) (i : Nat) (v : Int) (hv : 0 ≤ v ∧ v ≤ 3) : ∀ s ∈ st.set i v, 0 ≤ s ∧ s ≤ 3 := by
  intro s hs
  rcases List.mem_or_eq_of_mem_set hs with h1 | h1
  · exact h s h1
  · rw [h1]; exact hv
theorem WfM.set {first : Int} {st : List Int} (h : WfM first st) (i : Nat) (v : Int) (hv : 0 ≤ v ∧ v ≤ 3) : WfM first (st.set i v) :=
  ⟨h.1, h.2.1, by rw [List.length_set]; exact h.2.2.1, by rw [List.length_set]; exact h.2.2.2.1, st_set h.2.2.2.2 i v hv⟩
theorem WfM.take {first : Int} {st : List Int} (h : WfM first st) : WfM first (takeM first st).1 := by
  unfold takeM
  by_cases h0 : (0 : Int) ∈ st
  · rw [if_pos h0]; exact h.set _ _ (by omega)
  · rw [if_neg h0]; exact h
theorem WfM.give {first : Int} {st : List Int} (h : WfM first st) (x : Int) : WfM first (giveM first st x).1 := by
  unfold giveM
  by_cases h0 : inM first st.length x
  · rw [if_pos h0]
    by_cases h1 : st.getD (x - first).toNat 0 = 1
    · rw [if_pos h1]; exact h.set _ _ (by omega)
    · rw [if_neg h1]
      by_cases h2 : st.getD (x - first).toNat 0 = 2
      · rw [if_pos h2]; exact h.set _ _ (by omega)
      · rw [if_neg h2]; exact h
  · rw [if_neg h0]; exact h
theorem next_range {n0 n1 n2 n3 : Int} (h : (0 ≤ n0 ∧ n0 ≤ 3) ∧ (0 ≤ n1 ∧ n1 ≤ 3) ∧ (0 ≤ n2 ∧ n2 ≤ 3) ∧ (0 ≤ n3 ∧ n3 ≤ 3)) (s : Int) : 0 ≤ nextM n0 n1 n2 n3 s ∧ nextM n0 n1 n2 n3 s ≤ 3 := by
  unfold nextM
  split
  · exact h.1
  · split
    · exact h.2.1
    · split
      · exact h.2.2.1
      · exact h.2.2.2
theorem WfM.next {first : Int} {st : List Int} (h : WfM first st) {n0 n1 n2 n3 : Int} (hn : (0 ≤ n0 ∧ n0 ≤ 3) ∧ (0 ≤ n1 ∧ n1 ≤ 3) ∧ (0 ≤ n2 ∧ n2 ≤ 3) ∧ (0 ≤ n3 ∧ n3 ≤ 3)) : WfM first (st.map (nextM n0 n1 n2 n3)) := by
  refine ⟨h.1, h.2.1, by rw [List.length_map]; exact h.2.2.1, by rw [List.length_map]; exact h.2.2.2.1, ?_⟩
  intro s hs
  obtain ⟨x, _, rfl⟩ := List.mem_map.1 hs
  exact next_range hn x
theorem chg_next {st : List Int} (h : ∀ s ∈ st, 0 ≤ s ∧ s ≤ 3) (f g : Int) : st.map (chgM f g) = st.map (nextM 0 1 f g) := by
  refine List.map_congr_left fun s hs => ?_
  have := h s hs
  have h4 : s = 0 ∨ s = 1 ∨ s = 2 ∨ s = 3 := by omega
  rcases h4 with rfl | rfl | rfl | rfl <;> rfl

/-! ### Lists of blocks -/
theorem sel_list (first : Int) (st ss : List Int) : listM first st ss = ((List.finRange st.length).filter (fun i => decide (st.getD i.1 0 ∈ ss))).map (fun i => first + (i.1 : Int)) := by
  unfold listM
  have e : List.range st.length = (List.finRange st.length).map Fin.val := List.ext_getElem (by simp) (by intro i h1 h2; simp)
  rw [e, List.filter_map, List.map_map]
  rfl
theorem mem_listM {first : Int} {st ss : List Int} {x : Int} : x ∈ listM first st ss ↔ ∃ i : Nat, i < st.length ∧ x = first + i ∧ st.getD i 0 ∈ ss := by
  unfold listM
  simp only [List.mem_map, List.mem_filter, List.mem_range, decide_eq_true_eq]
  constructor
  · rintro ⟨i, ⟨h1, h2⟩, rfl⟩
    exact ⟨i, h1, rfl, h2⟩
  · rintro ⟨i, h1, rfl, h2⟩
    exact ⟨i, ⟨h1, h2⟩, rfl⟩
theorem filt_count (st : List Int) (p : Int → Bool) : ((List.range st.length).filter (fun i => p (st.getD i 0))).length = st.countP p := by
  induction st with
  | nil => simp
  | cons a l ih =>
    have e : ((fun i => p ((a :: l).getD i 0)) ∘ Nat.succ) = fun i => p (l.getD i 0) := by
      funext i
      simp
    rw [List.length_cons, List.range_succ_eq_map, List.filter_cons, List.filter_map, e, List.countP_cons, ← ih]
    simp only [List.getD_cons_zero]
    split <;> simp
theorem listM_length (first : Int) (st ss : List Int) : (listM first st ss).length = st.countP (fun s => decide (s ∈ ss)) := by
  unfold listM
  rw [List.length_map]
  exact filt_count st (fun s => decide (s ∈ ss))
theorem sel_num (st : List Int) (s : Int) : ((List.finRange st.length).filter (fun i => decide (st.getD i.1 0 ∈ [s]))).length = numM st s := by
  have h1 := listM_length 0 st [s]
  rw [sel_list, List.length_map] at h1
  rw [h1]
  unfold numM List.count
  congr 1
  funext x
  rw [Bool.eq_iff_iff]
  simp
theorem listM_congr {first : Int} {st st' ss ss' : List Int} (hl : st.length = st'.length) (h : ∀ i, i < st.length → (st.getD i 0 ∈ ss ↔ st'.getD i 0 ∈ ss')) : listM first st ss = listM first st' ss' := by
  unfold listM
  rw [← hl]
  congr 1
  refine List.filter_congr fun i hi => ?_
  rw [List.mem_range] at hi
  exact decide_eq_decide.2 (h i hi)
theorem getD_map0 (st : List Int) (f : Int → Int) (i : Nat) (hi : i < st.length) : (st.map f).getD i 0 = f (st.getD i 0) := by
  simp [hi]
theorem listM_next {first : Int} {st : List Int} (h : ∀ s ∈ st, 0 ≤ s ∧ s ≤ 3) (n0 n1 n2 n3 : Int) (ss ss' : List Int) (hd : ∀ s : Int, (s = 0 ∨ s = 1 ∨ s = 2 ∨ s = 3) → (nextM n0 n1 n2 n3 s ∈ ss ↔ s ∈ ss')) : listM first (st.map (nextM n0 n1 n2 n3)) ss = listM first st ss' := by
  refine listM_congr (by simp) fun i hi => ?_
  rw [List.length_map] at hi
  rw [getD_map0 st _ i hi]
  have := st_getD h i
  exact hd _ (by omega)
theorem numM_zero {st : List Int} {s : Int} (h : s ∉ st) : numM st s = 0 := List.count_eq_zero.2 h
theorem numM_next_zero {st : List Int} (n0 n1 n2 n3 s : Int) (h0 : s ≠ n0) (h1 : s ≠ n1) (h2 : s ≠ n2) (h3 : s ≠ n3) : numM (st.map (nextM n0 n1 n2 n3)) s = 0 := by
  refine numM_zero fun hm => ?_
  obtain ⟨x, _, e⟩ := List.mem_map.1 hm
  unfold nextM at e
  split at e
  · exact h0 e.symm
  · split at e
    · exact h1 e.symm
    · split at e
      · exact h2 e.symm
      · exact h3 e.symm
/-- A block that is taken was free. -/
theorem take_free {first : Int} {st : List Int} (h : (0 : Int) ∈ st) : st.idxOf 0 < st.length ∧ st.getD (st.idxOf 0) 0 = 0 := by
  have h1 := List.idxOf_lt_length_iff.2 h
  refine ⟨h1, ?_⟩
  rw [List.getD_eq_getElem?_getD, List.getElem?_eq_getElem h1]
  simp
theorem take_not_in {first : Int} {st ss : List Int} (h : (0 : Int) ∈ st) (hs : (0 : Int) ∉ ss) : first + (st.idxOf 0 : Int) ∉ listM first st ss := by
  intro hm
  obtain ⟨i, hi, e, hi2⟩ := mem_listM.1 hm
  have : i = st.idxOf 0 := by omega
  subst this
  rw [(take_free (first := first) h).2] at hi2
  exact hs hi2
theorem countP_set (p : Int → Bool) : ∀ (st : List Int) (i : Nat) (v : Int), i < st.length → p (st.getD i 0) = false → p v = true → (st.set i v).countP p = st.countP p + 1
  | [], i, v, h, _, _ => by simp at h
  | a :: l, 0, v, h, h0, h1 => by
    simp only [List.getD_cons_zero] at h0
    simp [List.countP_cons, h0, h1]
  | a :: l, i + 1, v, h, h0, h1 => by
    simp only [List.getD_cons_succ] at h0
    simp only [List.length_cons] at h
    rw [List.set_cons_succ, List.countP_cons, List.countP_cons, countP_set p l i v (by omega) h0 h1]
    omega
theorem take_used {first : Int} {st ss : List Int} (h : (0 : Int) ∈ st) (hs : (0 : Int) ∉ ss) (h2 : (2 : Int) ∈ ss) : (listM first (st.set (st.idxOf 0) 2) ss).length = (listM first st ss).length + 1 := by
  rw [listM_length, listM_length]
  obtain ⟨h3, h4⟩ := take_free (first := first) h
  exact countP_set _ st _ 2 h3 (by rw [h4]; exact decide_eq_false hs) (decide_eq_true h2)
end Go.Proofs.Ytbddllklagiajaa
