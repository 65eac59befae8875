/- The reference's Load; Load of a range that is refused. -/
import Derived.Test.YtbddllklagiajaaX14
import Derived.Test.YtbddllklagiajaaPBlocksNewx3
namespace Go.Proofs.Ytbddllklagiajaa
open Go.RowKit Go.Proofs.YtbddllklagiajaaW.PrintWords Go.Proofs.YtbddllklagiajaaW.PrintLast Go.Proofs.YtbddllklagiajaaW.PrintMore
set_option linter.unusedVariables false
set_option linter.unusedSimpArgs false

/-- What the reference's Load hands back. -/
def outS (first : Int) (r : List Int × Int) : Int × List Int × Int := if r.2 = 0 then (first, r.1, 0) else (0, [], r.2)

theorem newx_with (f : Int) (l : List Int) (x v : Int) : PBlocksNew.replevinref12_with.f f l x v = PBlocksEncodes.replevinref12_with.f f l x v := rfl
theorem newx_new (f c : Int) : PBlocksNew.replevinref12_New.f f c = PBlocksEncodes.replevinref12_New.f f c := rfl

theorem refLoad_l0 (first : Int) (us : List Int) (hf : 0 ≤ first ∧ first ≤ 1073741824) (hn : us.length ≤ 1000000) (hus : ∀ b ∈ us, b ≤ 9223372036854775807) : ∀ (k i : Nat) (st : List Int), st.length ≤ 65536 → i ≤ us.length → us.length - i < k →
    PBlocksNew.replevinref12_Load.l0 k first us (i : Int) first st = some (outS first (loadS first st (us.drop i)))
  | 0, i, _, _, _, h => by omega
  | k + 1, i, st, hs, hi, hk => by
    unfold PBlocksNew.replevinref12_Load.l0
    by_cases h1 : i < us.length
    · rw [if_pos (by omega), if_pos (by omega), mg_rd]
      obtain ⟨x, hx⟩ : ∃ x, us.getD i 0 = x := ⟨_, rfl⟩
      have hxm : x ≤ 9223372036854775807 := by
        refine hus x ?_
        rw [← hx, List.getD_eq_getElem?_getD, List.getElem?_eq_getElem h1]
        exact List.getElem_mem _
      have hdr : us.drop i = x :: us.drop (i + 1) := by
        rw [List.drop_eq_getElem_cons h1]
        congr 1
        rw [← hx]
        simp [h1]
      rw [hx, hdr]
      unfold PBlocksNew.replevinref12_has.f
      by_cases hin : inM first st.length x
      · have p1 := And.left hin
        have p2 := And.right hin
        obtain ⟨j, hj⟩ : ∃ j : Nat, x = first + j := ⟨(x - first).toNat, by omega⟩
        subst hj
        have e : wrap64 (first + (j : Int) - first) = (j : Int) := by rw [mg_wrap _ (by omega)]; omega
        have hjl : j < st.length := by omega
        rw [if_pos (by omega), e]
        simp only [Option.bind_some]
        rw [if_pos (decide_eq_true (by omega)), if_pos (by omega), if_pos (by omega), mg_rd, newx_with, with_f st first 1 j hjl (by omega) hf]
        simp only [Option.bind_some]
        rw [show wrap64 ((i : Int) + 1) = ((i + 1 : Nat) : Int) by rw [mg_wrap _ (by omega)]; rfl]
        unfold loadS
        rw [if_pos hin, show (first + (j : Int) - first).toNat = j by omega]
        by_cases h0 : st.getD j 0 = 0
        · rw [if_pos h0, if_pos h0]
          exact refLoad_l0 first us hf hn hus k (i + 1) _ (by rw [List.length_set]; exact hs) (by omega) (by omega)
        · rw [if_neg h0, if_neg h0]
          rfl
      · unfold loadS
        rw [if_neg hin]
        by_cases p1 : first ≤ x
        · have p2 : ¬ (x - first < (st.length : Int)) := fun hh => hin ⟨p1, hh⟩
          have e : wrap64 (x - first) = x - first := mg_wrap _ (by omega)
          rw [if_pos (by omega), e]
          simp only [Option.bind_some]
          rw [decide_eq_false p2, if_neg (by simp)]
          rfl
        · rw [if_neg (by omega)]
          simp only [Option.bind_some]
          rw [if_neg (by simp)]
          rfl
    · rw [if_neg (by omega), List.drop_of_length_le (by omega)]
      rfl

theorem refLoad_ok (first : Int) (n : Nat) (us : List Int) (h : okRange first n) (hn : us.length ≤ 1000000) (hus : ∀ b ∈ us, b ≤ 9223372036854775807) : PBlocksNew.replevinref12_Load.f (us.length + 1) first n us = some (outS first (loadS first (List.replicate n 0) us)) := by
  have h1 := h.1; have h2 := h.2.1; have h3 := h.2.2.1; have h4 := h.2.2.2
  unfold PBlocksNew.replevinref12_Load.f
  rw [newx_new, new_f first n ⟨h1, h2, by omega, by omega⟩]
  simp only [Option.bind_some, if_true]
  have := refLoad_l0 first us ⟨h1, h2⟩ hn hus (us.length + 1) 0 (List.replicate n 0) (by rw [List.length_replicate]; omega) (by omega) (by omega)
  simpa using this
theorem refLoad_bad (first count : Int) (us : List Int) (h : ¬ okRange first count) : PBlocksNew.replevinref12_Load.f (us.length + 1) first count us = some (0, [], 2) := by
  unfold PBlocksNew.replevinref12_Load.f
  rw [newx_new, new_f_bad first count (fun hh => h hh)]
  rfl

theorem load_bad (first count : Int) (v : Value) (w : World) (h : ¬ okRange first count) : Calls Try.prog 50 #[.int .i64 first, .int .i64 count, v] w fun e w' => e = .returned (.tuple #[.pointer none, .int .i64 2]) ∧ w' = w := by
  have HN := Aside0.mk (new_bad first count w h)
  clear h
  go_enter Try.func50, Try.ntmps50
  go_wp2_with fail
  refine HN.out.mono ?_
  rintro e w1 ⟨rfl, rfl⟩
  go_wp2
  go_ret2
  exact ⟨rfl, rfl⟩
end Go.Proofs.Ytbddllklagiajaa
