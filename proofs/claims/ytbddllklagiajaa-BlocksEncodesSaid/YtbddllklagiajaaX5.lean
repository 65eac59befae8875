/- (*Map).Number. (*Map).Take. slices.AppendSeq and slices.Collect at (*Map).in; (*Map).Used, (*Map).Old. (*Map).Encode. replevinlaw12.known. -/
import Derived.Test.YtbddllklagiajaaX3
namespace Go.Proofs.Ytbddllklagiajaa
open Go.RowKit Go.Shelf Go.Proofs.YtbddllklagiajaaW.PrintWords Go.Proofs.YtbddllklagiajaaW.PrintLast Go.Proofs.YtbddllklagiajaaW.PrintMore
set_option linter.unusedVariables false
set_option linter.unusedSimpArgs false
attribute [local go_sem] Oper.semAt_some

set_option maxRecDepth 100000 in
set_option maxHeartbeats 4000000 in
theorem number_calls (base g : Nat) (P : Nat → Prop) (first : Int) (st : List Int) (w : World) (h : Mp base w g P first st) (hw : WfM first st) (s : Int) :
    Calls Try.prog 46 #[.pointer (some ⟨g, 0, none⟩), .int .i64 s] w fun e w' => e = .returned (.int .i64 (numM st s : Int)) ∧ Below w.heap.size w w' := by
  have HM := Aside0.mk h
  have HW := Aside0.mk hw
  clear h hw
  refine (callsIn_wide (n := 3)).1 ?_
  refine callsIn_of_wp_marks Try.func46 rfl trivial ?_ rfl
  simp only [Try.ntmps46, List.size_toArray, List.length_cons, List.length_nil, Nat.reduceAdd, Nat.reduceSub, Array.replicate_succ, Array.replicate_zero, List.push_toArray, List.append_toArray, List.nil_append, List.cons_append]
  gi_wp2_with (refine ⟨trivial, ?_⟩; gi_at_call 87; refine (in_calls _ _ _ _ _ _).mono ?_; rintro e w' ⟨rfl, rfl⟩)
  have bN : Boxed ((((w.alloc (.cells #[.int .i64 0] 3)).alloc (.cells #[.int .i64 s] 3)).alloc (.cells #[.pointer (some ⟨g, 0, none⟩)] 60)).alloc (.cells #[.slice (some ⟨w.heap.size + 1, 0, none⟩) 1 1] 61)) w.heap.size 3 (.int .i64 0) := (((Boxed.new w 3 _).alloc _).alloc _).alloc _
  have bS : Boxed ((((w.alloc (.cells #[.int .i64 0] 3)).alloc (.cells #[.int .i64 s] 3)).alloc (.cells #[.pointer (some ⟨g, 0, none⟩)] 60)).alloc (.cells #[.slice (some ⟨w.heap.size + 1, 0, none⟩) 1 1] 61)) (w.heap.size + 1) 3 (.int .i64 s) := by
    have := Boxed.new (w.alloc (.cells #[.int .i64 0] 3)) 3 (.int .i64 s)
    rw [World.size_alloc] at this
    exact (this.alloc _).alloc _
  have bM : Boxed ((((w.alloc (.cells #[.int .i64 0] 3)).alloc (.cells #[.int .i64 s] 3)).alloc (.cells #[.pointer (some ⟨g, 0, none⟩)] 60)).alloc (.cells #[.slice (some ⟨w.heap.size + 1, 0, none⟩) 1 1] 61)) (w.heap.size + 1 + 1) 60 (.pointer (some ⟨g, 0, none⟩)) := by
    have := Boxed.new ((w.alloc (.cells #[.int .i64 0] 3)).alloc (.cells #[.int .i64 s] 3)) 60 (.pointer (some ⟨g, 0, none⟩))
    rw [World.size_alloc, World.size_alloc] at this
    exact this.alloc _
  have bL : Boxed ((((w.alloc (.cells #[.int .i64 0] 3)).alloc (.cells #[.int .i64 s] 3)).alloc (.cells #[.pointer (some ⟨g, 0, none⟩)] 60)).alloc (.cells #[.slice (some ⟨w.heap.size + 1, 0, none⟩) 1 1] 61)) (w.heap.size + 1 + 1 + 1) 61 (.slice (some ⟨w.heap.size + 1, 0, none⟩) 1 1) := by
    have := Boxed.new (((w.alloc (.cells #[.int .i64 0] 3)).alloc (.cells #[.int .i64 s] 3)).alloc (.cells #[.pointer (some ⟨g, 0, none⟩)] 60)) 61 (.slice (some ⟨w.heap.size + 1, 0, none⟩) 1 1)
    rw [World.size_alloc, World.size_alloc, World.size_alloc] at this
    exact this
  have hB0 : Below w.heap.size w ((((w.alloc (.cells #[.int .i64 0] 3)).alloc (.cells #[.int .i64 s] 3)).alloc (.cells #[.pointer (some ⟨g, 0, none⟩)] 60)).alloc (.cells #[.slice (some ⟨w.heap.size + 1, 0, none⟩) 1 1] 61)) :=
    below_alloc (below_alloc (below_alloc (below_alloc (Below.refl _ w) _) _) _) _
  have hs0 : ((((w.alloc (.cells #[.int .i64 0] 3)).alloc (.cells #[.int .i64 s] 3)).alloc (.cells #[.pointer (some ⟨g, 0, none⟩)] 60)).alloc (.cells #[.slice (some ⟨w.heap.size + 1, 0, none⟩) 1 1] 61)).heap.size = w.heap.size + 4 := by simp
  obtain ⟨w0, hw0⟩ : ∃ w0, ((((w.alloc (.cells #[.int .i64 0] 3)).alloc (.cells #[.int .i64 s] 3)).alloc (.cells #[.pointer (some ⟨g, 0, none⟩)] 60)).alloc (.cells #[.slice (some ⟨w.heap.size + 1, 0, none⟩) 1 1] 61)) = w0 := ⟨_, rfl⟩
  rw [hw0] at bN bS bM bL hB0 hs0 ⊢
  clear hw0
  have hT : ∀ k, (k < w.heap.size + 4 ∧ k ≠ w.heap.size) → k < w0.heap.size := fun k hk => by rw [hs0]; exact hk.1
  obtain ⟨A, c, hIn⟩ := inAt_of (T := fun k => k < w.heap.size + 4 ∧ k ≠ w.heap.size) (ss := [s]) HM.out (fun k hk => ⟨by omega, by omega⟩) (Frm.of_fresh hB0 _) bM bL bS rfl ⟨by omega, by omega⟩ ⟨by omega, by omega⟩ ⟨by omega, by omega⟩ (by simp)
  have hlen : st.length ≤ 65536 := HW.out.2.2.2.1
  have HST := Aside0.mk HW.out.2.2.2.2
  refine wpIn_rangeFunc_ownF rfl (by omega) (gf := 103) (lb := #[.pointer (some ⟨w.heap.size + 1 + 1, 0, none⟩), .pointer (some ⟨w.heap.size + 1 + 1 + 1, 0, none⟩)]) rfl trivial (enters_of Try.func103 (by kernel_rfl) rfl)
    (in_stops 2 (by omega) hIn hT hlen (by simp) ⟨HW.out.1, HW.out.2.1⟩ HST.out) KpT.trans (fun W l o o' hl _ _ _ => KpT.putObj hT W l o' hl) (Below.refl _ _) (fun _ => rfl)
    (fun pre W => Boxed W w.heap.size 3 (.int .i64 (pre.length : Int)) ∧ Below w.heap.size w W)
    (fun _ _ _ => False)
    (OwnFrom.and (boxed_ownFrom (by omega)) (ownFrom_below (Nat.le_refl _) (by omega)))
    (fun _ _ _ _ _ hs _ _ => hs)
    ⟨bN, hB0⟩
    (fun x => { tmps := #[.pointer (some ⟨g, 0, none⟩), .int .i64 s, undef, undef, .int .i64 0, .pointer (some ⟨w.heap.size, 0, none⟩), .pointer (some ⟨g, 0, none⟩), .int .i64 s, .slice (some ⟨w.heap.size + 1, 0, none⟩) 1 1,
      .func (.func 103) #[] #[.pointer (some ⟨w.heap.size + 1 + 1, 0, none⟩), .pointer (some ⟨w.heap.size + 1 + 1 + 1, 0, none⟩)], .int .i64 (first + (x.1 : Int)), undef, undef, undef], defers := [] }) ?assign ?body ?done ?stop
  case assign =>
    intro l x W K hK
    gi_wp2
    simpa using hK
  case body =>
    rintro l pre x W ⟨hb, hB⟩ hlt
    have hc := hb.cell
    have hf := hb.frozen
    have HB := Aside0.mk hb
    have HBB := Aside0.mk hB
    clear hb hB
    gi_wp2
    refine ⟨KeepsOthers.setCell _ _ _, (Frm.refl W _).setCell (p := ⟨w.heap.size, 0, none⟩) (.inl (fun hh => hh.2 rfl)) _, ?_, HBB.out.setCell (p := ⟨w.heap.size, 0, none⟩) (Nat.le_refl _) _⟩
    rw [List.length_append]
    exact HB.out.set _
  case done =>
    rintro D ys W hD rfl ⟨hb, hB⟩ hK
    have hc := hb.cell
    gi_wp2
    refine ⟨by simp, .inl ⟨_, _, rfl, run_takeDeferred hK, ?_⟩⟩
    exact ⟨_, results_tmp rfl _ _ _, by rw [← sel_num]; rfl, hB.trans (belowK_b (w := w) (Nat.le_refl _) W D _ _ (by omega) hK rfl rfl)⟩
  case stop =>
    rintro D c pre W _ _ h _
    exact h.elim
end Go.Proofs.Ytbddllklagiajaa

namespace Go.Proofs.Ytbddllklagiajaa
open Go.RowKit Go.Shelf Go.Proofs.YtbddllklagiajaaW.PrintWords Go.Proofs.YtbddllklagiajaaW.PrintLast Go.Proofs.YtbddllklagiajaaW.PrintMore
set_option linter.unusedVariables false
set_option linter.unusedSimpArgs false
attribute [local go_sem] Oper.semAt_some

theorem sel_pairwise (st ss : List Int) : (selM st ss st.length).Pairwise (fun a b => a.1 < b.1) := by
  unfold selM
  refine List.Pairwise.filter _ ?_
  have h1 : ((List.finRange st.length).map Fin.val).Pairwise (· < ·) := by
    have e : (List.finRange st.length).map Fin.val = List.range st.length := List.ext_getElem (by simp) (by intro i h1 h2; simp)
    rw [e]
    exact List.pairwise_lt_range
  exact List.pairwise_map.1 h1
theorem sel_mem {st ss : List Int} {i : Fin st.length} : i ∈ selM st ss st.length ↔ st.getD i.1 0 ∈ ss := by
  unfold selM
  rw [List.mem_filter, decide_eq_true_iff]
  exact ⟨fun h => h.2, fun h => ⟨List.mem_finRange _, h⟩⟩
/-- The first that comes is the first free block. -/
theorem sel_first {first : Int} {st : List Int} {x : Fin st.length} (h : [x] <+: selM st [0] st.length) : takeM first st = (st.set x.1 2, first + (x.1 : Int), 0) := by
  obtain ⟨rest, hr⟩ := h
  have hp := sel_pairwise st [0]
  rw [← hr] at hp
  have hx : st.getD x.1 0 = 0 := by
    have : x ∈ selM st [0] st.length := by rw [← hr]; simp
    simpa using sel_mem.1 this
  have hn : (0 : Int) ∉ st.take x.1 := by
    intro hm
    obtain ⟨j, hj, he⟩ := List.getElem_of_mem hm
    rw [List.length_take] at hj
    have hj2 : j < st.length := by omega
    have : (⟨j, hj2⟩ : Fin st.length) ∈ selM st [0] st.length := sel_mem.2 (by
      rw [List.getElem_take] at he
      simp [hj2, he])
    rw [← hr, List.singleton_append, List.mem_cons] at this
    rcases this with h1 | h1
    · have : j = x.1 := congrArg Fin.val h1
      omega
    · rw [List.singleton_append, List.pairwise_cons] at hp
      have := hp.1 _ h1
      simp only at this
      omega
  obtain ⟨hm, he⟩ := idx_of_notin x.2 hn hx
  unfold takeM
  rw [if_pos hm, he]
theorem sel_none {first : Int} {st : List Int} (h : selM st [0] st.length = []) : takeM first st = (st, 0, 26) := by
  unfold takeM
  rw [if_neg]
  intro hm
  obtain ⟨j, hj, he⟩ := List.getElem_of_mem hm
  have : (⟨j, hj⟩ : Fin st.length) ∈ selM st [0] st.length := sel_mem.2 (by simp [hj, he])
  rw [h] at this
  cases this

set_option maxHeartbeats 1000000 in
theorem take_nil (w : World) : Calls Try.prog 45 #[.pointer none] w fun e w' => e = .returned (.tuple #[.int .i64 0, .int .i64 1]) ∧ Below w.heap.size w w' := by
  go_enter Try.func45, Try.ntmps45
  go_wp2
  have b1 : Boxed (((w.alloc (.cells #[.pointer none] 60)).alloc (.cells #[.int .i64 0] 3)).alloc (.cells #[.int .i64 1] 23)) (w.heap.size + 1) 3 (.int .i64 0) := by
    have := Boxed.new (w.alloc (.cells #[.pointer none] 60)) 3 (.int .i64 0)
    rw [World.size_alloc] at this
    exact this.alloc _
  have b2 : Boxed (((w.alloc (.cells #[.pointer none] 60)).alloc (.cells #[.int .i64 0] 3)).alloc (.cells #[.int .i64 1] 23)) (w.heap.size + 1 + 1) 23 (.int .i64 1) := by
    have := Boxed.new ((w.alloc (.cells #[.pointer none] 60)).alloc (.cells #[.int .i64 0] 3)) 23 (.int .i64 1)
    rw [World.size_alloc, World.size_alloc] at this
    exact this
  have c1 := b1.cell
  have c2 := b2.cell
  refine bodyPost_ret (v := .tuple #[.int .i64 0, .int .i64 1]) (by simp [results, Try.f45, go_sem, c1, c2]) rfl ?_
  exact ⟨rfl, below_alloc (below_alloc (below_alloc (Below.refl _ w) _) _) _⟩

set_option maxRecDepth 100000 in
set_option maxHeartbeats 4000000 in
theorem take_calls (base g : Nat) (P : Nat → Prop) (first : Int) (st : List Int) (w : World) (h : Mp base w g P first st) (hw : WfM first st) :
    Calls Try.prog 45 #[.pointer (some ⟨g, 0, none⟩)] w fun e w' => e = .returned (.tuple #[.int .i64 (takeM first st).2.1, .int .i64 (takeM first st).2.2]) ∧ Mp base w' g P first (takeM first st).1 ∧ Frm w w' P := by
  have HM := Aside0.mk h.tight
  have HG := Aside0.mk h.lt
  have HW := Aside0.mk hw
  clear h hw
  refine (callsIn_wide (n := 3)).1 ?_
  refine callsIn_of_wp_marks Try.func45 rfl trivial ?_ rfl
  simp only [Try.ntmps45, List.size_toArray, List.length_cons, List.length_nil, Nat.reduceAdd, Nat.reduceSub, Array.replicate_succ, Array.replicate_zero, List.push_toArray, List.append_toArray, List.nil_append, List.cons_append]
  gi_wp2_with (refine ⟨trivial, ?_⟩; gi_at_call 87; refine (in_calls _ _ _ _ _ _).mono ?_; rintro e w' ⟨rfl, rfl⟩)
  have b0 : Boxed ((((((w.alloc (.cells #[.pointer (some ⟨g, 0, none⟩)] 60)).alloc (.cells #[.int .i64 0] 3)).alloc (.cells #[.int .i64 0] 23)).alloc (.cells #[.int .i64 0] 3)).alloc (.cells #[.pointer (some ⟨g, 0, none⟩)] 60)).alloc (.cells #[.slice (some ⟨w.heap.size + 1 + 1 + 1, 0, none⟩) 1 1] 61)) (w.heap.size) 60 (.pointer (some ⟨g, 0, none⟩)) := by
    have := Boxed.new w 60 (.pointer (some ⟨g, 0, none⟩))
    exact (((((this.alloc _).alloc _).alloc _).alloc _).alloc _)
  have b1 : Boxed ((((((w.alloc (.cells #[.pointer (some ⟨g, 0, none⟩)] 60)).alloc (.cells #[.int .i64 0] 3)).alloc (.cells #[.int .i64 0] 23)).alloc (.cells #[.int .i64 0] 3)).alloc (.cells #[.pointer (some ⟨g, 0, none⟩)] 60)).alloc (.cells #[.slice (some ⟨w.heap.size + 1 + 1 + 1, 0, none⟩) 1 1] 61)) (w.heap.size + 1) 3 (.int .i64 0) := by
    have := Boxed.new (w.alloc (.cells #[.pointer (some ⟨g, 0, none⟩)] 60)) 3 (.int .i64 0)
    rw [World.size_alloc] at this
    exact ((((this.alloc _).alloc _).alloc _).alloc _)
  have b2 : Boxed ((((((w.alloc (.cells #[.pointer (some ⟨g, 0, none⟩)] 60)).alloc (.cells #[.int .i64 0] 3)).alloc (.cells #[.int .i64 0] 23)).alloc (.cells #[.int .i64 0] 3)).alloc (.cells #[.pointer (some ⟨g, 0, none⟩)] 60)).alloc (.cells #[.slice (some ⟨w.heap.size + 1 + 1 + 1, 0, none⟩) 1 1] 61)) (w.heap.size + 1 + 1) 23 (.int .i64 0) := by
    have := Boxed.new ((w.alloc (.cells #[.pointer (some ⟨g, 0, none⟩)] 60)).alloc (.cells #[.int .i64 0] 3)) 23 (.int .i64 0)
    rw [World.size_alloc, World.size_alloc] at this
    exact (((this.alloc _).alloc _).alloc _)
  have b3 : Boxed ((((((w.alloc (.cells #[.pointer (some ⟨g, 0, none⟩)] 60)).alloc (.cells #[.int .i64 0] 3)).alloc (.cells #[.int .i64 0] 23)).alloc (.cells #[.int .i64 0] 3)).alloc (.cells #[.pointer (some ⟨g, 0, none⟩)] 60)).alloc (.cells #[.slice (some ⟨w.heap.size + 1 + 1 + 1, 0, none⟩) 1 1] 61)) (w.heap.size + 1 + 1 + 1) 3 (.int .i64 0) := by
    have := Boxed.new (((w.alloc (.cells #[.pointer (some ⟨g, 0, none⟩)] 60)).alloc (.cells #[.int .i64 0] 3)).alloc (.cells #[.int .i64 0] 23)) 3 (.int .i64 0)
    rw [World.size_alloc, World.size_alloc, World.size_alloc] at this
    exact ((this.alloc _).alloc _)
  have b4 : Boxed ((((((w.alloc (.cells #[.pointer (some ⟨g, 0, none⟩)] 60)).alloc (.cells #[.int .i64 0] 3)).alloc (.cells #[.int .i64 0] 23)).alloc (.cells #[.int .i64 0] 3)).alloc (.cells #[.pointer (some ⟨g, 0, none⟩)] 60)).alloc (.cells #[.slice (some ⟨w.heap.size + 1 + 1 + 1, 0, none⟩) 1 1] 61)) (w.heap.size + 1 + 1 + 1 + 1) 60 (.pointer (some ⟨g, 0, none⟩)) := by
    have := Boxed.new ((((w.alloc (.cells #[.pointer (some ⟨g, 0, none⟩)] 60)).alloc (.cells #[.int .i64 0] 3)).alloc (.cells #[.int .i64 0] 23)).alloc (.cells #[.int .i64 0] 3)) 60 (.pointer (some ⟨g, 0, none⟩))
    rw [World.size_alloc, World.size_alloc, World.size_alloc, World.size_alloc] at this
    exact (this.alloc _)
  have b5 : Boxed ((((((w.alloc (.cells #[.pointer (some ⟨g, 0, none⟩)] 60)).alloc (.cells #[.int .i64 0] 3)).alloc (.cells #[.int .i64 0] 23)).alloc (.cells #[.int .i64 0] 3)).alloc (.cells #[.pointer (some ⟨g, 0, none⟩)] 60)).alloc (.cells #[.slice (some ⟨w.heap.size + 1 + 1 + 1, 0, none⟩) 1 1] 61)) (w.heap.size + 1 + 1 + 1 + 1 + 1) 61 (.slice (some ⟨w.heap.size + 1 + 1 + 1, 0, none⟩) 1 1) := by
    have := Boxed.new (((((w.alloc (.cells #[.pointer (some ⟨g, 0, none⟩)] 60)).alloc (.cells #[.int .i64 0] 3)).alloc (.cells #[.int .i64 0] 23)).alloc (.cells #[.int .i64 0] 3)).alloc (.cells #[.pointer (some ⟨g, 0, none⟩)] 60)) 61 (.slice (some ⟨w.heap.size + 1 + 1 + 1, 0, none⟩) 1 1)
    rw [World.size_alloc, World.size_alloc, World.size_alloc, World.size_alloc, World.size_alloc] at this
    exact this
  have hB0 : Below w.heap.size w ((((((w.alloc (.cells #[.pointer (some ⟨g, 0, none⟩)] 60)).alloc (.cells #[.int .i64 0] 3)).alloc (.cells #[.int .i64 0] 23)).alloc (.cells #[.int .i64 0] 3)).alloc (.cells #[.pointer (some ⟨g, 0, none⟩)] 60)).alloc (.cells #[.slice (some ⟨w.heap.size + 1 + 1 + 1, 0, none⟩) 1 1] 61)) := (below_alloc (below_alloc (below_alloc (below_alloc (below_alloc (below_alloc (Below.refl _ w) _) _) _) _) _) _)
  have hs0 : ((((((w.alloc (.cells #[.pointer (some ⟨g, 0, none⟩)] 60)).alloc (.cells #[.int .i64 0] 3)).alloc (.cells #[.int .i64 0] 23)).alloc (.cells #[.int .i64 0] 3)).alloc (.cells #[.pointer (some ⟨g, 0, none⟩)] 60)).alloc (.cells #[.slice (some ⟨w.heap.size + 1 + 1 + 1, 0, none⟩) 1 1] 61)).heap.size = w.heap.size + 6 := by simp
  obtain ⟨w0, hw0⟩ : ∃ w0, ((((((w.alloc (.cells #[.pointer (some ⟨g, 0, none⟩)] 60)).alloc (.cells #[.int .i64 0] 3)).alloc (.cells #[.int .i64 0] 23)).alloc (.cells #[.int .i64 0] 3)).alloc (.cells #[.pointer (some ⟨g, 0, none⟩)] 60)).alloc (.cells #[.slice (some ⟨w.heap.size + 1 + 1 + 1, 0, none⟩) 1 1] 61)) = w0 := ⟨_, rfl⟩
  rw [hw0] at b0 b1 b2 b3 b4 b5 hB0 hs0 ⊢
  clear hw0
  have hT : ∀ k, (k < w.heap.size + 6) → k < w0.heap.size := fun k hk => by rw [hs0]; exact hk
  obtain ⟨A, c, hIn⟩ := inAt_of (T := fun k => k < w.heap.size + 6) (ss := [0]) HM.out (fun k hk => by omega) (Frm.of_fresh hB0 _) b4 b5 b3 rfl (by omega) (by omega) (by omega) (by simp)
  have hlen : st.length ≤ 65536 := HW.out.2.2.2.1
  have hf1 : 0 ≤ first ∧ first ≤ 1073741824 := ⟨HW.out.1, HW.out.2.1⟩
  have HST := Aside0.mk HW.out.2.2.2.2
  have HM0 := Aside0.mk (HM.out.fresh hB0)
  refine wpIn_rangeFunc_ownF rfl (by omega) (gf := 103) (lb := #[.pointer (some ⟨w.heap.size + 1 + 1 + 1 + 1, 0, none⟩), .pointer (some ⟨w.heap.size + 1 + 1 + 1 + 1 + 1, 0, none⟩)]) rfl trivial (enters_of Try.func103 (by kernel_rfl) rfl)
    (in_stops 2 (by omega) hIn hT hlen (by simp) hf1 HST.out) KpT.trans (fun W l o o' hl _ _ _ => KpT.putObj hT W l o' hl) (Below.refl _ _) (fun _ => rfl)
    (fun pre W => pre = [] ∧ Boxed W w.heap.size 60 (.pointer (some ⟨g, 0, none⟩)) ∧ Boxed W (w.heap.size + 1) 3 (.int .i64 0) ∧ Boxed W (w.heap.size + 1 + 1) 23 (.int .i64 0) ∧ Mp base W g (fun k => P k ∧ k ≠ g ∧ base ≤ k ∧ k < w.heap.size) first st ∧ Frm w W P)
    (fun c pre W => c = .ret ∧ ∃ x, pre = [x] ∧ Boxed W (w.heap.size + 1) 3 (.int .i64 (first + (x.1 : Int))) ∧ Boxed W (w.heap.size + 1 + 1) 23 (.int .i64 0) ∧ Mp base W g (fun k => P k ∧ k ≠ g ∧ base ≤ k ∧ k < w.heap.size) first (st.set x.1 2) ∧ Frm w W P)
    ?hI ?hIx ⟨rfl, b0, b1, b2, HM0.out, Frm.of_fresh hB0 _⟩
    (fun x => { tmps := #[.pointer (some ⟨g, 0, none⟩), .pointer (some ⟨w.heap.size, 0, none⟩), .pointer (some ⟨w.heap.size + 1, 0, none⟩), .pointer (some ⟨w.heap.size + 1 + 1, 0, none⟩), .int .i64 (first + (x.1 : Int)), .pointer (some ⟨g, 0, none⟩), .bool false, .pointer (some ⟨g, 0, none⟩), .slice (some ⟨w.heap.size + 1 + 1 + 1, 0, none⟩) 1 1,
      .func (.func 103) #[] #[.pointer (some ⟨w.heap.size + 1 + 1 + 1 + 1, 0, none⟩), .pointer (some ⟨w.heap.size + 1 + 1 + 1 + 1 + 1, 0, none⟩)], .int .i64 (first + (x.1 : Int)), undef, undef, undef, undef, undef, undef, undef, undef, undef, undef, undef, undef], defers := [] }) ?assign ?body ?done ?stop
  case hI =>
    rintro s A B row ⟨e, h1, h2, h3, h4, h5⟩ hg hr
    exact ⟨e, boxed_ownFrom (B := w0.heap.size) (v := fun _ => _) (by omega) () A B row h1 hg hr, boxed_ownFrom (B := w0.heap.size) (v := fun _ => _) (by omega) () A B row h2 hg hr, boxed_ownFrom (B := w0.heap.size) (v := fun _ => _) (by omega) () A B row h3 hg hr,
      mp_ownFrom (B := w0.heap.size) (st := fun _ => _) (by have := HG.out; omega) (fun k hk => by have := hk.2.2.2; omega) () A B row h4 hg hr, frm_ownFrom (B := w0.heap.size) (by omega) () A B row h5 hg hr⟩
  case hIx =>
    rintro c' s A B row ⟨e, x, e2, h2, h3, h4, h5⟩ hg hr
    exact ⟨e, x, e2, boxed_ownFrom (B := w0.heap.size) (v := fun _ => _) (by omega) () A B row h2 hg hr, boxed_ownFrom (B := w0.heap.size) (v := fun _ => _) (by omega) () A B row h3 hg hr,
      mp_ownFrom (B := w0.heap.size) (st := fun _ => _) (by have := HG.out; omega) (fun k hk => by have := hk.2.2.2; omega) () A B row h4 hg hr, frm_ownFrom (B := w0.heap.size) (by omega) () A B row h5 hg hr⟩
  case assign =>
    intro l x W K hK
    gi_wp2
    exact hK
  case body =>
    rintro l pre x W ⟨rfl, q0, q1, q2, hMp, hF⟩ hlt
    clear b0 b1 b2 b3 b4 b5 hB0
    obtain ⟨A', n', c', hb, hbg, hr⟩ := hMp
    have hx := x.2
    have hl := (Kd.R_reads' hr).1
    obtain ⟨b, rfl, hbb, hPb, hbl, hc, hfz⟩ := own_at hr x.1 (by omega)
    have hw1 : IntKind.i64.wrap (first + (x.1 : Int) - first) = (x.1 : Int) := by rw [IntKind.wrap_i64]; omega
    have c0 := q0.cell
    have c1 := q1.cell
    have f1 := q1.frozen
    have c2 := q2.cell
    have f2 := q2.frozen
    have g0 := blk_cell hb 0
    have g1 := blk_cell hb 1
    have hne : g ≠ b := fun e => hPb.2.1 e.symm
    have e1 : w.heap.size + 1 ≠ b := by have := hPb.2.2.2; omega
    have e2 : w.heap.size + 1 + 1 ≠ b := by have := hPb.2.2.2; omega
    have hMp1 : Mp base (W.drew.setCell ⟨b, x.1, none⟩ (.int .u8 2)) g (fun k => P k ∧ k ≠ g ∧ base ≤ k ∧ k < w.heap.size) first (st.set x.1 2) :=
      ⟨_, n', c', blk_far (blk_drew hb) hne _, hbg, Kd.R_putn (Kd.R_drew hr) (x.1 : Int) 2⟩
    have HFIN : Aside0 (KeepsOthers W (((W.drew.setCell ⟨b, x.1, none⟩ (.int .u8 2)).setCell ⟨w.heap.size + 1, 0, none⟩ (.int .i64 (first + (x.1 : Int)))).setCell ⟨w.heap.size + 1 + 1, 0, none⟩ (.int .i64 0)) ∧
        ((Code.ret = Code.ret) ∧ ∃ x', [] ++ [x] = [x'] ∧ Boxed (((W.drew.setCell ⟨b, x.1, none⟩ (.int .u8 2)).setCell ⟨w.heap.size + 1, 0, none⟩ (.int .i64 (first + (x.1 : Int)))).setCell ⟨w.heap.size + 1 + 1, 0, none⟩ (.int .i64 0)) (w.heap.size + 1) 3 (.int .i64 (first + (x'.1 : Int))) ∧
          Boxed (((W.drew.setCell ⟨b, x.1, none⟩ (.int .u8 2)).setCell ⟨w.heap.size + 1, 0, none⟩ (.int .i64 (first + (x.1 : Int)))).setCell ⟨w.heap.size + 1 + 1, 0, none⟩ (.int .i64 0)) (w.heap.size + 1 + 1) 23 (.int .i64 0) ∧
          Mp base (((W.drew.setCell ⟨b, x.1, none⟩ (.int .u8 2)).setCell ⟨w.heap.size + 1, 0, none⟩ (.int .i64 (first + (x.1 : Int)))).setCell ⟨w.heap.size + 1 + 1, 0, none⟩ (.int .i64 0)) g (fun k => P k ∧ k ≠ g ∧ base ≤ k ∧ k < w.heap.size) first (st.set x'.1 2) ∧
          Frm w (((W.drew.setCell ⟨b, x.1, none⟩ (.int .u8 2)).setCell ⟨w.heap.size + 1, 0, none⟩ (.int .i64 (first + (x.1 : Int)))).setCell ⟨w.heap.size + 1 + 1, 0, none⟩ (.int .i64 0)) P)) := by
      refine ⟨(((KeepsOthers.drew W).trans (KeepsOthers.setCell _ _ _)).trans (KeepsOthers.setCell _ _ _)).trans (KeepsOthers.setCell _ _ _), rfl, x, rfl, ?_, ?_, ?_, ?_⟩
      · exact blk_far (Boxed.set _ (blk_far (blk_drew q1) e1 _)) (by simp) _
      · exact Boxed.set _ (blk_far (blk_far (blk_drew q2) e2 _) (by simp) _)
      · refine Mp.frm (S := fun k => k = w.heap.size + 1 ∨ k = w.heap.size + 1 + 1) hMp1 (((Frm.refl _ _).setCell (.inl (.inl rfl)) _).setCell (.inl (.inr rfl)) _) ?_ ?_
        · have := HG.out; omega
        · intro k hk; have := hk.2.2.2; omega
      · exact ((hF.drew.setCell (.inl hPb.1) _).setCell (.inr (by simp)) _).setCell (.inr (by simp; omega)) _
    clear hMp1 hb hr hF q0 q1 q2 hbb hPb hbl hIn HM HM0 HST
    gi_wp2_with fail
    refine region_round (by kernel_rfl) rfl (by kernel_rfl) ?_
    refine wpAnyIn_take (i := 4) (v := .int .i64 (first + (x.1 : Int))) rfl rfl (by kernel_rfl) (by kernel_rfl) (by kernel_rfl) (fun _ _ _ h => h) ⟨Or.inl ⟨by kernel_rfl, ?_⟩, fun _ => rfl⟩ ?_
    · intro w; go_simp; try with_reducible rfl
    refine wpAnyIn_ready (rs := [0, 5]) (by kernel_rfl) (by simp) ?_
    refine AllReadyIn.cons rfl (fun K hK => ?_) ?_
    · go_simp
      refine hK _ _ ?_; clear hK K
      refine wpAnyIn_take (i := 1) (v := .pointer (some ⟨g, 0, none⟩)) rfl rfl (by kernel_rfl) (by kernel_rfl) (by kernel_rfl) (fun _ _ _ h => h) ⟨Or.inl ⟨by kernel_rfl, ?_⟩, fun _ => rfl⟩ ?_
      · intro w; go_simp; try with_reducible rfl
      refine wpAnyIn_take (i := 2) (v := .pointer (some ⟨g, 1, none⟩)) rfl rfl (by kernel_rfl) (by kernel_rfl) (by kernel_rfl) (fun _ _ _ h => h) ⟨Or.inl ⟨by kernel_rfl, ?_⟩, fun _ => rfl⟩ ?_
      · intro w; go_simp; try with_reducible rfl
      refine wpAnyIn_ready (rs := [3, 5]) (by kernel_rfl) (by simp) ?_
      refine AllReadyIn.cons rfl (fun K hK => ?_) ?_
      · go_simp
        refine hK _ _ ?_; clear hK K
        refine wpAnyIn_ready (rs := [5]) (by kernel_rfl) (by simp) ?_
        refine AllReadyIn.cons rfl (fun K hK => ?_) ?_
        · go_simp
          refine hK _ _ ?_; clear hK K
          refine wpAnyIn_take (i := 6) (v := .pointer (some ⟨g, 0, none⟩)) rfl rfl (by kernel_rfl) (by kernel_rfl) (by kernel_rfl) (fun _ _ _ h => h) ⟨Or.inl ⟨by kernel_rfl, ?_⟩, fun _ => rfl⟩ ?_
          · intro w; go_simp; try with_reducible rfl
          refine wpAnyIn_take (i := 7) (v := .pointer (some ⟨g, 0, none⟩)) rfl rfl (by kernel_rfl) (by kernel_rfl) (by kernel_rfl) (fun _ _ _ h => h) ⟨Or.inl ⟨by kernel_rfl, ?_⟩, fun _ => rfl⟩ ?_
          · intro w; go_simp; try with_reducible rfl
          refine wpAnyIn_ready (rs := [8]) (by kernel_rfl) (by simp) ?_
          refine AllReadyIn.cons rfl (fun K hK => ?_) ?_
          · go_simp
            refine hK _ _ ?_; clear hK K
            refine wpAnyIn_take (i := 9) (v := .int .i64 (x.1 : Int)) rfl rfl (by kernel_rfl) (by kernel_rfl) (by kernel_rfl) (fun _ _ _ h => h) ⟨Or.inl ⟨by kernel_rfl, ?_⟩, fun _ => rfl⟩ ?_
            · intro w; go_simp; try with_reducible rfl
            refine wpAnyIn_take (i := 10) (v := .pointer (some ⟨b, x.1, none⟩)) rfl rfl (by kernel_rfl) (by kernel_rfl) (by kernel_rfl) (fun _ _ _ h => h) ⟨Or.inl ⟨by kernel_rfl, ?_⟩, fun _ => rfl⟩ ?_
            · intro w; go_simp; try with_reducible rfl
            refine wpAnyIn_ready (rs := [11]) (by kernel_rfl) (by simp) ?_
            refine AllReadyIn.cons rfl (fun K hK => ?_) ?_
            · go_simp
              refine hK _ _ ?_; clear hK K
              refine wpAnyIn_done (by kernel_rfl) ?_ _
              go_simp
              gi_wp2
              exact ⟨HFIN.out.1, rfl, HFIN.out.2.2⟩
            exact AllReadyIn.nil
          exact AllReadyIn.nil
        exact AllReadyIn.nil
      refine AllReadyIn.cons rfl (fun K hK => ?_) ?_
      · go_simp
        refine hK _ _ ?_; clear hK K
        refine wpAnyIn_take (i := 6) (v := .pointer (some ⟨g, 0, none⟩)) rfl rfl (by kernel_rfl) (by kernel_rfl) (by kernel_rfl) (fun _ _ _ h => h) ⟨Or.inl ⟨by kernel_rfl, ?_⟩, fun _ => rfl⟩ ?_
        · intro w; go_simp; try with_reducible rfl
        refine wpAnyIn_take (i := 7) (v := .pointer (some ⟨g, 0, none⟩)) rfl rfl (by kernel_rfl) (by kernel_rfl) (by kernel_rfl) (fun _ _ _ h => h) ⟨Or.inl ⟨by kernel_rfl, ?_⟩, fun _ => rfl⟩ ?_
        · intro w; go_simp; try with_reducible rfl
        refine wpAnyIn_ready (rs := [3, 8]) (by kernel_rfl) (by simp) ?_
        refine AllReadyIn.cons rfl (fun K hK => ?_) ?_
        · go_simp
          refine hK _ _ ?_; clear hK K
          refine wpAnyIn_ready (rs := [8]) (by kernel_rfl) (by simp) ?_
          refine AllReadyIn.cons rfl (fun K hK => ?_) ?_
          · go_simp
            refine hK _ _ ?_; clear hK K
            refine wpAnyIn_take (i := 9) (v := .int .i64 (x.1 : Int)) rfl rfl (by kernel_rfl) (by kernel_rfl) (by kernel_rfl) (fun _ _ _ h => h) ⟨Or.inl ⟨by kernel_rfl, ?_⟩, fun _ => rfl⟩ ?_
            · intro w; go_simp; try with_reducible rfl
            refine wpAnyIn_take (i := 10) (v := .pointer (some ⟨b, x.1, none⟩)) rfl rfl (by kernel_rfl) (by kernel_rfl) (by kernel_rfl) (fun _ _ _ h => h) ⟨Or.inl ⟨by kernel_rfl, ?_⟩, fun _ => rfl⟩ ?_
            · intro w; go_simp; try with_reducible rfl
            refine wpAnyIn_ready (rs := [11]) (by kernel_rfl) (by simp) ?_
            refine AllReadyIn.cons rfl (fun K hK => ?_) ?_
            · go_simp
              refine hK _ _ ?_; clear hK K
              refine wpAnyIn_done (by kernel_rfl) ?_ _
              go_simp
              gi_wp2
              exact ⟨HFIN.out.1, rfl, HFIN.out.2.2⟩
            exact AllReadyIn.nil
          exact AllReadyIn.nil
        refine AllReadyIn.cons rfl (fun K hK => ?_) ?_
        · go_simp
          refine hK _ _ ?_; clear hK K
          refine wpAnyIn_take (i := 9) (v := .int .i64 (x.1 : Int)) rfl rfl (by kernel_rfl) (by kernel_rfl) (by kernel_rfl) (fun _ _ _ h => h) ⟨Or.inl ⟨by kernel_rfl, ?_⟩, fun _ => rfl⟩ ?_
          · intro w; go_simp; try with_reducible rfl
          refine wpAnyIn_ready (rs := [3]) (by kernel_rfl) (by simp) ?_
          refine AllReadyIn.cons rfl (fun K hK => ?_) ?_
          · go_simp
            refine hK _ _ ?_; clear hK K
            refine wpAnyIn_take (i := 10) (v := .pointer (some ⟨b, x.1, none⟩)) rfl rfl (by kernel_rfl) (by kernel_rfl) (by kernel_rfl) (fun _ _ _ h => h) ⟨Or.inl ⟨by kernel_rfl, ?_⟩, fun _ => rfl⟩ ?_
            · intro w; go_simp; try with_reducible rfl
            refine wpAnyIn_ready (rs := [11]) (by kernel_rfl) (by simp) ?_
            refine AllReadyIn.cons rfl (fun K hK => ?_) ?_
            · go_simp
              refine hK _ _ ?_; clear hK K
              refine wpAnyIn_done (by kernel_rfl) ?_ _
              go_simp
              gi_wp2
              exact ⟨HFIN.out.1, rfl, HFIN.out.2.2⟩
            exact AllReadyIn.nil
          exact AllReadyIn.nil
        exact AllReadyIn.nil
      exact AllReadyIn.nil
    refine AllReadyIn.cons rfl (fun K hK => ?_) ?_
    · go_simp
      refine hK _ _ ?_; clear hK K
      refine wpAnyIn_take (i := 6) (v := .pointer (some ⟨g, 0, none⟩)) rfl rfl (by kernel_rfl) (by kernel_rfl) (by kernel_rfl) (fun _ _ _ h => h) ⟨Or.inl ⟨by kernel_rfl, ?_⟩, fun _ => rfl⟩ ?_
      · intro w; go_simp; try with_reducible rfl
      refine wpAnyIn_take (i := 7) (v := .pointer (some ⟨g, 0, none⟩)) rfl rfl (by kernel_rfl) (by kernel_rfl) (by kernel_rfl) (fun _ _ _ h => h) ⟨Or.inl ⟨by kernel_rfl, ?_⟩, fun _ => rfl⟩ ?_
      · intro w; go_simp; try with_reducible rfl
      refine wpAnyIn_ready (rs := [0, 8]) (by kernel_rfl) (by simp) ?_
      refine AllReadyIn.cons rfl (fun K hK => ?_) ?_
      · go_simp
        refine hK _ _ ?_; clear hK K
        refine wpAnyIn_take (i := 1) (v := .pointer (some ⟨g, 0, none⟩)) rfl rfl (by kernel_rfl) (by kernel_rfl) (by kernel_rfl) (fun _ _ _ h => h) ⟨Or.inl ⟨by kernel_rfl, ?_⟩, fun _ => rfl⟩ ?_
        · intro w; go_simp; try with_reducible rfl
        refine wpAnyIn_take (i := 2) (v := .pointer (some ⟨g, 1, none⟩)) rfl rfl (by kernel_rfl) (by kernel_rfl) (by kernel_rfl) (fun _ _ _ h => h) ⟨Or.inl ⟨by kernel_rfl, ?_⟩, fun _ => rfl⟩ ?_
        · intro w; go_simp; try with_reducible rfl
        refine wpAnyIn_ready (rs := [3, 8]) (by kernel_rfl) (by simp) ?_
        refine AllReadyIn.cons rfl (fun K hK => ?_) ?_
        · go_simp
          refine hK _ _ ?_; clear hK K
          refine wpAnyIn_ready (rs := [8]) (by kernel_rfl) (by simp) ?_
          refine AllReadyIn.cons rfl (fun K hK => ?_) ?_
          · go_simp
            refine hK _ _ ?_; clear hK K
            refine wpAnyIn_take (i := 9) (v := .int .i64 (x.1 : Int)) rfl rfl (by kernel_rfl) (by kernel_rfl) (by kernel_rfl) (fun _ _ _ h => h) ⟨Or.inl ⟨by kernel_rfl, ?_⟩, fun _ => rfl⟩ ?_
            · intro w; go_simp; try with_reducible rfl
            refine wpAnyIn_take (i := 10) (v := .pointer (some ⟨b, x.1, none⟩)) rfl rfl (by kernel_rfl) (by kernel_rfl) (by kernel_rfl) (fun _ _ _ h => h) ⟨Or.inl ⟨by kernel_rfl, ?_⟩, fun _ => rfl⟩ ?_
            · intro w; go_simp; try with_reducible rfl
            refine wpAnyIn_ready (rs := [11]) (by kernel_rfl) (by simp) ?_
            refine AllReadyIn.cons rfl (fun K hK => ?_) ?_
            · go_simp
              refine hK _ _ ?_; clear hK K
              refine wpAnyIn_done (by kernel_rfl) ?_ _
              go_simp
              gi_wp2
              exact ⟨HFIN.out.1, rfl, HFIN.out.2.2⟩
            exact AllReadyIn.nil
          exact AllReadyIn.nil
        refine AllReadyIn.cons rfl (fun K hK => ?_) ?_
        · go_simp
          refine hK _ _ ?_; clear hK K
          refine wpAnyIn_take (i := 9) (v := .int .i64 (x.1 : Int)) rfl rfl (by kernel_rfl) (by kernel_rfl) (by kernel_rfl) (fun _ _ _ h => h) ⟨Or.inl ⟨by kernel_rfl, ?_⟩, fun _ => rfl⟩ ?_
          · intro w; go_simp; try with_reducible rfl
          refine wpAnyIn_ready (rs := [3]) (by kernel_rfl) (by simp) ?_
          refine AllReadyIn.cons rfl (fun K hK => ?_) ?_
          · go_simp
            refine hK _ _ ?_; clear hK K
            refine wpAnyIn_take (i := 10) (v := .pointer (some ⟨b, x.1, none⟩)) rfl rfl (by kernel_rfl) (by kernel_rfl) (by kernel_rfl) (fun _ _ _ h => h) ⟨Or.inl ⟨by kernel_rfl, ?_⟩, fun _ => rfl⟩ ?_
            · intro w; go_simp; try with_reducible rfl
            refine wpAnyIn_ready (rs := [11]) (by kernel_rfl) (by simp) ?_
            refine AllReadyIn.cons rfl (fun K hK => ?_) ?_
            · go_simp
              refine hK _ _ ?_; clear hK K
              refine wpAnyIn_done (by kernel_rfl) ?_ _
              go_simp
              gi_wp2
              exact ⟨HFIN.out.1, rfl, HFIN.out.2.2⟩
            exact AllReadyIn.nil
          exact AllReadyIn.nil
        exact AllReadyIn.nil
      refine AllReadyIn.cons rfl (fun K hK => ?_) ?_
      · go_simp
        refine hK _ _ ?_; clear hK K
        refine wpAnyIn_take (i := 9) (v := .int .i64 (x.1 : Int)) rfl rfl (by kernel_rfl) (by kernel_rfl) (by kernel_rfl) (fun _ _ _ h => h) ⟨Or.inl ⟨by kernel_rfl, ?_⟩, fun _ => rfl⟩ ?_
        · intro w; go_simp; try with_reducible rfl
        refine wpAnyIn_ready (rs := [0]) (by kernel_rfl) (by simp) ?_
        refine AllReadyIn.cons rfl (fun K hK => ?_) ?_
        · go_simp
          refine hK _ _ ?_; clear hK K
          refine wpAnyIn_take (i := 1) (v := .pointer (some ⟨g, 0, none⟩)) rfl rfl (by kernel_rfl) (by kernel_rfl) (by kernel_rfl) (fun _ _ _ h => h) ⟨Or.inl ⟨by kernel_rfl, ?_⟩, fun _ => rfl⟩ ?_
          · intro w; go_simp; try with_reducible rfl
          refine wpAnyIn_take (i := 2) (v := .pointer (some ⟨g, 1, none⟩)) rfl rfl (by kernel_rfl) (by kernel_rfl) (by kernel_rfl) (fun _ _ _ h => h) ⟨Or.inl ⟨by kernel_rfl, ?_⟩, fun _ => rfl⟩ ?_
          · intro w; go_simp; try with_reducible rfl
          refine wpAnyIn_ready (rs := [3]) (by kernel_rfl) (by simp) ?_
          refine AllReadyIn.cons rfl (fun K hK => ?_) ?_
          · go_simp
            refine hK _ _ ?_; clear hK K
            refine wpAnyIn_take (i := 10) (v := .pointer (some ⟨b, x.1, none⟩)) rfl rfl (by kernel_rfl) (by kernel_rfl) (by kernel_rfl) (fun _ _ _ h => h) ⟨Or.inl ⟨by kernel_rfl, ?_⟩, fun _ => rfl⟩ ?_
            · intro w; go_simp; try with_reducible rfl
            refine wpAnyIn_ready (rs := [11]) (by kernel_rfl) (by simp) ?_
            refine AllReadyIn.cons rfl (fun K hK => ?_) ?_
            · go_simp
              refine hK _ _ ?_; clear hK K
              refine wpAnyIn_done (by kernel_rfl) ?_ _
              go_simp
              gi_wp2
              exact ⟨HFIN.out.1, rfl, HFIN.out.2.2⟩
            exact AllReadyIn.nil
          exact AllReadyIn.nil
        exact AllReadyIn.nil
      exact AllReadyIn.nil
    exact AllReadyIn.nil
  case done =>
    rintro D ys W hD rfl ⟨he, q0, q1, q2, hMp, hF⟩ hK
    clear b0 b1 b2 b3 b4 b5 hB0 hIn
    have ht := sel_none (first := first) he
    have c1 := q1.cell
    have f1 := q1.frozen
    have c2 := q2.cell
    have f2 := q2.frozen
    have HMP := Aside0.mk hMp
    have HF := Aside0.mk hF
    have r1 : Boxed ((W.setCell ⟨w.heap.size + 1, 0, none⟩ (.int .i64 0)).setCell ⟨w.heap.size + 1 + 1, 0, none⟩ (.int .i64 26)) (w.heap.size + 1) 3 (.int .i64 0) := blk_far (Boxed.set _ q1) (by simp) _
    have r2 : Boxed ((W.setCell ⟨w.heap.size + 1, 0, none⟩ (.int .i64 0)).setCell ⟨w.heap.size + 1 + 1, 0, none⟩ (.int .i64 26)) (w.heap.size + 1 + 1) 23 (.int .i64 26) := Boxed.set _ (blk_far q2 (by simp) _)
    clear hMp hF q0 q1 q2 he
    gi_wp2
    have hK' : ((W.setCell ⟨w.heap.size + 1, 0, none⟩ (.int .i64 0)).setCell ⟨w.heap.size + 1 + 1, 0, none⟩ (.int .i64 26)).heap[D]? = some (.deferred (some [])) := (KeepsOthers.setCell _ _ _).same D _ ((KeepsOthers.setCell _ _ _).same D _ hK rfl) rfl
    have c3 := r1.cell
    have c4 := r2.cell
    have c5 := cell_kept c3 (grownBy_putObj' _ D (.deferred none)) (fun r e => by cases e; exact ⟨_, hK', rfl⟩)
    have c6 := cell_kept c4 (grownBy_putObj' _ D (.deferred none)) (fun r e => by cases e; exact ⟨_, hK', rfl⟩)
    refine ⟨by simp, .inl ⟨_, _, rfl, run_takeDeferred hK', ?_⟩⟩
    refine ⟨.tuple #[.int .i64 0, .int .i64 26], by simp [results, Try.f45, go_sem, c5, c6], by rw [ht], ?_, ?_⟩
    · rw [ht]
      refine Mp.mono (Mp.frm (S := fun k => k = w.heap.size + 1 ∨ k = w.heap.size + 1 + 1 ∨ k = D) HMP.out ((((Frm.refl _ _).setCell (.inl (.inl rfl)) _).setCell (.inl (.inr (.inl rfl))) _).grown (grownBy_putObj' _ D _) (fun k e => by cases e; exact .inl (.inr (.inr rfl)))) ?_ ?_) (fun k hk => hk.1)
      · have := HG.out; omega
      · intro k hk; have := hk.2.2.2; omega
    · exact ((HF.out.setCell (.inr (by simp)) _).setCell (.inr (by simp; omega)) _).grown (grownBy_putObj' _ D _) (fun k e => by cases e; exact .inr (by omega))
  case stop =>
    rintro D c' pre W hD hpre ⟨rfl, x, rfl, q1, q2, hMp, hF⟩ hK
    clear b0 b1 b2 b3 b4 b5 hB0 hIn
    have ht := sel_first (first := first) hpre
    have c1 := q1.cell
    have c2 := q2.cell
    have HMP := Aside0.mk hMp
    have HF := Aside0.mk hF
    clear hMp hF q1 q2
    gi_wp2
    have c5 := cell_kept c1 (grownBy_putObj' _ D (.deferred none)) (fun r e => by cases e; exact ⟨_, hK, rfl⟩)
    have c6 := cell_kept c2 (grownBy_putObj' _ D (.deferred none)) (fun r e => by cases e; exact ⟨_, hK, rfl⟩)
    refine ⟨by simp, .inl ⟨_, _, rfl, run_takeDeferred hK, ?_⟩⟩
    refine ⟨.tuple #[.int .i64 (first + (x.1 : Int)), .int .i64 0], by simp [results, Try.f45, go_sem, c5, c6], by rw [ht], ?_, ?_⟩
    · rw [ht]
      refine Mp.mono (Mp.frm (S := fun k => k = D) HMP.out ((Frm.refl _ _).grown (grownBy_putObj' _ D _) (fun k e => by cases e; exact .inl rfl)) ?_ ?_) (fun k hk => hk.1)
      · have := HG.out; omega
      · intro k hk; have := hk.2.2.2; omega
    · exact HF.out.grown (grownBy_putObj' _ D _) (fun k e => by cases e; exact .inr (by omega))
end Go.Proofs.Ytbddllklagiajaa

namespace Go.Proofs.Ytbddllklagiajaa
open Go.RowKit Go.Shelf Go.Proofs.YtbddllklagiajaaW.PrintWords Go.Proofs.YtbddllklagiajaaW.PrintLast Go.Proofs.YtbddllklagiajaaW.PrintMore
set_option linter.unusedVariables false
set_option linter.unusedSimpArgs false
attribute [local go_sem] Oper.semAt_some

theorem infoI : (Try.prog.info? 3).map (fun i => (i.zero, i.size, i.bytes)) = some (some (.int .i64 0), 1, 8) := by kernel_rfl

set_option maxRecDepth 100000 in
set_option maxHeartbeats 4000000 in
theorem appendSeq_calls {T : Nat → Prop} {w : World} {B1 B2 g : Nat} {first : Int} {A : Option Addr} {c : Nat} {st : List Int} {As : Option Addr} {ns cs : Nat} {ss : List Int}
    (hIn : InAt T w B1 B2 g first A st.length c st As ns cs ss) (hT : ∀ k, T k → k < w.heap.size) (hns : ns ≤ 1000) (hw : WfM first st) :
    Calls Try.prog 102 #[.slice none 0 0, .func (.func 103) #[] #[.pointer (some ⟨B1, 0, none⟩), .pointer (some ⟨B2, 0, none⟩)]] w fun e w' => ∃ v, e = .returned v ∧ KI.R 3 w' w.heap.size (fun _ => True) v (listM first st ss) ∧ Below w.heap.size w w' := by
  obtain ⟨i0, hi, hz0, hz1, hz2⟩ := info_parts infoI
  have hlen : st.length ≤ 65536 := hw.2.2.2.1
  have hf1 : 0 ≤ first ∧ first ≤ 1073741824 := ⟨hw.1, hw.2.1⟩
  have HST := Aside0.mk hw.2.2.2.2
  clear hw
  refine (callsIn_wide (n := 3)).1 ?_
  refine callsIn_of_wp_marks Try.func102 rfl trivial ?_ rfl
  simp only [Try.ntmps102, List.size_toArray, List.length_cons, List.length_nil, Nat.reduceAdd, Nat.reduceSub, Array.replicate_succ, Array.replicate_zero, List.push_toArray, List.append_toArray, List.nil_append, List.cons_append]
  gi_wp2
  have bO := Boxed.new w 61 (.slice none 0 0)
  have hB0 : Below w.heap.size w (w.alloc (.cells #[.slice none 0 0] 61)) := below_alloc (Below.refl _ w) _
  have hs0 : (w.alloc (.cells #[.slice none 0 0] 61)).heap.size = w.heap.size + 1 := by simp
  have hIn0 := hIn.step (w' := w.alloc (.cells #[.slice none 0 0] 61)) (Frm.of_fresh hB0 _).kept
  obtain ⟨w0, hw0⟩ : ∃ w0, w.alloc (.cells #[.slice none 0 0] 61) = w0 := ⟨_, rfl⟩
  rw [hw0] at bO hB0 hs0 hIn0 ⊢
  clear hw0
  have hT0 : ∀ k, T k → k < w0.heap.size := fun k hk => by have := hT k hk; omega
  refine wpIn_rangeFunc_ownF rfl (by omega) (gf := 103) (lb := #[.pointer (some ⟨B1, 0, none⟩), .pointer (some ⟨B2, 0, none⟩)]) rfl trivial (enters_of Try.func103 (by kernel_rfl) rfl)
    (in_stops 2 (by omega) hIn0 hT0 hlen hns hf1 HST.out) KpT.trans (fun W l o o' hl _ _ _ => KpT.putObj hT0 W l o' hl) (Below.refl _ _) (fun _ => rfl)
    (fun pre W => (∃ v, Boxed W w.heap.size 61 v ∧ W.ownsRow w.heap.size 3 1 v pre.length (pre.map (fun i => Value.int .i64 (first + (i.1 : Int)))) ∧ True) ∧ Below w.heap.size w W)
    (fun _ _ _ => False)
    (OwnFrom.and (Own.from (holdsRow_own w.heap.size w.heap.size 61 3 1 (fun pre : List (Fin st.length) => pre.length) (fun pre : List (Fin st.length) => pre.map (fun i => Value.int .i64 (first + (i.1 : Int)))) (fun _ _ => True)) _) (ownFrom_below (Nat.le_refl _) (by omega)))
    (fun _ _ _ _ _ hs _ _ => hs)
    ⟨⟨_, bO, World.ownsRow_nil _ _ _ _, trivial⟩, hB0⟩
    (fun x => { tmps := #[.slice none 0 0, .func (.func 103) #[] #[.pointer (some ⟨B1, 0, none⟩), .pointer (some ⟨B2, 0, none⟩)], .pointer (some ⟨w.heap.size, 0, none⟩), undef, .slice none 0 0, .int .i64 (first + (x.1 : Int)),
      .func (.func 103) #[] #[.pointer (some ⟨B1, 0, none⟩), .pointer (some ⟨B2, 0, none⟩)], .int .i64 (first + (x.1 : Int)), undef, undef, undef, undef, undef], defers := [] }) ?assign ?body ?done ?stop
  case assign =>
    intro l x W K hK
    gi_wp2
    exact hK
  case body =>
    rintro l pre x W ⟨⟨v, hv, hrow, _⟩, hB⟩ hlt
    have hc := hv.cell
    clear hIn hIn0 bO hB0
    gi_wp2_with (gi_at_builtin; refine wpListIn_append_own _ rfl _ _ 61 rfl w.heap.size 3 i0 (.int .i64 0) 1 8 Try.underlying61 hi hz0 hz1 hz2 rfl (by decide) _ _ _ rfl (hrow.alloc _) ⟨W.heap.size, 0, none⟩ 1 1 [.int .i64 (first + (x.1 : Int))] rfl rfl (cell_one_new _ _ _) (by simp [Value.oneCell']) (by simp [maxLen]; omega) (by omega) (by have := hB.size; simp; omega) ?_; intro v' w1 hown' hgrow _; obtain ⟨g', cap', rfl⟩ := ownsRow_succ hown'; obtain ⟨hv1, hv2, hr2, hk2, hb2⟩ := hv.appended (by decide) hrow hB.size (Nat.le_refl _) hown' hgrow; have hc1 := hv1.cell; have hf1 := hv1.frozen)
    exact ⟨hk2, KpT.of_below hT hb2, ⟨_, hv2, by rw [List.length_append, List.map_append]; exact hr2, trivial⟩, hB.trans hb2⟩
  case done =>
    rintro D ys W hD rfl ⟨⟨v, hv, hrow, _⟩, hB⟩ hK
    have hc := hv.cell
    gi_wp2
    refine ⟨by simp, .inl ⟨_, _, rfl, run_takeDeferred hK, ?_⟩⟩
    refine ⟨_, results_tmp rfl _ _ _, v, rfl, ?_, hB.trans (belowK_b (w := w) (Nat.le_refl _) W D _ _ (by omega) hK rfl rfl)⟩
    have h1 := ownsRow_putObj hrow (.deferred none) hK rfl
    refine Kd.R_of_own ?_ (fun _ _ => trivial)
    have e1 : (selM st ss st.length).map (fun i => Value.int .i64 (first + (i.1 : Int))) = encs (Value.int .i64) (listM first st ss) := by
      rw [sel_list]
      simp [encs, selM]
    have e2 : (selM st ss st.length).length = (listM first st ss).length := by
      rw [sel_list, List.length_map]
      rfl
    rw [← e1, ← e2]
    exact h1
  case stop =>
    rintro D c pre W _ _ h _
    exact h.elim

theorem collect_calls {T : Nat → Prop} {w : World} {B1 B2 g : Nat} {first : Int} {A : Option Addr} {c : Nat} {st : List Int} {As : Option Addr} {ns cs : Nat} {ss : List Int}
    (hIn : InAt T w B1 B2 g first A st.length c st As ns cs ss) (hT : ∀ k, T k → k < w.heap.size) (hns : ns ≤ 1000) (hw : WfM first st) :
    Calls Try.prog 86 #[.func (.func 103) #[] #[.pointer (some ⟨B1, 0, none⟩), .pointer (some ⟨B2, 0, none⟩)]] w fun e w' => ∃ v, e = .returned v ∧ KI.R 3 w' w.heap.size (fun _ => True) v (listM first st ss) ∧ Below w.heap.size w w' := by
  have HX := Aside0.mk (appendSeq_calls hIn hT hns hw)
  clear hIn hw
  go_enter Try.func86, Try.ntmps86
  go_wp2_with fail
  refine HX.out.mono ?_
  rintro e w1 ⟨v, rfl, h1⟩
  have H1 := Aside0.mk h1
  clear h1
  go_wp2
  go_ret
  exact ⟨v, rfl, H1.out⟩

theorem pair_calls (a b : Int) (base g : Nat) (P : Nat → Prop) (first : Int) (st : List Int) (w : World) (h : Mp base w g P first st) (hw : WfM first st) :
    Calls Try.prog 86 #[.func (.func 103) #[] #[.pointer (some ⟨w.heap.size + 1, 0, none⟩), .pointer (some ⟨w.heap.size + 1 + 1, 0, none⟩)]] (((w.alloc (.cells #[.int .i64 a, .int .i64 b] 3)).alloc (.cells #[.pointer (some ⟨g, 0, none⟩)] 60)).alloc (.cells #[.slice (some ⟨w.heap.size, 0, none⟩) 2 2] 61)) fun e w' =>
      ∃ v, e = .returned v ∧ KI.R 3 w' w.heap.size (fun _ => True) v (listM first st [a, b]) ∧ Below w.heap.size w w' := by
  have b0 : (((w.alloc (.cells #[.int .i64 a, .int .i64 b] 3)).alloc (.cells #[.pointer (some ⟨g, 0, none⟩)] 60)).alloc (.cells #[.slice (some ⟨w.heap.size, 0, none⟩) 2 2] 61)).heap[w.heap.size]? = some (.cells #[.int .i64 a, .int .i64 b] 3 (0, 0)) := blk_alloc (blk_alloc (blk_new w _) _) _
  have b1 : (((w.alloc (.cells #[.int .i64 a, .int .i64 b] 3)).alloc (.cells #[.pointer (some ⟨g, 0, none⟩)] 60)).alloc (.cells #[.slice (some ⟨w.heap.size, 0, none⟩) 2 2] 61)).heap[w.heap.size + 1]? = some (.cells #[.pointer (some ⟨g, 0, none⟩)] 60 (0, 0)) := by
    have := blk_new (w.alloc (.cells #[.int .i64 a, .int .i64 b] 3)) (.cells #[.pointer (some ⟨g, 0, none⟩)] 60)
    rw [World.size_alloc] at this
    exact blk_alloc this _
  have b2 : (((w.alloc (.cells #[.int .i64 a, .int .i64 b] 3)).alloc (.cells #[.pointer (some ⟨g, 0, none⟩)] 60)).alloc (.cells #[.slice (some ⟨w.heap.size, 0, none⟩) 2 2] 61)).heap[w.heap.size + 1 + 1]? = some (.cells #[.slice (some ⟨w.heap.size, 0, none⟩) 2 2] 61 (0, 0)) := by
    have := blk_new ((w.alloc (.cells #[.int .i64 a, .int .i64 b] 3)).alloc (.cells #[.pointer (some ⟨g, 0, none⟩)] 60)) (.cells #[.slice (some ⟨w.heap.size, 0, none⟩) 2 2] 61)
    rw [World.size_alloc, World.size_alloc] at this
    exact this
  have hB0 : Below w.heap.size w (((w.alloc (.cells #[.int .i64 a, .int .i64 b] 3)).alloc (.cells #[.pointer (some ⟨g, 0, none⟩)] 60)).alloc (.cells #[.slice (some ⟨w.heap.size, 0, none⟩) 2 2] 61)) := below_alloc (below_alloc (below_alloc (Below.refl _ w) _) _) _
  have hs0 : (((w.alloc (.cells #[.int .i64 a, .int .i64 b] 3)).alloc (.cells #[.pointer (some ⟨g, 0, none⟩)] 60)).alloc (.cells #[.slice (some ⟨w.heap.size, 0, none⟩) 2 2] 61)).heap.size = w.heap.size + 3 := by simp
  obtain ⟨w0, hw0⟩ : ∃ w0, (((w.alloc (.cells #[.int .i64 a, .int .i64 b] 3)).alloc (.cells #[.pointer (some ⟨g, 0, none⟩)] 60)).alloc (.cells #[.slice (some ⟨w.heap.size, 0, none⟩) 2 2] 61)) = w0 := ⟨_, rfl⟩
  rw [hw0] at b0 b1 b2 hB0 hs0 ⊢
  clear hw0
  obtain ⟨A, c, hIn⟩ := inAt_of (T := fun k => k < w.heap.size + 3) (ss := [a, b]) h (fun k hk => by omega) (Frm.of_fresh hB0 _) b1 b2 b0 rfl (by omega) (by omega) (by omega) (by simp)
  refine (collect_calls hIn (fun k hk => by rw [hs0]; exact hk) (by simp) hw).mono ?_
  rintro e w' ⟨v, rfl, h1, h2⟩
  exact ⟨v, rfl, Kd.R_lower h1 (by omega), hB0.trans (h2.mono (by omega))⟩

set_option maxHeartbeats 1000000 in
theorem used_calls (base g : Nat) (P : Nat → Prop) (first : Int) (st : List Int) (w : World) (h : Mp base w g P first st) (hw : WfM first st) :
    Calls Try.prog 44 #[.pointer (some ⟨g, 0, none⟩)] w fun e w' => ∃ v, e = .returned v ∧ KI.R 3 w' w.heap.size (fun _ => True) v (listM first st [1, 2]) ∧ Below w.heap.size w w' := by
  have HX := Aside0.mk (pair_calls 1 2 base g P first st w h hw)
  clear h hw
  go_enter Try.func44, Try.ntmps44
  go_wp2_with fail
  refine (callsIn_wide.1 (in_calls 1 _ _ _ _ _)).mono ?_
  rintro e w1 ⟨rfl, rfl⟩
  go_wp2_with fail
  refine HX.out.mono ?_
  rintro e w1 ⟨v, rfl, h1⟩
  have H1 := Aside0.mk h1
  clear h1
  go_wp2
  go_ret
  exact ⟨v, rfl, H1.out⟩

set_option maxHeartbeats 1000000 in
theorem old_calls (base g : Nat) (P : Nat → Prop) (first : Int) (st : List Int) (w : World) (h : Mp base w g P first st) (hw : WfM first st) :
    Calls Try.prog 43 #[.pointer (some ⟨g, 0, none⟩)] w fun e w' => ∃ v, e = .returned v ∧ KI.R 3 w' w.heap.size (fun _ => True) v (listM first st [1, 3]) ∧ Below w.heap.size w w' := by
  have HX := Aside0.mk (pair_calls 1 3 base g P first st w h hw)
  clear h hw
  go_enter Try.func43, Try.ntmps43
  go_wp2_with fail
  refine (callsIn_wide.1 (in_calls 1 _ _ _ _ _)).mono ?_
  rintro e w1 ⟨rfl, rfl⟩
  go_wp2_with fail
  refine HX.out.mono ?_
  rintro e w1 ⟨v, rfl, h1⟩
  have H1 := Aside0.mk h1
  clear h1
  go_wp2
  go_ret
  exact ⟨v, rfl, H1.out⟩

end Go.Proofs.Ytbddllklagiajaa

namespace Go.Proofs.Ytbddllklagiajaa
open PCodecKeeps (info5)
open Go.RowKit Go.Shelf Go.Proofs.YtbddllklagiajaaW.PrintWords Go.Proofs.YtbddllklagiajaaW.PrintLast Go.Proofs.YtbddllklagiajaaW.PrintMore
set_option linter.unusedVariables false
set_option linter.unusedSimpArgs false
attribute [local go_sem] Oper.semAt_some

set_option maxRecDepth 100000 in
set_option maxHeartbeats 4000000 in
theorem encode_calls (base g : Nat) (P : Nat → Prop) (first : Int) (st : List Int) (w : World) (h : Mp base w g P first st) (hw : WfM first st) :
    Calls Try.prog 61 #[.pointer (some ⟨g, 0, none⟩)] w fun e w' => e = .returned (.string (strOfNums (encM first st))) ∧ Below w.heap.size w w' := by
  have HM := Aside0.mk h.tight
  have HG := Aside0.mk h.lt
  have HW := Aside0.mk hw
  obtain ⟨A, n, c, h0, h1, hl, hc, hC⟩ := h.cells
  have hn : n ≤ 65536 := by rw [← hl]; exact hw.2.2.2.1
  have HL := Aside0.mk hl
  have h0a : ∀ o, (w.alloc o).cell? ⟨g, 0, none⟩ = some (.int .i64 first) := fun o => ((Frm.refl w (fun _ => False)).alloc o).cell h0 (fun h => h)
  have h1a : ∀ o, (w.alloc o).cell? ⟨g, 1, none⟩ = some (.slice A n c) := fun o => ((Frm.refl w (fun _ => False)).alloc o).cell h1 (fun h => h)
  clear h hw hC hl hc
  refine (callsIn_wide (n := 3)).1 ?_
  refine callsIn_of_wp_marks Try.func61 rfl trivial ?_ rfl
  simp only [Try.ntmps61, List.size_toArray, List.length_cons, List.length_nil, Nat.reduceAdd, Nat.reduceSub, Array.replicate_succ, Array.replicate_zero, List.push_toArray, List.append_toArray, List.nil_append, List.cons_append]
  refine wpIn_wide.2 ?_
  have bx0 := blk_new w (.cells #[.pointer (some ⟨g, 0, none⟩)] 60)
  go_wp2_with ((with_reducible refine gate_dst (N := 18) rfl ?_); refine Kd.R_make KB (w0 := w.alloc (.cells #[.pointer (some ⟨g, 0, none⟩)] 60)) (w.heap.size + 1) 5 rfl (N := 18) rfl 22 _ _ rfl (((n : Int) + 7) / 8) rfl rfl Try.underlying22 (.int .u8 0) 1 info5 rfl (by decide) (by decide) 0 (ok := fun k => w.heap.size + 1 ≤ k) (okp := fun _ => False) rfl (fun _ h => h.elim) (by simp) ?a0 ?al (Below.refl _ _) (by simp) ?_; (case a0 => omega); (case al => omega); intro v3 w3 hr3 hb3 hg3 ho3; obtain ⟨A3, n3, c3, rfl⟩ := R_form' hr3; have HR3 := Aside0.mk hr3; have HB3 := Aside0.mk hb3; have HO3 := Aside0.mk ho3; have bx3 : w3.cell? ⟨w.heap.size, 0, none⟩ = some (.pointer (some ⟨g, 0, none⟩)) := blk_cell (blk_grown bx0 hg3 (by simp)) 0; have HBX := Aside0.mk (blk_grown bx0 hg3 (by simp)); have bx3a : ∀ o, (w3.alloc o).cell? ⟨w.heap.size, 0, none⟩ = some (.pointer (some ⟨g, 0, none⟩)) := fun o => blk_cell (blk_alloc (blk_grown bx0 hg3 (by simp)) o) 0; clear hr3 hb3 hg3 ho3)
  obtain ⟨b, hb4, hb5⟩ := HO3.out
  have hnb : n3 = (n + 7) / 8 := by
    have := (Kd.R_reads' HR3.out).1
    rw [List.length_replicate] at this
    omega
  have hn1 : 1 ≤ n := by have := HL.out; have := HW.out.2.2.1; omega
  obtain ⟨b', hA3, hbb0, _, hbl0, _, _⟩ := own_at HR3.out 0 (by omega)
  subst hA3
  have HNB := Aside0.mk hnb
  clear hnb
  obtain rfl : b = b' := by
    have : b' = b := by simpa [Value.ownBlock] using hb4
    exact this.symm
  refine (callsIn_wide.1 (in_calls 1 _ _ _ _ _)).mono ?_
  rintro e w4 ⟨rfl, rfl⟩
  go_wp2_with fail
  have b0 : ((((w3.alloc (.cells #[.slice (some ⟨b, 0, none⟩) n3 c3] 22)).alloc (.cells #[.int .i64 1, .int .i64 2] 3)).alloc (.cells #[.pointer (some ⟨g, 0, none⟩)] 60)).alloc (.cells #[.slice (some ⟨w3.heap.size + 1, 0, none⟩) 2 2] 61)).heap[w3.heap.size]? = some (.cells #[.slice (some ⟨b, 0, none⟩) n3 c3] 22 (0, 0)) := by
    have := blk_new w3 (.cells #[.slice (some ⟨b, 0, none⟩) n3 c3] 22)
    exact (blk_alloc (blk_alloc (blk_alloc this _) _) _)
  have b1 : ((((w3.alloc (.cells #[.slice (some ⟨b, 0, none⟩) n3 c3] 22)).alloc (.cells #[.int .i64 1, .int .i64 2] 3)).alloc (.cells #[.pointer (some ⟨g, 0, none⟩)] 60)).alloc (.cells #[.slice (some ⟨w3.heap.size + 1, 0, none⟩) 2 2] 61)).heap[w3.heap.size + 1]? = some (.cells #[.int .i64 1, .int .i64 2] 3 (0, 0)) := by
    have := blk_new (w3.alloc (.cells #[.slice (some ⟨b, 0, none⟩) n3 c3] 22)) (.cells #[.int .i64 1, .int .i64 2] 3)
    rw [World.size_alloc] at this
    exact (blk_alloc (blk_alloc this _) _)
  have b2 : ((((w3.alloc (.cells #[.slice (some ⟨b, 0, none⟩) n3 c3] 22)).alloc (.cells #[.int .i64 1, .int .i64 2] 3)).alloc (.cells #[.pointer (some ⟨g, 0, none⟩)] 60)).alloc (.cells #[.slice (some ⟨w3.heap.size + 1, 0, none⟩) 2 2] 61)).heap[w3.heap.size + 1 + 1]? = some (.cells #[.pointer (some ⟨g, 0, none⟩)] 60 (0, 0)) := by
    have := blk_new ((w3.alloc (.cells #[.slice (some ⟨b, 0, none⟩) n3 c3] 22)).alloc (.cells #[.int .i64 1, .int .i64 2] 3)) (.cells #[.pointer (some ⟨g, 0, none⟩)] 60)
    rw [World.size_alloc, World.size_alloc] at this
    exact (blk_alloc this _)
  have b3 : ((((w3.alloc (.cells #[.slice (some ⟨b, 0, none⟩) n3 c3] 22)).alloc (.cells #[.int .i64 1, .int .i64 2] 3)).alloc (.cells #[.pointer (some ⟨g, 0, none⟩)] 60)).alloc (.cells #[.slice (some ⟨w3.heap.size + 1, 0, none⟩) 2 2] 61)).heap[w3.heap.size + 1 + 1 + 1]? = some (.cells #[.slice (some ⟨w3.heap.size + 1, 0, none⟩) 2 2] 61 (0, 0)) := by
    have := blk_new (((w3.alloc (.cells #[.slice (some ⟨b, 0, none⟩) n3 c3] 22)).alloc (.cells #[.int .i64 1, .int .i64 2] 3)).alloc (.cells #[.pointer (some ⟨g, 0, none⟩)] 60)) (.cells #[.slice (some ⟨w3.heap.size + 1, 0, none⟩) 2 2] 61)
    rw [World.size_alloc, World.size_alloc, World.size_alloc] at this
    exact this
  have hB0 : Below w3.heap.size w3 ((((w3.alloc (.cells #[.slice (some ⟨b, 0, none⟩) n3 c3] 22)).alloc (.cells #[.int .i64 1, .int .i64 2] 3)).alloc (.cells #[.pointer (some ⟨g, 0, none⟩)] 60)).alloc (.cells #[.slice (some ⟨w3.heap.size + 1, 0, none⟩) 2 2] 61)) := (below_alloc (below_alloc (below_alloc (below_alloc (Below.refl _ w3) _) _) _) _)
  have hs0 : ((((w3.alloc (.cells #[.slice (some ⟨b, 0, none⟩) n3 c3] 22)).alloc (.cells #[.int .i64 1, .int .i64 2] 3)).alloc (.cells #[.pointer (some ⟨g, 0, none⟩)] 60)).alloc (.cells #[.slice (some ⟨w3.heap.size + 1, 0, none⟩) 2 2] 61)).heap.size = w3.heap.size + 4 := by simp
  obtain ⟨w0, hw0⟩ : ∃ w0, ((((w3.alloc (.cells #[.slice (some ⟨b, 0, none⟩) n3 c3] 22)).alloc (.cells #[.int .i64 1, .int .i64 2] 3)).alloc (.cells #[.pointer (some ⟨g, 0, none⟩)] 60)).alloc (.cells #[.slice (some ⟨w3.heap.size + 1, 0, none⟩) 2 2] 61)) = w0 := ⟨_, rfl⟩
  rw [hw0] at b0 b1 b2 b3 hB0 hs0 ⊢
  clear hw0
  have hF3 : Below w.heap.size w w0 := ((below_alloc (Below.refl _ w) _).trans (HB3.out.mono (by omega))).trans (hB0.mono (by have := HB3.out.size; simp at this; omega))
  have hs3 : w.heap.size + 1 ≤ w3.heap.size := by have := HB3.out.size; simp at this; exact this
  have hT : ∀ k, (k < w3.heap.size + 4 ∧ k ≠ b) → k < w0.heap.size := fun k hk => by rw [hs0]; exact hk.1
  obtain ⟨A', c', hIn⟩ := inAt_of (T := fun k => k < w3.heap.size + 4 ∧ k ≠ b) (ss := [1, 2]) HM.out (fun k hk => ⟨by omega, by omega⟩) (Frm.of_fresh hF3 _) b2 b3 b1 rfl ⟨by omega, by omega⟩ ⟨by omega, by omega⟩ ⟨by omega, by omega⟩ (by simp)
  have hlen : st.length ≤ 65536 := HW.out.2.2.2.1
  have hf1 : 0 ≤ first ∧ first ≤ 1073741824 := ⟨HW.out.1, HW.out.2.1⟩
  have HST := Aside0.mk HW.out.2.2.2.2
  have hR0 : KB.R 5 w0 (w.heap.size + 1) (fun k => k = b) (.slice (some ⟨b, 0, none⟩) n3 c3) (bitsP (fun m => ([] : List (Fin st.length)).any (fun y => y.1 == m)) n3) := by
    have h1 := Kd.R_below HR3.out hB0
    refine Kd.R_mono (ok := fun k => some k = some b) ⟨fun k hk => ?_, ?_⟩ (fun k hk => by injection hk)
    · show some k = some b
      rw [← hk]; exact hb4
    · have := h1.2
      have e : (((n : Int) + 7) / 8).toNat = n3 := by have := HNB.out; omega
      rw [e] at this
      have e2 : (fun m => ([] : List (Fin st.length)).any (fun y => y.1 == m)) = fun _ => false := rfl
      rw [e2, bitsP_none]
      exact this
  have hX0 : Boxed w0 w.heap.size 60 (.pointer (some ⟨g, 0, none⟩)) := (hB0.block _ (by omega)).trans HBX.out
  refine wpIn_wide.1 (wpIn_rangeFunc_ownF (n := 3) rfl (by omega) (gf := 103) (lb := #[.pointer (some ⟨w3.heap.size + 1 + 1, 0, none⟩), .pointer (some ⟨w3.heap.size + 1 + 1 + 1, 0, none⟩)]) rfl trivial (enters_of Try.func103 (by kernel_rfl) rfl)
    (in_stops 2 (by omega) hIn hT hlen (by simp) hf1 HST.out) KpT.trans (fun W l o o' hl _ _ _ => KpT.putObj hT W l o' hl) (Below.refl _ _) (fun _ => rfl)
    (fun pre W => Boxed W w.heap.size 60 (.pointer (some ⟨g, 0, none⟩)) ∧ Boxed W w3.heap.size 22 (.slice (some ⟨b, 0, none⟩) n3 c3) ∧ KB.R 5 W (w.heap.size + 1) (fun k => k = b) (.slice (some ⟨b, 0, none⟩) n3 c3) (bitsP (fun m => pre.any (fun y => y.1 == m)) n3) ∧ Below w.heap.size w W)
    (fun _ _ _ => False) ?hI (fun _ _ _ _ _ hs _ _ => hs) ⟨hX0, b0, hR0, hF3⟩
    (fun x => { tmps := #[.pointer (some ⟨g, 0, none⟩), .pointer (some ⟨w.heap.size, 0, none⟩), .string ⟨#[]⟩, .pointer (some ⟨w3.heap.size, 0, none⟩), .int .i64 (first + (x.1 : Int)), undef, undef, undef, undef, .pointer (some ⟨g, 0, none⟩), .bool false, .pointer (some ⟨g, 0, none⟩), .pointer (some ⟨g, 0, none⟩), .pointer (some ⟨g, 1, none⟩), .slice A n c, .int .i64 (n : Int), .int .i64 ((n : Int) + 7), .int .i64 (((n : Int) + 7) / 8), .slice (some ⟨b, 0, none⟩) n3 c3, .pointer (some ⟨g, 0, none⟩), .slice (some ⟨w3.heap.size + 1, 0, none⟩) 2 2, .func (.func 103) #[] #[.pointer (some ⟨w3.heap.size + 1 + 1, 0, none⟩), .pointer (some ⟨w3.heap.size + 1 + 1 + 1, 0, none⟩)], .int .i64 (first + (x.1 : Int)), undef, undef, undef, undef, undef, undef, undef, undef, undef, undef, undef, undef, undef, undef, undef, undef, undef, undef, undef, undef, undef, undef, undef, undef, undef, undef, undef, undef, undef, undef, undef, undef, undef, undef, undef, undef, undef, undef, undef, undef, undef], defers := [] }) ?assign ?body ?done ?stop)
  case hI =>
    rintro s A B row ⟨h1, h2, h3, h4⟩ hg hr
    exact ⟨boxed_ownFrom (B := w0.heap.size) (v := fun _ => _) (by omega) () A B row h1 hg hr, boxed_ownFrom (B := w0.heap.size) (v := fun _ => _) (by omega) () A B row h2 hg hr,
      Kd.R_grown h3 hg (fun k hk e => by have := (hr k e.symm).1; omega), (ownFrom_below (β := Unit) (Nat.le_refl _) (by omega)) () A B row h4 hg hr⟩
  case assign =>
    intro l x W K hK
    gi_wp2
    exact hK
  case body =>
    rintro l pre x W ⟨q0, q1, hr, hB⟩ hlt
    clear b0 b1 b2 b3 hB0 hIn hX0 hR0
    have hx := x.2
    have hLL := HL.out
    have hx3 : x.1 / 8 < n3 := by have := HNB.out; omega
    obtain ⟨b'', hbe, _, _, _, hc1, hfz⟩ := own_at hr (x.1 / 8) hx3
    obtain rfl : b = b'' := by injection hbe with hbe; injection hbe
    rw [bitsP_getD _ _ _ hx3] at hc1
    have c0 := q0.cell
    have c1 := q1.cell
    have f1 := q1.frozen
    have g0 : W.cell? ⟨g, 0, none⟩ = some (.int .i64 first) := (hB.cell (p := ⟨g, 0, none⟩) HG.out).trans h0
    have hw1 : IntKind.i64.wrap (first + (x.1 : Int) - first) = (x.1 : Int) := by rw [IntKind.wrap_i64]; omega
    have HFIN : Aside0 (KeepsOthers W (W.drew.setCell ⟨b, x.1 / 8, none⟩ (.int .u8 ((byteP (fun m => pre.any (fun y => y.1 == m)) (x.1 / 8) ||| 2 ^ (x.1 % 8) : Nat) : Int))) ∧ KpT (fun k => k < w3.heap.size + 4 ∧ k ≠ b) W (W.drew.setCell ⟨b, x.1 / 8, none⟩ (.int .u8 ((byteP (fun m => pre.any (fun y => y.1 == m)) (x.1 / 8) ||| 2 ^ (x.1 % 8) : Nat) : Int))) ∧
        Boxed (W.drew.setCell ⟨b, x.1 / 8, none⟩ (.int .u8 ((byteP (fun m => pre.any (fun y => y.1 == m)) (x.1 / 8) ||| 2 ^ (x.1 % 8) : Nat) : Int))) w.heap.size 60 (.pointer (some ⟨g, 0, none⟩)) ∧ Boxed (W.drew.setCell ⟨b, x.1 / 8, none⟩ (.int .u8 ((byteP (fun m => pre.any (fun y => y.1 == m)) (x.1 / 8) ||| 2 ^ (x.1 % 8) : Nat) : Int))) w3.heap.size 22 (.slice (some ⟨b, 0, none⟩) n3 c3) ∧
        KB.R 5 (W.drew.setCell ⟨b, x.1 / 8, none⟩ (.int .u8 ((byteP (fun m => pre.any (fun y => y.1 == m)) (x.1 / 8) ||| 2 ^ (x.1 % 8) : Nat) : Int))) (w.heap.size + 1) (fun k => k = b) (.slice (some ⟨b, 0, none⟩) n3 c3) (bitsP (fun m => (pre ++ [x]).any (fun y => y.1 == m)) n3) ∧
        Below w.heap.size w (W.drew.setCell ⟨b, x.1 / 8, none⟩ (.int .u8 ((byteP (fun m => pre.any (fun y => y.1 == m)) (x.1 / 8) ||| 2 ^ (x.1 % 8) : Nat) : Int)))) := by
      refine ⟨(KeepsOthers.drew W).trans (KeepsOthers.setCell _ _ _), (Frm.refl W _).drew.setCell (.inl (fun hh => hh.2 rfl)) _, blk_far (blk_drew q0) (by simp; omega) _, blk_far (blk_drew q1) (by simp; omega) _, ?_, (below_drew hB).setCell (p := ⟨b, x.1 / 8, none⟩) (by simp; omega) _⟩
      have := Kd.R_putn (Kd.R_drew hr) ((x.1 / 8 : Nat) : Int) ((byteP (fun m => pre.any (fun y => y.1 == m)) (x.1 / 8) ||| 2 ^ (x.1 % 8) : Nat) : Int)
      rw [Int.toNat_natCast, bitsP_set _ _ _ hx3] at this
      have e : (fun m => (pre ++ [x]).any (fun y => y.1 == m)) = fun m => pre.any (fun y => y.1 == m) || x.1 == m := by
        funext m
        rw [List.any_append]
        simp
      rw [e]
      exact this
    clear hr hB q0 q1 HM HST HW HB3 HR3 HO3
    have hq8 : IntKind.i64.wrap ((x.1 : Int) / 8) = (x.1 : Int) / 8 := by rw [IntKind.wrap_i64]; omega
    have hr8 : (x.1 : Int).tmod 8 = ((x.1 % 8 : Nat) : Int) := by rw [Int.tmod_eq_emod_of_nonneg (by omega)]; rfl
    have hwr8 : IntKind.i64.wrap ((x.1 % 8 : Nat) : Int) = ((x.1 % 8 : Nat) : Int) := by rw [IntKind.wrap_i64]; omega
    have hix : 0 ≤ (x.1 : Int) / 8 ∧ (x.1 : Int) / 8 < (n3 : Int) := by omega
    have hix2 : ((x.1 : Int) / 8).toNat = x.1 / 8 := by omega
    have hsh : IntKind.u8.wrap (2 ^ ((x.1 : Int) % 8).toNat) = 2 ^ (x.1 % 8) := by
      rw [show ((x.1 : Int) % 8).toNat = x.1 % 8 by omega]
      have key : ∀ k : Fin 8, IntKind.u8.wrap (2 ^ k.1) = 2 ^ k.1 := by decide
      exact key ⟨x.1 % 8, Nat.mod_lt _ (by omega)⟩
    have hbits : Go.bits .or .u8 (byteP (fun m => pre.any (fun y => y.1 == m)) (x.1 / 8) : Int) (2 ^ (x.1 % 8)) = ((byteP (fun m => pre.any (fun y => y.1 == m)) (x.1 / 8) ||| 2 ^ (x.1 % 8) : Nat) : Int) := by
      rw [← bits_or_pow _ (byteP_lt _ _) x.1, Int.natCast_pow]
      rfl
    gi_wp2_with fail
    refine region_round (by kernel_rfl) rfl (by kernel_rfl) ?_
    refine wpAnyIn_take (i := 1) (v := .int .i64 (x.1 : Int)) rfl rfl (by kernel_rfl) (by kernel_rfl) (by kernel_rfl) (fun _ _ _ h => h) ⟨Or.inl ⟨by kernel_rfl, ?_⟩, fun _ => rfl⟩ ?_
    · intro w; go_simp; try with_reducible rfl
    refine wpAnyIn_take (i := 2) (v := .int .i64 ((x.1 / 8 : Nat) : Int)) rfl rfl (by kernel_rfl) (by kernel_rfl) (by kernel_rfl) (fun _ _ _ h => h) ⟨Or.inl ⟨by kernel_rfl, ?_⟩, fun _ => rfl⟩ ?_
    · intro w; go_simp; try first | with_reducible rfl | omega | simp
    refine wpAnyIn_take (i := 5) (v := .int .i64 (x.1 : Int)) rfl rfl (by kernel_rfl) (by kernel_rfl) (by kernel_rfl) (fun _ _ _ h => h) ⟨Or.inl ⟨by kernel_rfl, ?_⟩, fun _ => rfl⟩ ?_
    · intro w; go_simp; try with_reducible rfl
    refine wpAnyIn_take (i := 6) (v := .int .i64 ((x.1 % 8 : Nat) : Int)) rfl rfl (by kernel_rfl) (by kernel_rfl) (by kernel_rfl) (fun _ _ _ h => h) ⟨Or.inl ⟨by kernel_rfl, ?_⟩, fun _ => rfl⟩ ?_
    · intro w; go_simp; try first | with_reducible rfl | omega | simp
    refine wpAnyIn_take (i := 7) (v := .int .u8 ((2 ^ (x.1 % 8) : Nat) : Int)) rfl rfl (by kernel_rfl) (by kernel_rfl) (by kernel_rfl) (fun _ _ _ h => h) ⟨Or.inl ⟨by kernel_rfl, ?_⟩, fun _ => rfl⟩ ?_
    · intro w; go_simp
    refine wpAnyIn_ready (rs := [0]) (by kernel_rfl) (by simp) ?_
    refine AllReadyIn.cons rfl (fun K hK => ?_) ?_
    · go_simp
      refine hK _ _ ?_; clear hK K
      refine wpAnyIn_take (i := 3) (v := .pointer (some ⟨b, x.1 / 8, none⟩)) rfl rfl (by kernel_rfl) (by kernel_rfl) (by kernel_rfl) (fun _ _ _ h => h) ⟨Or.inl ⟨by kernel_rfl, ?_⟩, fun _ => rfl⟩ ?_
      · intro w; go_simp
      refine wpAnyIn_ready (rs := [4]) (by kernel_rfl) (by simp) ?_
      refine AllReadyIn.cons rfl (fun K hK => ?_) ?_
      · go_simp
        refine hK _ _ ?_; clear hK K
        refine wpAnyIn_take (i := 8) (v := .int .u8 ((byteP (fun m => pre.any (fun y => y.1 == m)) (x.1 / 8) ||| 2 ^ (x.1 % 8) : Nat) : Int)) rfl rfl (by kernel_rfl) (by kernel_rfl) (by kernel_rfl) (fun _ _ _ h => h) ⟨Or.inl ⟨by kernel_rfl, ?_⟩, fun _ => rfl⟩ ?_
        · intro w; go_simp
        refine wpAnyIn_take (i := 9) (v := .pointer (some ⟨b, x.1 / 8, none⟩)) rfl rfl (by kernel_rfl) (by kernel_rfl) (by kernel_rfl) (fun _ _ _ h => h) ⟨Or.inl ⟨by kernel_rfl, ?_⟩, fun _ => rfl⟩ ?_
        · intro w; go_simp
        refine wpAnyIn_ready (rs := [10]) (by kernel_rfl) (by simp) ?_
        refine AllReadyIn.cons rfl (fun K hK => ?_) ?_
        · go_simp
          refine hK _ _ ?_; clear hK K
          refine wpAnyIn_done (by kernel_rfl) ?_ _
          go_simp
          gi_wp2
          exact HFIN.out
        exact AllReadyIn.nil
      exact AllReadyIn.nil
    exact AllReadyIn.nil
  case done =>
    rintro D ys W hD rfl ⟨q0, q1, hr, hB⟩ hK
    clear b0 b1 b2 b3 hB0 hIn hX0 hR0
    have hnb := HNB.out
    have hLL := HL.out
    have hsz := hF3.size
    rw [show n3 = (st.length + 7) / 8 by omega, bitsM_sel] at hr
    rw [show n3 = (st.length + 7) / 8 by omega] at q1
    have hbW : ∀ k, k < w.heap.size + 1 → k < W.heap.size := fun k hk => by have := (Array.getElem?_eq_some_iff.1 hK).1; omega
    have hw3W : w3.heap.size < W.heap.size := q1.lt
    have hDW : D < W.heap.size := (Array.getElem?_eq_some_iff.1 hK).1
    have hbits := bitsM_length st
    clear hnb
    have hC0 : ∀ W', Below W.heap.size W W' → W'.cell? ⟨w.heap.size, 0, none⟩ = some (.pointer (some ⟨g, 0, none⟩)) ∧ W'.cell? ⟨g, 0, none⟩ = some (.int .i64 first) ∧ W'.cell? ⟨g, 1, none⟩ = some (.slice A n c) ∧ W'.cell? ⟨w3.heap.size, 0, none⟩ = some (.slice (some ⟨b, 0, none⟩) ((st.length + 7) / 8) c3) ∧
        (convert 22 9 (.slice (some ⟨b, 0, none⟩) ((st.length + 7) / 8) c3)).run Try.prog W' = .ok (.string (strOfNums (bitsM st))) W' ∧ W'.heap[D]? = some (.deferred (some [])) := fun W' hW' => by
      refine ⟨(hW'.cell (p := ⟨w.heap.size, 0, none⟩) (hbW w.heap.size (by omega))).trans q0.cell, (hW'.cell (p := ⟨g, 0, none⟩) (hbW g (by have := HG.out; omega))).trans ((hB.cell (p := ⟨g, 0, none⟩) HG.out).trans h0), (hW'.cell (p := ⟨g, 1, none⟩) (hbW g (by have := HG.out; omega))).trans ((hB.cell (p := ⟨g, 1, none⟩) HG.out).trans h1),
        (hW'.cell (p := ⟨w3.heap.size, 0, none⟩) hw3W).trans q1.cell, ?_, (hW'.block D hDW).trans hK⟩
      have R7 := Kd.R_reads' (Kd.R_below hr hW')
      have hcv := Kd.C_string (P := Try.prog) (c := c3) Try.underlying22 Try.underlying5 Try.underlying9 R7.2.2
      rw [← R7.1] at hcv
      exact hcv
    have HC := Aside0.mk hC0
    have HB := Aside0.mk hB
    have HF := Aside0.mk hf1
    obtain ⟨f, hff⟩ : ∃ f : Nat, first = (f : Int) := ⟨first.toNat, by omega⟩
    have HFF := Aside0.mk hff
    have hfl : f ≤ 1073741824 := by omega
    have hl1 := enc_len9 (n := f) (by omega)
    have hl2 := enc_len9 (n := n) (by omega)
    have hl3 := enc_len9 (n := (st.length + 7) / 8) (by omega)
    clear hC0 hB hr q0 q1 h0 h1 h0a h1a bx0 bx3 bx3a hf1 hff hK hF3 hT hLL
    go_wp2_with fail
    refine (newWriter_calls W.heap.size W (Nat.le_refl _)).mono ?_
    rintro e w5 ⟨rfl, W5, B5, s5⟩
    obtain ⟨cx, g0, g1, cb, cv, _⟩ := HC.out w5 B5
    have HWr := Aside0.mk W5
    have HBk := Aside0.mk B5
    have HN1 := Aside0.mk (number_ok W.heap.size W.heap.size _ [] f w5 W5 (fun _ h => h.elim) (by omega) (by omega) (by simp))
    rw [← HFF.out] at HN1
    clear W5 B5
    go_wp2_with fail
    refine HN1.out.mono ?_
    rintro e w6 ⟨rfl, W6, F6⟩
    have B6 := HBk.out.trans (F6.below (B := W.heap.size) (by rintro k (rfl | h); exact Nat.le_refl _; exact h.elim) HBk.out.size)
    clear HWr HBk F6 HN1 cx g0 g1 cb cv
    obtain ⟨cx, g0, g1, cb, cv, _⟩ := HC.out w6 B6
    have HWr := Aside0.mk W6.tight
    have HBk := Aside0.mk B6
    clear W6 B6
    go_wp2_with fail
    refine (number_ok W.heap.size W.heap.size _ _ n w6 HWr.out (fun _ h => ⟨h.2.1, h.2.2.2⟩) HBk.out.size (by omega) (by simp; omega)).mono ?_
    rintro e w7 ⟨rfl, W7, F7⟩
    have B7 := HBk.out.trans (F7.below (B := W.heap.size) (by rintro k (rfl | h); exact Nat.le_refl _; exact h.2.2.1) HBk.out.size)
    clear HWr HBk F7 cx g0 g1 cb cv
    obtain ⟨cx, g0, g1, cb, cv, _⟩ := HC.out w7 B7
    have HWr := Aside0.mk W7.tight
    have HBk := Aside0.mk B7
    clear W7 B7
    go_wp2_with fail
    refine (text_ok W.heap.size W.heap.size _ _ (strOfNums (bitsM st)) w7 HWr.out (fun _ h => ⟨h.2.1, h.2.2.2⟩) HBk.out.size (by rw [bitsM_size]; omega) (by simp [List.length_append]; omega)).mono ?_
    rintro e w8 ⟨rfl, W8, F8⟩
    have hbn : bytesOf (strOfNums (bitsM st)) = bitsM st := bytesOf_nums' _ (bitsP_bytes _ _)
    rw [bitsM_size, hbn] at W8
    clear hbn
    have B8 := HBk.out.trans (F8.below (B := W.heap.size) (by rintro k (rfl | h); exact Nat.le_refl _; exact h.2.2.1) HBk.out.size)
    clear HWr HBk F8 cx g0 g1 cb cv
    have HWr := Aside0.mk W8
    have HBk := Aside0.mk B8
    clear W8 B8
    go_wp2_with fail
    refine (bytes_ok W.heap.size W.heap.size _ _ w8 HWr.out (by simp [List.length_append]; omega)).mono ?_
    rintro e w9 ⟨v9, rfl, R9, B9⟩
    obtain ⟨A9, n9, c9, rfl⟩ := R_form' R9
    have B9' := below_step HBk.out B9
    have R9' := Kd.R_reads' R9
    have hcv := Kd.C_string (P := Try.prog) (c := c9) Try.underlying22 Try.underlying5 Try.underlying9 R9'.2.2
    rw [← R9'.1] at hcv
    have HBk2 := Aside0.mk B9'
    clear HWr HBk R9 B9 B9' R9'
    go_wp2
    have hK9 := (HC.out w9 HBk2.out).2.2.2.2.2
    refine ⟨by simp, .inl ⟨_, _, rfl, run_takeDeferred hK9, ?_⟩⟩
    refine ⟨_, results_tmp rfl _ _ _, ?_, (HB.out.trans (HBk2.out.mono HB.out.size)).grown (grownBy_putObj' _ D _) ?_ ?_⟩
    · have e1 : encM first st = enc f ++ (enc n ++ (enc ((st.length + 7) / 8) ++ bitsM st)) := by
        unfold encM
        rw [HFF.out, ← HL.out]
        rfl
      rw [e1]
      rfl
    · have := HB.out.size; have := HBk2.out.size; omega
    · intro k e
      cases e
      omega
  case stop =>
    rintro D c' pre W _ _ h _
    exact h.elim
end Go.Proofs.Ytbddllklagiajaa

namespace Go.Proofs.Ytbddllklagiajaa
open PBlocksEncodes
open Go.RowKit Go.Proofs.YtbddllklagiajaaW.PrintWords Go.Proofs.YtbddllklagiajaaW.PrintLast Go.Proofs.YtbddllklagiajaaW.PrintMore
set_option linter.unusedVariables false
set_option linter.unusedSimpArgs false

theorem knM1 : takeM 10 [0, 0, 0] = ([2, 0, 0], 10, 0) := by decide
theorem knM2 : takeM 10 [2, 0, 0] = ([2, 2, 0], 11, 0) := by decide
theorem knM3 : ([2, 2, 0] : List Int).map (nextM 0 1 1 0) = [1, 1, 0] := by decide
theorem knM4 : giveM 10 [1, 1, 0] 10 = ([3, 1, 0], 0) := by decide
theorem knM5 : takeM 10 [3, 1, 0] = ([3, 1, 2], 12, 0) := by decide
theorem knM6 : listM 10 [3, 1, 2] [1, 2] = [11, 12] := by decide
theorem knM7 : listM 10 [3, 1, 2] [1, 3] = [10, 11] := by decide
theorem knM8 : strOfNums (encM 10 [3, 1, 2]) = ⟨#[10, 3, 1, 6]⟩ := by
  have h1 : enc 10 = [10] := enc_small (by decide)
  have h2 : enc 3 = [3] := enc_small (by decide)
  have h3 : enc 1 = [1] := enc_small (by decide)
  have e : encM 10 [3, 1, 2] = enc 10 ++ (enc 3 ++ (enc 1 ++ bitsM [3, 1, 2])) := rfl
  rw [e, h1, h2, h3]
  decide +kernel
theorem knM9 : takeM 10 [3, 1, 2] = ([3, 1, 2], 0, 26) := by decide
theorem knM10 : ([3, 1, 2] : List Int).map (nextM 0 1 1 0) = [0, 1, 1] := by decide
theorem knM11 : takeM 10 [0, 1, 1] = ([2, 1, 1], 10, 0) := by decide

theorem wf3 (a b c : Int) (h : (0 ≤ a ∧ a ≤ 3) ∧ (0 ≤ b ∧ b ≤ 3) ∧ (0 ≤ c ∧ c ≤ 3)) : WfM 10 [a, b, c] := by
  refine ⟨by decide, by decide, by simp, by simp, ?_⟩
  intro s hs
  simp only [List.mem_cons, List.not_mem_nil, or_false] at hs
  rcases hs with rfl | rfl | rfl
  · exact h.1
  · exact h.2.1
  · exact h.2.2

set_option maxRecDepth 100000 in
set_option maxHeartbeats 4000000 in
theorem known12_calls (w : World) : Calls Try.prog 38 #[] w fun e w' => e = .returned (.bool true) ∧ Below w.heap.size w w' := by
  go_enter Try.func38, Try.ntmps38
  go_wp2_with fail
  refine (new_ok 10 3 w ⟨by omega, by omega, by omega, by omega⟩).mono ?_
  rintro e w1 ⟨g, rfl, M1, _, B1⟩
  have HM := Aside0.mk M1
  have HB := Aside0.mk B1
  clear M1 B1
  have hS : ∀ k, w.heap.size ≤ k → w.heap.size ≤ k := fun _ h => h
  go_wp2_with fail
  refine (take_calls w.heap.size g (fun k => w.heap.size ≤ k) 10 [0, 0, 0] w1 HM.out (wf3 _ _ _ (by decide))).mono ?_
  rintro e w2 ⟨rfl, M, F⟩
  rw [knM1] at M ⊢
  have B := HB.out.trans (F.below hS HB.out.size)
  clear HM HB F
  have HM := Aside0.mk M
  have HB := Aside0.mk B
  clear M B
  go_wp2_with fail
  refine (take_calls w.heap.size g (fun k => w.heap.size ≤ k) 10 [2, 0, 0] w2 HM.out (wf3 _ _ _ (by decide))).mono ?_
  rintro e w3 ⟨rfl, M, F⟩
  rw [knM2] at M ⊢
  have B := HB.out.trans (F.below hS HB.out.size)
  clear HM HB F
  have HM := Aside0.mk M
  have HB := Aside0.mk B
  clear M B
  go_wp2_with fail
  refine (commit_calls w.heap.size g (fun k => w.heap.size ≤ k) 10 [2, 2, 0] w3 HM.out (wf3 2 2 0 (by decide)).2.2.2.2 (by decide)).mono ?_
  rintro e w4 ⟨rfl, M, F⟩
  rw [knM3] at M
  have B := HB.out.trans (F.below hS HB.out.size)
  clear HM HB F
  have HM := Aside0.mk M
  have HB := Aside0.mk B
  clear M B
  go_wp2_with fail
  refine (give_calls w.heap.size g (fun k => w.heap.size ≤ k) 10 [1, 1, 0] w4 HM.out 10 (by decide) (by decide) (wf3 1 1 0 (by decide)).2.2.2.2).mono ?_
  rintro e w5 ⟨rfl, M, F⟩
  rw [knM4] at M ⊢
  have B := HB.out.trans (F.below hS HB.out.size)
  clear HM HB F
  have HM := Aside0.mk M
  have HB := Aside0.mk B
  clear M B
  go_wp2_with fail
  refine (take_calls w.heap.size g (fun k => w.heap.size ≤ k) 10 [3, 1, 0] w5 HM.out (wf3 _ _ _ (by decide))).mono ?_
  rintro e w6 ⟨rfl, M, F⟩
  rw [knM5] at M ⊢
  have B := HB.out.trans (F.below hS HB.out.size)
  clear HM HB F
  have HM := Aside0.mk M
  have HB := Aside0.mk B
  clear M B
  go_wp2_with fail
  refine (used_calls w.heap.size g (fun k => w.heap.size ≤ k) 10 [3, 1, 2] w6 HM.out (wf3 _ _ _ (by decide))).mono ?_
  rintro e w7 ⟨v7, rfl, R, B⟩
  rw [knM6] at R
  obtain ⟨A7, n7, c7, rfl⟩ := R_form' R
  have M := HM.out.fresh (B.mono HB.out.size |> fun _ => B)
  have B' := below_step HB.out B
  have hb := blk_new w7 (.cells #[.int .i64 11, .int .i64 12] 3)
  have R2 := Kd.R_reads' (Kd.R_alloc R (.cells #[.int .i64 11, .int .i64 12] 3))
  have hn : n7 = 2 := R2.1
  subst hn
  have HS := Aside0.mk (replevinref12_Same.calls 10 A7 c7 [11, 12] (some ⟨w7.heap.size, 0, none⟩) 2 [11, 12] true (w7.alloc (.cells #[.int .i64 11, .int .i64 12] 3)) R2.2.2 R2.2.1 (blk_reads hb rfl (by decide)) (by decide) (by rw [same_f _ _ (by decide) 10 (by decide)]; rfl))
  clear HM HB R R2 hb B
  have HM := Aside0.mk M
  have HB := Aside0.mk B'
  clear M B'
  go_wp2_with fail
  refine HS.out.mono ?_
  rintro e w8 ⟨rfl, D⟩
  have B := (below_alloc (Below.refl _ _) _).trans (D.below.mono (by simp))
  have M := HM.out.fresh B
  have B' := below_step HB.out B
  clear HM HB HS D B
  have HM := Aside0.mk M
  have HB := Aside0.mk B'
  clear M B'
  go_wp2_with fail
  refine (old_calls w.heap.size g (fun k => w.heap.size ≤ k) 10 [3, 1, 2] w8 HM.out (wf3 _ _ _ (by decide))).mono ?_
  rintro e w9 ⟨v9, rfl, R, B⟩
  rw [knM7] at R
  obtain ⟨A9, n9, c9, rfl⟩ := R_form' R
  have M := HM.out.fresh (B.mono HB.out.size |> fun _ => B)
  have B' := below_step HB.out B
  have hb := blk_new w9 (.cells #[.int .i64 10, .int .i64 11] 3)
  have R2 := Kd.R_reads' (Kd.R_alloc R (.cells #[.int .i64 10, .int .i64 11] 3))
  have hn : n9 = 2 := R2.1
  subst hn
  have HS := Aside0.mk (replevinref12_Same.calls 10 A9 c9 [10, 11] (some ⟨w9.heap.size, 0, none⟩) 2 [10, 11] true (w9.alloc (.cells #[.int .i64 10, .int .i64 11] 3)) R2.2.2 R2.2.1 (blk_reads hb rfl (by decide)) (by decide) (by rw [same_f _ _ (by decide) 10 (by decide)]; rfl))
  clear HM HB R R2 hb B
  have HM := Aside0.mk M
  have HB := Aside0.mk B'
  clear M B'
  go_wp2_with fail
  refine HS.out.mono ?_
  rintro e w10 ⟨rfl, D⟩
  have B := (below_alloc (Below.refl _ _) _).trans (D.below.mono (by simp))
  have M := HM.out.fresh B
  have B' := below_step HB.out B
  clear HM HB HS D B
  have HM := Aside0.mk M
  have HB := Aside0.mk B'
  clear M B'
  go_wp2_with fail
  refine (encode_calls w.heap.size g (fun k => w.heap.size ≤ k) 10 [3, 1, 2] w10 HM.out (wf3 _ _ _ (by decide))).mono ?_
  rintro e w11 ⟨rfl, B⟩
  rw [knM8]
  have M := HM.out.fresh B
  have B' := below_step HB.out B
  clear HM HB B
  have HM := Aside0.mk M
  have HB := Aside0.mk B'
  clear M B'
  go_wp2_with fail
  refine (take_calls w.heap.size g (fun k => w.heap.size ≤ k) 10 [3, 1, 2] w11 HM.out (wf3 _ _ _ (by decide))).mono ?_
  rintro e w12 ⟨rfl, M, F⟩
  rw [knM9] at M ⊢
  have B := HB.out.trans (F.below hS HB.out.size)
  clear HM HB F
  have HM := Aside0.mk M
  have HB := Aside0.mk B
  clear M B
  go_wp2_with fail
  refine (commit_calls w.heap.size g (fun k => w.heap.size ≤ k) 10 [3, 1, 2] w12 HM.out (wf3 3 1 2 (by decide)).2.2.2.2 (by decide)).mono ?_
  rintro e w13 ⟨rfl, M, F⟩
  rw [knM10] at M
  have B := HB.out.trans (F.below hS HB.out.size)
  clear HM HB F
  have HM := Aside0.mk M
  have HB := Aside0.mk B
  clear M B
  go_wp2_with fail
  refine (take_calls w.heap.size g (fun k => w.heap.size ≤ k) 10 [0, 1, 1] w13 HM.out (wf3 _ _ _ (by decide))).mono ?_
  rintro e w14 ⟨rfl, M, F⟩
  rw [knM11] at M ⊢
  have B := HB.out.trans (F.below hS HB.out.size)
  clear HM HB F
  have HM := Aside0.mk M
  have HB := Aside0.mk B
  clear M B
  go_wp2
  go_ret
  exact ⟨rfl, HB.out⟩
end Go.Proofs.Ytbddllklagiajaa
