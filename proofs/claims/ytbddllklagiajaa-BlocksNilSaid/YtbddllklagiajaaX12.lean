/- The methods of a nil map. -/
import Derived.Test.YtbddllklagiajaaX10
namespace Go.Proofs.Ytbddllklagiajaa
open Go.RowKit Go.Shelf Go.Proofs.YtbddllklagiajaaW.PrintWords Go.Proofs.YtbddllklagiajaaW.PrintLast Go.Proofs.YtbddllklagiajaaW.PrintMore
set_option linter.unusedVariables false
set_option linter.unusedSimpArgs false
attribute [local go_sem] Oper.semAt_some

theorem first_nil (w : World) : Calls Try.prog 47 #[.pointer none] w fun e w' => e = .returned (.int .i64 0) ∧ w' = w := by
  go_enter Try.func47, Try.ntmps47
  go_wp2
  go_ret
  exact ⟨rfl, rfl⟩
theorem count_nil (w : World) : Calls Try.prog 48 #[.pointer none] w fun e w' => e = .returned (.int .i64 0) ∧ w' = w := by
  go_enter Try.func48, Try.ntmps48
  go_wp2
  go_ret
  exact ⟨rfl, rfl⟩
set_option maxRecDepth 100000 in
theorem equal_nil2 (w : World) : Calls Try.prog 59 #[.pointer none, .pointer none] w fun e w' => e = .returned (.bool true) ∧ w' = w := by
  go_enter Try.func59, Try.ntmps59
  go_wp2
  go_ret
  exact ⟨rfl, rfl⟩
set_option maxRecDepth 100000 in
theorem equal_nil_l (g : Nat) (w : World) : Calls Try.prog 59 #[.pointer none, .pointer (some ⟨g, 0, none⟩)] w fun e w' => e = .returned (.bool false) ∧ w' = w := by
  have hcmp : ∀ W, (Go.binOp .eql 60 (.pointer none) (.pointer (some ⟨g, 0, none⟩))).run Try.prog W = .ok (.bool false) W := by
    intro W
    rfl
  go_enter Try.func59, Try.ntmps59
  go_wp2
  go_ret
  exact ⟨rfl, rfl⟩
set_option maxRecDepth 100000 in
theorem equal_nil_r (g : Nat) (w : World) : Calls Try.prog 59 #[.pointer (some ⟨g, 0, none⟩), .pointer none] w fun e w' => e = .returned (.bool false) ∧ w' = w := by
  go_enter Try.func59, Try.ntmps59
  go_wp2
  go_ret
  exact ⟨rfl, rfl⟩
set_option maxRecDepth 100000 in
theorem encode_nil (w : World) : Calls Try.prog 61 #[.pointer none] w fun e w' => e = .returned (.string ⟨#[]⟩) ∧ Below w.heap.size w w' := by
  go_enter Try.func61, Try.ntmps61
  go_wp2
  go_ret
  exact ⟨rfl, below_alloc (Below.refl _ _) _⟩

set_option maxRecDepth 100000 in
set_option maxHeartbeats 4000000 in
theorem in1_nil (N : Nat) (hN : 1 ≤ N) (l B1 B2 : Nat) (W : World) (h : W.cell? ⟨B1, 0, none⟩ = some (.pointer none)) :
    CallsIn Fence.wide N Try.prog 103 #[.func (.yield l) #[] #[], .pointer (some ⟨B1, 0, none⟩), .pointer (some ⟨B2, 0, none⟩)] W fun e W' => (∃ v, e = .returned v) ∧ W' = W := by
  refine callsIn_of_wp Try.func103 rfl trivial ?_ rfl
  simp only [Try.ntmps103, List.size_toArray, List.length_cons, List.length_nil, Nat.reduceAdd, Nat.reduceSub, Array.replicate_succ, Array.replicate_zero, List.push_toArray, List.append_toArray, List.nil_append, List.cons_append]
  gi_wp2_with fail
  refine ⟨trivial, (callsIn_wide.2 (count_nil W)).mono ?_⟩
  rintro e w' ⟨rfl, rfl⟩
  gi_wp2
  gi_loopw [7] (fun i wr => i = .int .i64 0 ∧ wr = w') (fun _ _ => 0)
  case atStart => exact ⟨rfl, rfl⟩
  case round =>
    obtain ⟨rfl, rfl⟩ := hrel
    gi_wp2
    go_end0
    exact ⟨⟨_, rfl⟩, rfl⟩

theorem nil_stops (N : Nat) (hN : 1 ≤ N) {w : World} {B1 B2 : Nat} (h : w.cell? ⟨B1, 0, none⟩ = some (.pointer none)) :
    SeqStopsK Fence.wide N Try.prog 103 #[.pointer (some ⟨B1, 0, none⟩), .pointer (some ⟨B2, 0, none⟩)] (fun i : Fin 0 => (#[Value.int .i64 0] : Array Value)) (fun _ _ => True) (fun ys => ys = []) (fun _ => False) 0 w := fun l J Jx W hW hJ hJx hY h0 =>
  (in1_nil N hN l B1 B2 W ((hW.cell (p := ⟨B1, 0, none⟩) (cell_lt h)).trans h)).mono (by rintro e W' ⟨he, rfl⟩; exact ⟨he, .inl ⟨[], rfl, h0⟩⟩)

set_option maxRecDepth 100000 in
set_option maxHeartbeats 4000000 in
theorem number_nil (s : Int) (w : World) : Calls Try.prog 46 #[.pointer none, .int .i64 s] w fun e w' => e = .returned (.int .i64 0) ∧ Below w.heap.size w w' := by
  refine (callsIn_wide (n := 3)).1 ?_
  refine callsIn_of_wp_marks Try.func46 rfl trivial ?_ rfl
  simp only [Try.ntmps46, List.size_toArray, List.length_cons, List.length_nil, Nat.reduceAdd, Nat.reduceSub, Array.replicate_succ, Array.replicate_zero, List.push_toArray, List.append_toArray, List.nil_append, List.cons_append]
  gi_wp2_with (refine ⟨trivial, ?_⟩; gi_at_call 87; refine (in_calls _ _ _ _ _ _).mono ?_; rintro e w' ⟨rfl, rfl⟩)
  have bN : Boxed ((((w.alloc (.cells #[.int .i64 0] 3)).alloc (.cells #[.int .i64 s] 3)).alloc (.cells #[.pointer none] 60)).alloc (.cells #[.slice (some ⟨w.heap.size + 1, 0, none⟩) 1 1] 61)) w.heap.size 3 (.int .i64 0) := (((Boxed.new w 3 _).alloc _).alloc _).alloc _
  have bM : Boxed ((((w.alloc (.cells #[.int .i64 0] 3)).alloc (.cells #[.int .i64 s] 3)).alloc (.cells #[.pointer none] 60)).alloc (.cells #[.slice (some ⟨w.heap.size + 1, 0, none⟩) 1 1] 61)) (w.heap.size + 1 + 1) 60 (.pointer none) := by
    have := Boxed.new ((w.alloc (.cells #[.int .i64 0] 3)).alloc (.cells #[.int .i64 s] 3)) 60 (.pointer none)
    rw [World.size_alloc, World.size_alloc] at this
    exact this.alloc _
  have hB0 : Below w.heap.size w ((((w.alloc (.cells #[.int .i64 0] 3)).alloc (.cells #[.int .i64 s] 3)).alloc (.cells #[.pointer none] 60)).alloc (.cells #[.slice (some ⟨w.heap.size + 1, 0, none⟩) 1 1] 61)) := below_alloc (below_alloc (below_alloc (below_alloc (Below.refl _ w) _) _) _) _
  have hs0 : ((((w.alloc (.cells #[.int .i64 0] 3)).alloc (.cells #[.int .i64 s] 3)).alloc (.cells #[.pointer none] 60)).alloc (.cells #[.slice (some ⟨w.heap.size + 1, 0, none⟩) 1 1] 61)).heap.size = w.heap.size + 4 := by simp
  obtain ⟨w0, hw0⟩ : ∃ w0, ((((w.alloc (.cells #[.int .i64 0] 3)).alloc (.cells #[.int .i64 s] 3)).alloc (.cells #[.pointer none] 60)).alloc (.cells #[.slice (some ⟨w.heap.size + 1, 0, none⟩) 1 1] 61)) = w0 := ⟨_, rfl⟩
  rw [hw0] at bN bM hB0 hs0 ⊢
  clear hw0
  refine wpIn_rangeFunc_ownF rfl (by omega) (gf := 103) (lb := #[.pointer (some ⟨w.heap.size + 1 + 1, 0, none⟩), .pointer (some ⟨w.heap.size + 1 + 1 + 1, 0, none⟩)]) rfl trivial (enters_of Try.func103 (by kernel_rfl) rfl)
    (nil_stops 2 (by omega) bM.cell) (fun _ _ => trivial) (fun _ _ _ _ _ _ _ _ => trivial) (Below.refl _ _) (fun x => x.elim0)
    (fun pre W => Boxed W w.heap.size 3 (.int .i64 0) ∧ Below w.heap.size w W)
    (fun _ _ _ => False)
    (OwnFrom.and (boxed_ownFrom (by omega)) (ownFrom_below (Nat.le_refl _) (by omega)))
    (fun _ _ _ _ _ hs _ _ => hs)
    ⟨bN, hB0⟩ (fun x => x.elim0) ?assign ?body ?done ?stop
  case assign => exact fun l x => x.elim0
  case body => exact fun l pre x => x.elim0
  case done =>
    rintro D ys W hD rfl ⟨hb, hB⟩ hK
    have hc := hb.cell
    gi_wp2
    refine ⟨by simp, .inl ⟨_, _, rfl, run_takeDeferred hK, ?_⟩⟩
    exact ⟨_, results_tmp rfl _ _ _, rfl, hB.trans (belowK_b (w := w) (Nat.le_refl _) W D _ _ (by omega) hK rfl rfl)⟩
  case stop =>
    rintro D c pre W _ h _ _
    exact h.elim

set_option maxRecDepth 100000 in
set_option maxHeartbeats 4000000 in
theorem appendSeq_nil {w : World} {B1 B2 : Nat} (h : w.cell? ⟨B1, 0, none⟩ = some (.pointer none)) :
    Calls Try.prog 102 #[.slice none 0 0, .func (.func 103) #[] #[.pointer (some ⟨B1, 0, none⟩), .pointer (some ⟨B2, 0, none⟩)]] w fun e w' => e = .returned (.slice none 0 0) ∧ Below w.heap.size w w' := by
  have hlt := cell_lt h
  refine (callsIn_wide (n := 3)).1 ?_
  refine callsIn_of_wp_marks Try.func102 rfl trivial ?_ rfl
  simp only [Try.ntmps102, List.size_toArray, List.length_cons, List.length_nil, Nat.reduceAdd, Nat.reduceSub, Array.replicate_succ, Array.replicate_zero, List.push_toArray, List.append_toArray, List.nil_append, List.cons_append]
  gi_wp2
  have bO := Boxed.new w 61 (.slice none 0 0)
  have hB0 : Below w.heap.size w (w.alloc (.cells #[.slice none 0 0] 61)) := below_alloc (Below.refl _ w) _
  have hs0 : (w.alloc (.cells #[.slice none 0 0] 61)).heap.size = w.heap.size + 1 := by simp
  have hc0 : (w.alloc (.cells #[.slice none 0 0] 61)).cell? ⟨B1, 0, none⟩ = some (.pointer none) := (hB0.cell (p := ⟨B1, 0, none⟩) hlt).trans h
  obtain ⟨w0, hw0⟩ : ∃ w0, w.alloc (.cells #[.slice none 0 0] 61) = w0 := ⟨_, rfl⟩
  rw [hw0] at bO hB0 hs0 hc0 ⊢
  clear hw0
  refine wpIn_rangeFunc_ownF rfl (by omega) (gf := 103) (lb := #[.pointer (some ⟨B1, 0, none⟩), .pointer (some ⟨B2, 0, none⟩)]) rfl trivial (enters_of Try.func103 (by kernel_rfl) rfl)
    (nil_stops 2 (by omega) hc0) (fun _ _ => trivial) (fun _ _ _ _ _ _ _ _ => trivial) (Below.refl _ _) (fun x => x.elim0)
    (fun pre W => Boxed W w.heap.size 61 (.slice none 0 0) ∧ Below w.heap.size w W)
    (fun _ _ _ => False)
    (OwnFrom.and (boxed_ownFrom (by omega)) (ownFrom_below (Nat.le_refl _) (by omega)))
    (fun _ _ _ _ _ hs _ _ => hs)
    ⟨bO, hB0⟩ (fun x => x.elim0) ?assign ?body ?done ?stop
  case assign => exact fun l x => x.elim0
  case body => exact fun l pre x => x.elim0
  case done =>
    rintro D ys W hD rfl ⟨hb, hB⟩ hK
    have hc := hb.cell
    gi_wp2
    refine ⟨by simp, .inl ⟨_, _, rfl, run_takeDeferred hK, ?_⟩⟩
    exact ⟨_, results_tmp rfl _ _ _, rfl, hB.trans (belowK_b (w := w) (Nat.le_refl _) W D _ _ (by omega) hK rfl rfl)⟩
  case stop =>
    rintro D c pre W _ h _ _
    exact h.elim
theorem collect_nil {w : World} {B1 B2 : Nat} (h : w.cell? ⟨B1, 0, none⟩ = some (.pointer none)) :
    Calls Try.prog 86 #[.func (.func 103) #[] #[.pointer (some ⟨B1, 0, none⟩), .pointer (some ⟨B2, 0, none⟩)]] w fun e w' => e = .returned (.slice none 0 0) ∧ Below w.heap.size w w' := by
  have HX := Aside0.mk (appendSeq_nil (B2 := B2) h)
  clear h
  go_enter Try.func86, Try.ntmps86
  go_wp2_with fail
  refine HX.out.mono ?_
  rintro e w1 ⟨rfl, h1⟩
  have H1 := Aside0.mk h1
  clear h1
  go_wp2
  go_ret
  exact ⟨rfl, H1.out⟩
theorem pair_nil (b : Int) (w : World) : Calls Try.prog 86 #[.func (.func 103) #[] #[.pointer (some ⟨w.heap.size + 1, 0, none⟩), .pointer (some ⟨w.heap.size + 1 + 1, 0, none⟩)]] (((w.alloc (.cells #[.int .i64 1, .int .i64 b] 3)).alloc (.cells #[.pointer none] 60)).alloc (.cells #[.slice (some ⟨w.heap.size, 0, none⟩) 2 2] 61)) fun e w' => e = .returned (.slice none 0 0) ∧ Below w.heap.size w w' := by
  have b1 : (((w.alloc (.cells #[.int .i64 1, .int .i64 b] 3)).alloc (.cells #[.pointer none] 60)).alloc (.cells #[.slice (some ⟨w.heap.size, 0, none⟩) 2 2] 61)).heap[w.heap.size + 1]? = some (.cells #[.pointer none] 60 (0, 0)) := by
    have := blk_new (w.alloc (.cells #[.int .i64 1, .int .i64 b] 3)) (.cells #[.pointer none] 60)
    rw [World.size_alloc] at this
    exact blk_alloc this _
  have hB0 : Below w.heap.size w (((w.alloc (.cells #[.int .i64 1, .int .i64 b] 3)).alloc (.cells #[.pointer none] 60)).alloc (.cells #[.slice (some ⟨w.heap.size, 0, none⟩) 2 2] 61)) := below_alloc (below_alloc (below_alloc (Below.refl _ w) _) _) _
  refine (collect_nil (blk_cell b1 0)).mono ?_
  rintro e w' ⟨rfl, h2⟩
  exact ⟨rfl, hB0.trans (h2.mono (by simp; omega))⟩
set_option maxHeartbeats 1000000 in
theorem used_nil (w : World) : Calls Try.prog 44 #[.pointer none] w fun e w' => e = .returned (.slice none 0 0) ∧ Below w.heap.size w w' := by
  have HX := Aside0.mk (pair_nil 2 w)
  go_enter Try.func44, Try.ntmps44
  go_wp2_with fail
  refine (callsIn_wide.1 (in_calls 1 _ _ _ _ _)).mono ?_
  rintro e w1 ⟨rfl, rfl⟩
  go_wp2_with fail
  refine HX.out.mono ?_
  rintro e w1 ⟨rfl, h1⟩
  have H1 := Aside0.mk h1
  clear h1
  go_wp2
  go_ret
  exact ⟨rfl, H1.out⟩
set_option maxHeartbeats 1000000 in
theorem old_nil (w : World) : Calls Try.prog 43 #[.pointer none] w fun e w' => e = .returned (.slice none 0 0) ∧ Below w.heap.size w w' := by
  have HX := Aside0.mk (pair_nil 3 w)
  go_enter Try.func43, Try.ntmps43
  go_wp2_with fail
  refine (callsIn_wide.1 (in_calls 1 _ _ _ _ _)).mono ?_
  rintro e w1 ⟨rfl, rfl⟩
  go_wp2_with fail
  refine HX.out.mono ?_
  rintro e w1 ⟨rfl, h1⟩
  have H1 := Aside0.mk h1
  clear h1
  go_wp2
  go_ret
  exact ⟨rfl, H1.out⟩
end Go.Proofs.Ytbddllklagiajaa
