/- The iterator of package blocks, (*Map).in. Pure laws: the bits of a map's encoding. The iterator's contract, and what its callers use; (*Map).in and (*Map).Number. -/
import Derived.Test.YtbddllklagiajaaX2
import Derived.RangeFuncNested
import Derived.RangeFuncBound
import Derived.RangeFuncCalls
import Derived.RangeFuncLeaves
import Derived.Shelf.Abstract
import Derived.Shelf.RegionOpen
import Derived.WalkKit
import Derived.OwnWalkIn
import Derived.TacticsInMore
import Derived.LoopNIn
import Derived.LoopIn
import Derived.Stop.RegionWithIn
import Derived.RangeFuncFrom
import Derived.RangeFuncWrites
import Derived.RangeFuncBox
import Derived.Maps.AppendAt
namespace Go.Proofs.Ytbddllklagiajaa
open Go.RowKit Go.Shelf Go.Proofs.YtbddllklagiajaaW.PrintWords Go.Proofs.YtbddllklagiajaaW.PrintLast Go.Proofs.YtbddllklagiajaaW.PrintMore
set_option linter.unusedVariables false
set_option linter.unusedSimpArgs false
attribute [local go_sem] Oper.semAt_some

/-- What the iterator reads, in every world in which the blocks of T are as they are now. -/
structure InAt (T : Nat → Prop) (w : World) (B1 B2 g : Nat) (first : Int) (A : Option Addr) (n c : Nat) (st : List Int) (As : Option Addr) (ns cs : Nat) (ss : List Int) : Prop where
  len : st.length = n
  lens : ss.length = ns
  all : ∀ W, Kept w W (fun k => ¬ T k) → W.cell? ⟨B1, 0, none⟩ = some (.pointer (some ⟨g, 0, none⟩)) ∧ W.cell? ⟨B2, 0, none⟩ = some (.slice As ns cs) ∧
    W.cell? ⟨g, 0, none⟩ = some (.int .i64 first) ∧ W.cell? ⟨g, 1, none⟩ = some (.slice A n c) ∧ KB.C W A n st ∧ KI.C W As ns ss
  mp : ∀ W, Kept w W (fun k => ¬ T k) → Calls Try.prog 48 #[.pointer (some ⟨g, 0, none⟩)] W fun e w' => e = .returned (.int .i64 (n : Int)) ∧ w' = W

/-- What a round that goes on keeps. -/
def KpT (T : Nat → Prop) (A B : World) : Prop := Frm A B (fun k => ¬ T k)

/-- The places whose states are among some. -/
def selM (st ss : List Int) (n : Nat) : List (Fin n) := (List.finRange n).filter (fun i => decide (st.getD i.1 0 ∈ ss))

set_option maxRecDepth 100000 in
set_option maxHeartbeats 4000000 in
theorem in1_in (N : Nat) (hN : 1 ≤ N) (l : Nat) (T : Nat → Prop) (B1 B2 g : Nat) (first : Int) (A : Option Addr) (n c : Nat) (st : List Int) (As : Option Addr) (ns cs : Nat) (ss : List Int) (J Jx : List (Fin n) → World → Prop)
    (W : World) (h : InAt T W B1 B2 g first A n c st As ns cs ss) (hn : n ≤ 65536) (hns : ns ≤ 1000) (hf : 0 ≤ first ∧ first ≤ 1073741824) (hst : ∀ s ∈ st, 0 ≤ s ∧ s ≤ 3)
    (hY : ∀ pre x W, J pre W → pre.length < n → YieldAt Fence.wide (N - 1) Try.prog l #[.int .i64 (first + (x.1 : Int))] W fun e W' =>
      (e = .returned (.bool true) ∧ J (pre ++ [x]) W' ∧ KpT T W W') ∨ (e = .returned (.bool false) ∧ Jx (pre ++ [x]) W'))
    (hJd : ∀ pre W, J pre W → J pre W.drew) (h0 : J [] W) :
    CallsIn Fence.wide N Try.prog 103 #[.func (.yield l) #[] #[], .pointer (some ⟨B1, 0, none⟩), .pointer (some ⟨B2, 0, none⟩)] W fun e W' => (∃ v, e = .returned v) ∧
      ((∃ ys, ys = selM st ss n ∧ J ys W') ∨ (∃ pre, pre <+: selM st ss n ∧ Jx pre W')) := by
  have HA := Aside0.mk h.all
  have HM := Aside0.mk h.mp
  have HL := Aside0.mk h.len
  have HLS := Aside0.mk h.lens
  have HJ := Aside0.mk h0
  have HY := Aside0.mk hY
  have HST := Aside0.mk hst
  obtain ⟨b1, b2, b3, b4, _, _⟩ := h.all W (Kept.refl W _)
  clear h h0 hY hst
  refine callsIn_of_wp Try.func103 rfl trivial ?_ rfl
  simp only [Try.ntmps103, List.size_toArray, List.length_cons, List.length_nil, Nat.reduceAdd, Nat.reduceSub, Array.replicate_succ, Array.replicate_zero, List.push_toArray, List.append_toArray, List.nil_append, List.cons_append]
  gi_wp2_with fail
  refine ⟨trivial, (callsIn_wide.2 (HM.out W (Kept.refl W _))).mono ?_⟩
  rintro e w' ⟨rfl, rfl⟩
  clear b1 b2 b3 b4
  gi_wp2
  gi_loopw [7] (fun i wr => ∃ k : Nat, k ≤ n ∧ i = .int .i64 k ∧ J (((List.finRange n).take k).filter (fun i => decide (st.getD i.1 0 ∈ ss))) wr ∧ Kept w' wr (fun k => ¬ T k))
    (fun i _ => n - (intOf i).toNat)
  case atStart => exact ⟨0, Nat.zero_le _, rfl, by simpa using HJ.out, Kept.refl _ _⟩
  case round =>
    obtain ⟨k, hk, rfl, hJs, hkp⟩ := hrel
    obtain ⟨b1, b2, b3, b4, b5, b6⟩ := HA.out wr hkp
    by_cases hlt : k < n
    · obtain ⟨ad, e, hx⟩ := Kd.at_int b5 k (by omega) (by omega)
      subst e
      rw [rd_nat, Int.toNat_natCast] at hx
      obtain ⟨s, hs⟩ : ∃ s, st.getD k 0 = s := ⟨_, rfl⟩
      rw [hs] at hx
      have hs2 : 0 ≤ s ∧ s ≤ 3 := by
        rw [← hs]
        refine HST.out _ ?_
        rw [List.getD_eq_getElem?_getD, List.getElem?_eq_getElem (by rw [HL.out]; exact hlt)]
        exact List.getElem_mem _
      have hws : IntKind.i64.wrap s = s := by rw [IntKind.wrap_i64]; omega
      have HX := Aside0.mk (fun W' (hW : Kept wr W' (fun k => ¬ T k)) => contains_calls As ns cs ss s W' HLS.out (HA.out W' (Kept.then_ hkp hW (fun _ h => .inl h))).2.2.2.2.2 (by omega))
      have hwk : IntKind.i64.wrap (first + (k : Int)) = first + (k : Int) := by rw [IntKind.wrap_i64]; omega
      clear b5 b6
      have hd1 : wr.drew.cell? ⟨B1, 0, none⟩ = some (.pointer (some ⟨g, 0, none⟩)) := b1
      obtain ⟨pre, hpre⟩ : ∃ pre, ((List.finRange n).take k).filter (fun i => decide (st.getD i.1 0 ∈ ss)) = pre := ⟨_, rfl⟩
      have hpl : pre.length < n := by
        have := List.length_filter_le (fun i : Fin n => decide (st.getD i.1 0 ∈ ss)) ((List.finRange n).take k)
        rw [hpre, List.length_take, List.length_finRange] at this
        omega
      rw [hpre] at hJs
      obtain ⟨fn, tmps, assign, body, hy, hR⟩ := HY.out pre ⟨k, hlt⟩ wr.drew (hJd _ _ hJs) hpl
      have hR2 := hR.mono (R' := fun e W' => ∃ b : Bool, e = .returned (.bool b) ∧ ((b = true ∧ J (pre ++ [⟨k, hlt⟩]) W' ∧ KpT T wr.drew W') ∨ (b = false ∧ Jx (pre ++ [⟨k, hlt⟩]) W'))) (by
        rintro e W' (⟨rfl, h1, h2⟩ | ⟨rfl, h1⟩)
        · exact ⟨true, rfl, .inl ⟨rfl, h1, h2⟩⟩
        · exact ⟨false, rfl, .inr ⟨rfl, h1⟩⟩)
      clear hR
      have HX2 := Aside0.mk (HX.out wr.drew ⟨Nat.le_refl _, fun _ _ _ => rfl⟩)
      dsimp only at hy
      have htk : (List.finRange n).take (k + 1) = (List.finRange n).take k ++ [⟨k, hlt⟩] := by
        rw [List.take_succ_eq_append_getElem (by rw [List.length_finRange]; exact hlt)]
        simp
      by_cases hin : s ∈ ss
      · rw [decide_eq_true hin] at HX2
        have hnext : ((List.finRange n).take (k + 1)).filter (fun i => decide (st.getD i.1 0 ∈ ss)) = pre ++ [⟨k, hlt⟩] := by
          rw [htk, List.filter_append, hpre]
          simp only [List.filter_cons, List.filter_nil]
          rw [hs, decide_eq_true hin]
          rfl
        have HNX := Aside0.mk hnext
        have HKP := Aside0.mk hkp
        have hpf : pre ++ [⟨k, hlt⟩] <+: selM st ss n := by
          unfold selM
          rw [← hnext]
          exact List.IsPrefix.filter _ (List.take_prefix _ _)
        have HPF := Aside0.mk hpf
        clear hnext hkp hpf htk hpre
        gi_wp2_with fail
        gi_region_with (first | (refine ⟨trivial, ?_⟩; gi_at_call 104; refine (callsIn_wide.2 HX2.out).mono ?_; rintro e w1 ⟨rfl, rfl⟩) | (refine hR2.mono ?_; rintro e W3 ⟨b, rfl, hb⟩; have HB := Aside0.mk hb; clear hb))
        all_goals (rcases HB.out with ⟨rfl, h1, h2⟩ | ⟨rfl, h1⟩)
        all_goals (have H1 := Aside0.mk h1; clear h1 HB)
        all_goals (first | (have H2 := Aside0.mk h2; clear h2) | skip)
        all_goals (gi_wp2)
        all_goals first
          | (refine bodyPost_ret (results_none rfl _ _ _) rfl ?_
             exact ⟨⟨_, rfl⟩, .inr ⟨_, HPF.out, H1.out⟩⟩)
          | (go_roundw
             case rel => exact ⟨k + 1, by omega, by simp, by rw [HNX.out]; exact H1.out, HKP.out.then_ (S2 := fun k => ¬ T k) ⟨(Frm.kept H2.out).1, (Frm.kept H2.out).2⟩ (fun _ h => .inl h)⟩
             case measure => simp [intOf]; omega)
      · rw [decide_eq_false hin] at HX2
        have hnext : ((List.finRange n).take (k + 1)).filter (fun i => decide (st.getD i.1 0 ∈ ss)) = pre := by
          rw [htk, List.filter_append, hpre]
          simp only [List.filter_cons, List.filter_nil]
          rw [hs, decide_eq_false hin]
          simp
        have HNX := Aside0.mk hnext
        have HKP := Aside0.mk hkp
        have HJ2 := Aside0.mk (hJd _ _ hJs)
        clear hnext hkp htk hpre hR2 hy hJs
        gi_wp2_with fail
        refine wpIn_region_any (by kernel_rfl) ?_
        change wpAnyIn _ _ _ _ _ _ _ _ _ (World.drew _)
        refine wpAnyIn_take (i := 5) (v := .int .i64 (k : Int)) rfl rfl (by kernel_rfl) (by kernel_rfl) (by kernel_rfl) (fun _ _ _ h => h) ⟨Or.inl ⟨by kernel_rfl, ?_⟩, fun _ => rfl⟩ ?_
        · intro w; go_simp; try with_reducible rfl
        refine wpAnyIn_ready (rs := [0, 1]) (by kernel_rfl) (by simp) ?_
        refine AllReadyIn.cons rfl (fun K hK => ?_) ?_
        · go_simp
          refine hK _ _ ?_; clear hK K
          refine wpAnyIn_ready (rs := [1]) (by kernel_rfl) (by simp) ?_
          refine AllReadyIn.cons rfl (fun K hK => ?_) ?_
          · go_simp
            refine hK _ _ ?_; clear hK K
            refine wpAnyIn_take (i := 2) (v := .pointer (some ⟨g, 0, none⟩)) rfl rfl (by kernel_rfl) (by kernel_rfl) (by kernel_rfl) (fun _ _ _ h => h) ⟨Or.inl ⟨by kernel_rfl, ?_⟩, fun _ => rfl⟩ ?_
            · intro w; go_simp; try with_reducible rfl
            refine wpAnyIn_take (i := 3) (v := .pointer (some ⟨g, 1, none⟩)) rfl rfl (by kernel_rfl) (by kernel_rfl) (by kernel_rfl) (fun _ _ _ h => h) ⟨Or.inl ⟨by kernel_rfl, ?_⟩, fun _ => rfl⟩ ?_
            · intro w; go_simp; try with_reducible rfl
            refine wpAnyIn_ready (rs := [4]) (by kernel_rfl) (by simp) ?_
            refine AllReadyIn.cons rfl (fun K hK => ?_) ?_
            · go_simp
              refine hK _ _ ?_; clear hK K
              refine wpAnyIn_take (i := 6) (v := .pointer (some (ad.add k))) rfl rfl (by kernel_rfl) (by kernel_rfl) (by kernel_rfl) (fun _ _ _ h => h) ⟨Or.inl ⟨by kernel_rfl, ?_⟩, fun _ => rfl⟩ ?_
              · intro w; go_simp; try with_reducible rfl
              refine wpAnyIn_ready (rs := [7]) (by kernel_rfl) (by simp) ?_
              refine AllReadyIn.cons rfl (fun K hK => ?_) ?_
              · go_simp
                refine hK _ _ ?_; clear hK K
                refine wpAnyIn_take (i := 8) (v := .int .i64 s) rfl rfl (by kernel_rfl) (by kernel_rfl) (by kernel_rfl) (fun _ _ _ h => h) ⟨Or.inl ⟨by kernel_rfl, ?_⟩, fun _ => rfl⟩ ?_
                · intro w; go_simp; try with_reducible rfl
                refine wpAnyIn_ready (rs := [9]) (by kernel_rfl) (by simp) ?_
                refine AllReadyIn.cons rfl (fun K hK => ?_) ?_
                · go_simp
                  gi_wp2_with (refine ⟨trivial, ?_⟩; gi_at_call 104; refine (callsIn_wide.2 HX2.out).mono ?_; rintro e w1 ⟨rfl, rfl⟩)
                  refine wpAnyIn_take (i := 10) (v := .bool false) rfl rfl (by kernel_rfl) (by kernel_rfl) (by kernel_rfl) (fun _ _ _ h => h) ⟨Or.inl ⟨by kernel_rfl, ?_⟩, fun _ => rfl⟩ ?_
                  · intro w; go_simp; try with_reducible rfl
                  refine wpAnyIn_take (i := 11) (v := undef) rfl rfl (by kernel_rfl) (by kernel_rfl) (by kernel_rfl) (fun _ _ _ h => h) ⟨Or.inr ⟨by kernel_rfl, rfl⟩, fun _ => by kernel_rfl⟩ ?_
                  refine wpAnyIn_take (i := 16) (v := undef) rfl rfl (by kernel_rfl) (by kernel_rfl) (by kernel_rfl) (fun _ _ _ h => h) ⟨Or.inr ⟨by kernel_rfl, rfl⟩, fun _ => by kernel_rfl⟩ ?_
                  refine wpAnyIn_take (i := 12) (v := undef) rfl rfl (by kernel_rfl) (by kernel_rfl) (by kernel_rfl) (fun _ _ _ h => h) ⟨Or.inr ⟨by kernel_rfl, rfl⟩, fun _ => by kernel_rfl⟩ ?_
                  refine wpAnyIn_take (i := 13) (v := undef) rfl rfl (by kernel_rfl) (by kernel_rfl) (by kernel_rfl) (fun _ _ _ h => h) ⟨Or.inr ⟨by kernel_rfl, rfl⟩, fun _ => by kernel_rfl⟩ ?_
                  refine wpAnyIn_take (i := 14) (v := undef) rfl rfl (by kernel_rfl) (by kernel_rfl) (by kernel_rfl) (fun _ _ _ h => h) ⟨Or.inr ⟨by kernel_rfl, rfl⟩, fun _ => by kernel_rfl⟩ ?_
                  refine wpAnyIn_take (i := 15) (v := undef) rfl rfl (by kernel_rfl) (by kernel_rfl) (by kernel_rfl) (fun _ _ _ h => h) ⟨Or.inr ⟨by kernel_rfl, rfl⟩, fun _ => by kernel_rfl⟩ ?_
                  refine wpAnyIn_take (i := 17) (v := undef) rfl rfl (by kernel_rfl) (by kernel_rfl) (by kernel_rfl) (fun _ _ _ h => h) ⟨Or.inr ⟨by kernel_rfl, rfl⟩, fun _ => by kernel_rfl⟩ ?_
                  refine wpAnyIn_take (i := 18) (v := undef) rfl rfl (by kernel_rfl) (by kernel_rfl) (by kernel_rfl) (fun _ _ _ h => h) ⟨Or.inr ⟨by kernel_rfl, rfl⟩, fun _ => by kernel_rfl⟩ ?_
                  refine wpAnyIn_take (i := 19) (v := undef) rfl rfl (by kernel_rfl) (by kernel_rfl) (by kernel_rfl) (fun _ _ _ h => h) ⟨Or.inr ⟨by kernel_rfl, rfl⟩, fun _ => by kernel_rfl⟩ ?_
                  refine wpAnyIn_take (i := 20) (v := .bool false) rfl rfl (by kernel_rfl) (by kernel_rfl) (by kernel_rfl) (fun _ _ _ h => h) ⟨Or.inl ⟨by kernel_rfl, ?_⟩, fun _ => rfl⟩ ?_
                  · intro w; kernel_rfl
                  refine wpAnyIn_done (by kernel_rfl) ?_ _
                  go_simp
                  gi_wp2
                  exact ⟨⟨k + 1, by omega, by simp, by rw [HNX.out]; exact HJ2.out, HKP.out.then_ (S2 := fun k => ¬ T k) ⟨Nat.le_refl _, fun _ _ _ => rfl⟩ (fun _ h => .inl h)⟩, by simp [intOf]; omega⟩
                exact AllReadyIn.nil
              exact AllReadyIn.nil
            exact AllReadyIn.nil
          exact AllReadyIn.nil
        refine AllReadyIn.cons rfl (fun K hK => ?_) ?_
        · go_simp
          refine hK _ _ ?_; clear hK K
          refine wpAnyIn_take (i := 2) (v := .pointer (some ⟨g, 0, none⟩)) rfl rfl (by kernel_rfl) (by kernel_rfl) (by kernel_rfl) (fun _ _ _ h => h) ⟨Or.inl ⟨by kernel_rfl, ?_⟩, fun _ => rfl⟩ ?_
          · intro w; go_simp; try with_reducible rfl
          refine wpAnyIn_take (i := 3) (v := .pointer (some ⟨g, 1, none⟩)) rfl rfl (by kernel_rfl) (by kernel_rfl) (by kernel_rfl) (fun _ _ _ h => h) ⟨Or.inl ⟨by kernel_rfl, ?_⟩, fun _ => rfl⟩ ?_
          · intro w; go_simp; try with_reducible rfl
          refine wpAnyIn_ready (rs := [0, 4]) (by kernel_rfl) (by simp) ?_
          refine AllReadyIn.cons rfl (fun K hK => ?_) ?_
          · go_simp
            refine hK _ _ ?_; clear hK K
            refine wpAnyIn_ready (rs := [4]) (by kernel_rfl) (by simp) ?_
            refine AllReadyIn.cons rfl (fun K hK => ?_) ?_
            · go_simp
              refine hK _ _ ?_; clear hK K
              refine wpAnyIn_take (i := 6) (v := .pointer (some (ad.add k))) rfl rfl (by kernel_rfl) (by kernel_rfl) (by kernel_rfl) (fun _ _ _ h => h) ⟨Or.inl ⟨by kernel_rfl, ?_⟩, fun _ => rfl⟩ ?_
              · intro w; go_simp; try with_reducible rfl
              refine wpAnyIn_ready (rs := [7]) (by kernel_rfl) (by simp) ?_
              refine AllReadyIn.cons rfl (fun K hK => ?_) ?_
              · go_simp
                refine hK _ _ ?_; clear hK K
                refine wpAnyIn_take (i := 8) (v := .int .i64 s) rfl rfl (by kernel_rfl) (by kernel_rfl) (by kernel_rfl) (fun _ _ _ h => h) ⟨Or.inl ⟨by kernel_rfl, ?_⟩, fun _ => rfl⟩ ?_
                · intro w; go_simp; try with_reducible rfl
                refine wpAnyIn_ready (rs := [9]) (by kernel_rfl) (by simp) ?_
                refine AllReadyIn.cons rfl (fun K hK => ?_) ?_
                · go_simp
                  gi_wp2_with (refine ⟨trivial, ?_⟩; gi_at_call 104; refine (callsIn_wide.2 HX2.out).mono ?_; rintro e w1 ⟨rfl, rfl⟩)
                  refine wpAnyIn_take (i := 10) (v := .bool false) rfl rfl (by kernel_rfl) (by kernel_rfl) (by kernel_rfl) (fun _ _ _ h => h) ⟨Or.inl ⟨by kernel_rfl, ?_⟩, fun _ => rfl⟩ ?_
                  · intro w; go_simp; try with_reducible rfl
                  refine wpAnyIn_take (i := 11) (v := undef) rfl rfl (by kernel_rfl) (by kernel_rfl) (by kernel_rfl) (fun _ _ _ h => h) ⟨Or.inr ⟨by kernel_rfl, rfl⟩, fun _ => by kernel_rfl⟩ ?_
                  refine wpAnyIn_take (i := 16) (v := undef) rfl rfl (by kernel_rfl) (by kernel_rfl) (by kernel_rfl) (fun _ _ _ h => h) ⟨Or.inr ⟨by kernel_rfl, rfl⟩, fun _ => by kernel_rfl⟩ ?_
                  refine wpAnyIn_take (i := 12) (v := undef) rfl rfl (by kernel_rfl) (by kernel_rfl) (by kernel_rfl) (fun _ _ _ h => h) ⟨Or.inr ⟨by kernel_rfl, rfl⟩, fun _ => by kernel_rfl⟩ ?_
                  refine wpAnyIn_take (i := 13) (v := undef) rfl rfl (by kernel_rfl) (by kernel_rfl) (by kernel_rfl) (fun _ _ _ h => h) ⟨Or.inr ⟨by kernel_rfl, rfl⟩, fun _ => by kernel_rfl⟩ ?_
                  refine wpAnyIn_take (i := 14) (v := undef) rfl rfl (by kernel_rfl) (by kernel_rfl) (by kernel_rfl) (fun _ _ _ h => h) ⟨Or.inr ⟨by kernel_rfl, rfl⟩, fun _ => by kernel_rfl⟩ ?_
                  refine wpAnyIn_take (i := 15) (v := undef) rfl rfl (by kernel_rfl) (by kernel_rfl) (by kernel_rfl) (fun _ _ _ h => h) ⟨Or.inr ⟨by kernel_rfl, rfl⟩, fun _ => by kernel_rfl⟩ ?_
                  refine wpAnyIn_take (i := 17) (v := undef) rfl rfl (by kernel_rfl) (by kernel_rfl) (by kernel_rfl) (fun _ _ _ h => h) ⟨Or.inr ⟨by kernel_rfl, rfl⟩, fun _ => by kernel_rfl⟩ ?_
                  refine wpAnyIn_take (i := 18) (v := undef) rfl rfl (by kernel_rfl) (by kernel_rfl) (by kernel_rfl) (fun _ _ _ h => h) ⟨Or.inr ⟨by kernel_rfl, rfl⟩, fun _ => by kernel_rfl⟩ ?_
                  refine wpAnyIn_take (i := 19) (v := undef) rfl rfl (by kernel_rfl) (by kernel_rfl) (by kernel_rfl) (fun _ _ _ h => h) ⟨Or.inr ⟨by kernel_rfl, rfl⟩, fun _ => by kernel_rfl⟩ ?_
                  refine wpAnyIn_take (i := 20) (v := .bool false) rfl rfl (by kernel_rfl) (by kernel_rfl) (by kernel_rfl) (fun _ _ _ h => h) ⟨Or.inl ⟨by kernel_rfl, ?_⟩, fun _ => rfl⟩ ?_
                  · intro w; kernel_rfl
                  refine wpAnyIn_done (by kernel_rfl) ?_ _
                  go_simp
                  gi_wp2
                  exact ⟨⟨k + 1, by omega, by simp, by rw [HNX.out]; exact HJ2.out, HKP.out.then_ (S2 := fun k => ¬ T k) ⟨Nat.le_refl _, fun _ _ _ => rfl⟩ (fun _ h => .inl h)⟩, by simp [intOf]; omega⟩
                exact AllReadyIn.nil
              exact AllReadyIn.nil
            exact AllReadyIn.nil
          refine AllReadyIn.cons rfl (fun K hK => ?_) ?_
          · go_simp
            refine hK _ _ ?_; clear hK K
            refine wpAnyIn_take (i := 6) (v := .pointer (some (ad.add k))) rfl rfl (by kernel_rfl) (by kernel_rfl) (by kernel_rfl) (fun _ _ _ h => h) ⟨Or.inl ⟨by kernel_rfl, ?_⟩, fun _ => rfl⟩ ?_
            · intro w; go_simp; try with_reducible rfl
            refine wpAnyIn_ready (rs := [0, 7]) (by kernel_rfl) (by simp) ?_
            refine AllReadyIn.cons rfl (fun K hK => ?_) ?_
            · go_simp
              refine hK _ _ ?_; clear hK K
              refine wpAnyIn_ready (rs := [7]) (by kernel_rfl) (by simp) ?_
              refine AllReadyIn.cons rfl (fun K hK => ?_) ?_
              · go_simp
                refine hK _ _ ?_; clear hK K
                refine wpAnyIn_take (i := 8) (v := .int .i64 s) rfl rfl (by kernel_rfl) (by kernel_rfl) (by kernel_rfl) (fun _ _ _ h => h) ⟨Or.inl ⟨by kernel_rfl, ?_⟩, fun _ => rfl⟩ ?_
                · intro w; go_simp; try with_reducible rfl
                refine wpAnyIn_ready (rs := [9]) (by kernel_rfl) (by simp) ?_
                refine AllReadyIn.cons rfl (fun K hK => ?_) ?_
                · go_simp
                  gi_wp2_with (refine ⟨trivial, ?_⟩; gi_at_call 104; refine (callsIn_wide.2 HX2.out).mono ?_; rintro e w1 ⟨rfl, rfl⟩)
                  refine wpAnyIn_take (i := 10) (v := .bool false) rfl rfl (by kernel_rfl) (by kernel_rfl) (by kernel_rfl) (fun _ _ _ h => h) ⟨Or.inl ⟨by kernel_rfl, ?_⟩, fun _ => rfl⟩ ?_
                  · intro w; go_simp; try with_reducible rfl
                  refine wpAnyIn_take (i := 11) (v := undef) rfl rfl (by kernel_rfl) (by kernel_rfl) (by kernel_rfl) (fun _ _ _ h => h) ⟨Or.inr ⟨by kernel_rfl, rfl⟩, fun _ => by kernel_rfl⟩ ?_
                  refine wpAnyIn_take (i := 16) (v := undef) rfl rfl (by kernel_rfl) (by kernel_rfl) (by kernel_rfl) (fun _ _ _ h => h) ⟨Or.inr ⟨by kernel_rfl, rfl⟩, fun _ => by kernel_rfl⟩ ?_
                  refine wpAnyIn_take (i := 12) (v := undef) rfl rfl (by kernel_rfl) (by kernel_rfl) (by kernel_rfl) (fun _ _ _ h => h) ⟨Or.inr ⟨by kernel_rfl, rfl⟩, fun _ => by kernel_rfl⟩ ?_
                  refine wpAnyIn_take (i := 13) (v := undef) rfl rfl (by kernel_rfl) (by kernel_rfl) (by kernel_rfl) (fun _ _ _ h => h) ⟨Or.inr ⟨by kernel_rfl, rfl⟩, fun _ => by kernel_rfl⟩ ?_
                  refine wpAnyIn_take (i := 14) (v := undef) rfl rfl (by kernel_rfl) (by kernel_rfl) (by kernel_rfl) (fun _ _ _ h => h) ⟨Or.inr ⟨by kernel_rfl, rfl⟩, fun _ => by kernel_rfl⟩ ?_
                  refine wpAnyIn_take (i := 15) (v := undef) rfl rfl (by kernel_rfl) (by kernel_rfl) (by kernel_rfl) (fun _ _ _ h => h) ⟨Or.inr ⟨by kernel_rfl, rfl⟩, fun _ => by kernel_rfl⟩ ?_
                  refine wpAnyIn_take (i := 17) (v := undef) rfl rfl (by kernel_rfl) (by kernel_rfl) (by kernel_rfl) (fun _ _ _ h => h) ⟨Or.inr ⟨by kernel_rfl, rfl⟩, fun _ => by kernel_rfl⟩ ?_
                  refine wpAnyIn_take (i := 18) (v := undef) rfl rfl (by kernel_rfl) (by kernel_rfl) (by kernel_rfl) (fun _ _ _ h => h) ⟨Or.inr ⟨by kernel_rfl, rfl⟩, fun _ => by kernel_rfl⟩ ?_
                  refine wpAnyIn_take (i := 19) (v := undef) rfl rfl (by kernel_rfl) (by kernel_rfl) (by kernel_rfl) (fun _ _ _ h => h) ⟨Or.inr ⟨by kernel_rfl, rfl⟩, fun _ => by kernel_rfl⟩ ?_
                  refine wpAnyIn_take (i := 20) (v := .bool false) rfl rfl (by kernel_rfl) (by kernel_rfl) (by kernel_rfl) (fun _ _ _ h => h) ⟨Or.inl ⟨by kernel_rfl, ?_⟩, fun _ => rfl⟩ ?_
                  · intro w; kernel_rfl
                  refine wpAnyIn_done (by kernel_rfl) ?_ _
                  go_simp
                  gi_wp2
                  exact ⟨⟨k + 1, by omega, by simp, by rw [HNX.out]; exact HJ2.out, HKP.out.then_ (S2 := fun k => ¬ T k) ⟨Nat.le_refl _, fun _ _ _ => rfl⟩ (fun _ h => .inl h)⟩, by simp [intOf]; omega⟩
                exact AllReadyIn.nil
              exact AllReadyIn.nil
            refine AllReadyIn.cons rfl (fun K hK => ?_) ?_
            · go_simp
              refine hK _ _ ?_; clear hK K
              refine wpAnyIn_take (i := 8) (v := .int .i64 s) rfl rfl (by kernel_rfl) (by kernel_rfl) (by kernel_rfl) (fun _ _ _ h => h) ⟨Or.inl ⟨by kernel_rfl, ?_⟩, fun _ => rfl⟩ ?_
              · intro w; go_simp; try with_reducible rfl
              refine wpAnyIn_ready (rs := [0]) (by kernel_rfl) (by simp) ?_
              refine AllReadyIn.cons rfl (fun K hK => ?_) ?_
              · go_simp
                refine hK _ _ ?_; clear hK K
                refine wpAnyIn_ready (rs := [9]) (by kernel_rfl) (by simp) ?_
                refine AllReadyIn.cons rfl (fun K hK => ?_) ?_
                · go_simp
                  gi_wp2_with (refine ⟨trivial, ?_⟩; gi_at_call 104; refine (callsIn_wide.2 HX2.out).mono ?_; rintro e w1 ⟨rfl, rfl⟩)
                  refine wpAnyIn_take (i := 10) (v := .bool false) rfl rfl (by kernel_rfl) (by kernel_rfl) (by kernel_rfl) (fun _ _ _ h => h) ⟨Or.inl ⟨by kernel_rfl, ?_⟩, fun _ => rfl⟩ ?_
                  · intro w; go_simp; try with_reducible rfl
                  refine wpAnyIn_take (i := 11) (v := undef) rfl rfl (by kernel_rfl) (by kernel_rfl) (by kernel_rfl) (fun _ _ _ h => h) ⟨Or.inr ⟨by kernel_rfl, rfl⟩, fun _ => by kernel_rfl⟩ ?_
                  refine wpAnyIn_take (i := 16) (v := undef) rfl rfl (by kernel_rfl) (by kernel_rfl) (by kernel_rfl) (fun _ _ _ h => h) ⟨Or.inr ⟨by kernel_rfl, rfl⟩, fun _ => by kernel_rfl⟩ ?_
                  refine wpAnyIn_take (i := 12) (v := undef) rfl rfl (by kernel_rfl) (by kernel_rfl) (by kernel_rfl) (fun _ _ _ h => h) ⟨Or.inr ⟨by kernel_rfl, rfl⟩, fun _ => by kernel_rfl⟩ ?_
                  refine wpAnyIn_take (i := 13) (v := undef) rfl rfl (by kernel_rfl) (by kernel_rfl) (by kernel_rfl) (fun _ _ _ h => h) ⟨Or.inr ⟨by kernel_rfl, rfl⟩, fun _ => by kernel_rfl⟩ ?_
                  refine wpAnyIn_take (i := 14) (v := undef) rfl rfl (by kernel_rfl) (by kernel_rfl) (by kernel_rfl) (fun _ _ _ h => h) ⟨Or.inr ⟨by kernel_rfl, rfl⟩, fun _ => by kernel_rfl⟩ ?_
                  refine wpAnyIn_take (i := 15) (v := undef) rfl rfl (by kernel_rfl) (by kernel_rfl) (by kernel_rfl) (fun _ _ _ h => h) ⟨Or.inr ⟨by kernel_rfl, rfl⟩, fun _ => by kernel_rfl⟩ ?_
                  refine wpAnyIn_take (i := 17) (v := undef) rfl rfl (by kernel_rfl) (by kernel_rfl) (by kernel_rfl) (fun _ _ _ h => h) ⟨Or.inr ⟨by kernel_rfl, rfl⟩, fun _ => by kernel_rfl⟩ ?_
                  refine wpAnyIn_take (i := 18) (v := undef) rfl rfl (by kernel_rfl) (by kernel_rfl) (by kernel_rfl) (fun _ _ _ h => h) ⟨Or.inr ⟨by kernel_rfl, rfl⟩, fun _ => by kernel_rfl⟩ ?_
                  refine wpAnyIn_take (i := 19) (v := undef) rfl rfl (by kernel_rfl) (by kernel_rfl) (by kernel_rfl) (fun _ _ _ h => h) ⟨Or.inr ⟨by kernel_rfl, rfl⟩, fun _ => by kernel_rfl⟩ ?_
                  refine wpAnyIn_take (i := 20) (v := .bool false) rfl rfl (by kernel_rfl) (by kernel_rfl) (by kernel_rfl) (fun _ _ _ h => h) ⟨Or.inl ⟨by kernel_rfl, ?_⟩, fun _ => rfl⟩ ?_
                  · intro w; kernel_rfl
                  refine wpAnyIn_done (by kernel_rfl) ?_ _
                  go_simp
                  gi_wp2
                  exact ⟨⟨k + 1, by omega, by simp, by rw [HNX.out]; exact HJ2.out, HKP.out.then_ (S2 := fun k => ¬ T k) ⟨Nat.le_refl _, fun _ _ _ => rfl⟩ (fun _ h => .inl h)⟩, by simp [intOf]; omega⟩
                exact AllReadyIn.nil
              exact AllReadyIn.nil
            exact AllReadyIn.nil
          exact AllReadyIn.nil
        exact AllReadyIn.nil
    · obtain rfl : k = n := by omega
      gi_wp2
      go_end0
      exact ⟨⟨_, rfl⟩, .inl ⟨_, rfl, by rw [List.take_of_length_le (by simp)] at hJs; exact hJs⟩⟩
end Go.Proofs.Ytbddllklagiajaa

namespace Go.Proofs.Ytbddllklagiajaa
open Go.RowKit Go.Proofs.YtbddllklagiajaaW.PrintWords Go.Proofs.YtbddllklagiajaaW.PrintLast Go.Proofs.YtbddllklagiajaaW.PrintMore
set_option linter.unusedVariables false
set_option linter.unusedSimpArgs false

def bN (b : Bool) (n : Nat) : Nat := if b then n else 0
/-- Eight bits, the lowest first. -/
def byteN (b0 b1 b2 b3 b4 b5 b6 b7 : Bool) : Nat := bN b0 1 + bN b1 2 + bN b2 4 + bN b3 8 + bN b4 16 + bN b5 32 + bN b6 64 + bN b7 128

theorem byteN_or : ∀ b0 b1 b2 b3 b4 b5 b6 b7 : Bool, ∀ k : Fin 8, byteN b0 b1 b2 b3 b4 b5 b6 b7 ||| 2 ^ k.1 =
    byteN (b0 || k.1 == 0) (b1 || k.1 == 1) (b2 || k.1 == 2) (b3 || k.1 == 3) (b4 || k.1 == 4) (b5 || k.1 == 5) (b6 || k.1 == 6) (b7 || k.1 == 7) := by decide +kernel
theorem byteN_lt : ∀ b0 b1 b2 b3 b4 b5 b6 b7 : Bool, byteN b0 b1 b2 b3 b4 b5 b6 b7 < 256 := by decide +kernel
theorem byteN_add0 : ∀ b1 b2 b3 b4 b5 b6 b7 : Bool, byteN false b1 b2 b3 b4 b5 b6 b7 + 1 = byteN true b1 b2 b3 b4 b5 b6 b7 := by decide +kernel

/-- Byte j of the bits of p. -/
def byteP (p : Nat → Bool) (j : Nat) : Nat := byteN (p (8 * j)) (p (8 * j + 1)) (p (8 * j + 2)) (p (8 * j + 3)) (p (8 * j + 4)) (p (8 * j + 5)) (p (8 * j + 6)) (p (8 * j + 7))
def bitsP (p : Nat → Bool) (nb : Nat) : List Int := (List.range nb).map (fun j => (byteP p j : Int))

theorem bitsP_length (p : Nat → Bool) (nb : Nat) : (bitsP p nb).length = nb := by simp [bitsP]
theorem bitsP_getD (p : Nat → Bool) (nb j : Nat) (h : j < nb) : (bitsP p nb).getD j 0 = (byteP p j : Int) := by simp [bitsP, h]
theorem byteP_lt (p : Nat → Bool) (j : Nat) : byteP p j < 256 := byteN_lt _ _ _ _ _ _ _ _

theorem byteP_or (p : Nat → Bool) (i : Nat) : byteP p (i / 8) ||| 2 ^ (i % 8) = byteP (fun m => p m || i == m) (i / 8) := by
  unfold byteP
  have h := byteN_or (p (8 * (i / 8))) (p (8 * (i / 8) + 1)) (p (8 * (i / 8) + 2)) (p (8 * (i / 8) + 3)) (p (8 * (i / 8) + 4)) (p (8 * (i / 8) + 5)) (p (8 * (i / 8) + 6)) (p (8 * (i / 8) + 7)) ⟨i % 8, Nat.mod_lt _ (by omega)⟩
  rw [h]
  have e : ∀ k, k < 8 → (i % 8 == k) = (i == 8 * (i / 8) + k) := by
    intro k hk
    rw [Bool.eq_iff_iff, beq_iff_eq, beq_iff_eq]
    omega
  simp only [e 0 (by omega), e 1 (by omega), e 2 (by omega), e 3 (by omega), e 4 (by omega), e 5 (by omega), e 6 (by omega), e 7 (by omega), Nat.add_zero]
theorem byteP_other (p : Nat → Bool) (i j : Nat) (h : j ≠ i / 8) : byteP (fun m => p m || i == m) j = byteP p j := by
  have e : ∀ k, k < 8 → (i == 8 * j + k) = false := by
    intro k hk
    rw [beq_eq_false_iff_ne]
    omega
  unfold byteP
  have e0 := e 0 (by omega)
  rw [Nat.add_zero] at e0
  simp only [e0, e 1 (by omega), e 2 (by omega), e 3 (by omega), e 4 (by omega), e 5 (by omega), e 6 (by omega), e 7 (by omega), Bool.or_false]
theorem bitsP_set (p : Nat → Bool) (nb i : Nat) (h : i / 8 < nb) : (bitsP p nb).set (i / 8) ((byteP p (i / 8) ||| 2 ^ (i % 8) : Nat) : Int) = bitsP (fun m => p m || i == m) nb := by
  rw [byteP_or]
  apply List.ext_getElem
  · simp [bitsP]
  · intro j h1 h2
    rw [List.getElem_set]
    simp only [bitsP, List.getElem_map, List.getElem_range]
    by_cases e : i / 8 = j
    · rw [if_pos e, e]
    · rw [if_neg e, byteP_other p i j (fun h => e h.symm)]
theorem bitsP_congr {p q : Nat → Bool} (nb : Nat) (h : ∀ m, m < 8 * nb → p m = q m) : bitsP p nb = bitsP q nb := by
  unfold bitsP
  refine List.map_congr_left fun j hj => ?_
  rw [List.mem_range] at hj
  unfold byteP
  rw [h _ (by omega), h _ (by omega), h _ (by omega), h _ (by omega), h _ (by omega), h _ (by omega), h _ (by omega), h _ (by omega)]
theorem bitsP_none (nb : Nat) : bitsP (fun _ => false) nb = List.replicate nb 0 := by
  apply List.ext_getElem
  · simp [bitsP]
  · intro j h1 h2
    simp [bitsP, byteP, byteN, bN]
theorem bits_or_pow (b : Nat) (hb : b < 256) (i : Nat) : Go.bits .or .u8 (b : Int) ((2 ^ (i % 8) : Nat) : Int) = ((b ||| 2 ^ (i % 8) : Nat) : Int) := by
  have h8 : i % 8 < 8 := Nat.mod_lt _ (by omega)
  obtain ⟨k, hk⟩ : ∃ k, i % 8 = k := ⟨_, rfl⟩
  rw [hk] at h8 ⊢
  have key : ∀ k : Fin 8, ∀ b : Fin 256, Go.bits .or .u8 (b.1 : Int) ((2 ^ k.1 : Nat) : Int) = ((b.1 ||| 2 ^ k.1 : Nat) : Int) := by decide +kernel
  exact key ⟨k, h8⟩ ⟨b, hb⟩

/-- The bits of the blocks that are in use, and the encoding. -/
def bitsM (st : List Int) : List Int := bitsP (fun m => decide (st.getD m 0 ∈ [1, 2])) ((st.length + 7) / 8)
theorem bytesOf_nums' (l : List Int) (h : Bytes l) : bytesOf (strOfNums l) = l := by
  unfold bytesOf
  rw [strOfNums_data, List.map_map]
  conv => rhs; rw [← List.map_id l]
  apply List.map_congr_left
  intro x hx
  have := h x hx
  simp [UInt8.toNat_ofNat']
  omega
theorem bitsP_bytes (p : Nat → Bool) (nb : Nat) : Bytes (bitsP p nb) := by
  intro x hx
  obtain ⟨j, _, rfl⟩ := List.mem_map.1 hx
  have := byteP_lt p j
  omega
theorem bitsM_length (st : List Int) : (bitsM st).length = (st.length + 7) / 8 := bitsP_length _ _
theorem bitsM_size (st : List Int) : (strOfNums (bitsM st)).size = (st.length + 7) / 8 := by
  have h : bytesOf (strOfNums (bitsM st)) = bitsM st := bytesOf_nums' _ (bitsP_bytes _ _)
  rw [← bytesOf_length, h, bitsM_length]
theorem bitsM_sel (st : List Int) : bitsP (fun m => (selM st [1, 2] st.length).any (fun y => y.1 == m)) ((st.length + 7) / 8) = bitsM st := by
  unfold bitsM
  refine bitsP_congr _ fun m hm => ?_
  rw [Bool.eq_iff_iff, List.any_eq_true, decide_eq_true_iff]
  constructor
  · rintro ⟨y, hy, e⟩
    rw [beq_iff_eq] at e
    rw [← e]
    unfold selM at hy
    rw [List.mem_filter, decide_eq_true_iff] at hy
    exact hy.2
  · intro h
    have hl : m < st.length := by
      refine Classical.byContradiction fun hn => ?_
      rw [List.getD_eq_getElem?_getD, List.getElem?_eq_none (by omega)] at h
      simp at h
    refine ⟨⟨m, hl⟩, ?_, by simp⟩
    unfold selM
    rw [List.mem_filter, decide_eq_true_iff]
    exact ⟨List.mem_finRange _, h⟩
/-- The encoding of a map. -/
def encM (first : Int) (st : List Int) : List Int := enc first.toNat ++ (enc st.length ++ (enc ((st.length + 7) / 8) ++ bitsM st))
end Go.Proofs.Ytbddllklagiajaa

namespace Go.Proofs.Ytbddllklagiajaa
open Go.RowKit Go.Shelf Go.Proofs.YtbddllklagiajaaW.PrintWords Go.Proofs.YtbddllklagiajaaW.PrintLast Go.Proofs.YtbddllklagiajaaW.PrintMore
set_option linter.unusedVariables false
set_option linter.unusedSimpArgs false
attribute [local go_sem] Oper.semAt_some

/-- No operation defers a call. -/
def noDefer (ops : Array Oper) : Bool := ops.all fun o => match o.op with | .defer _ => false | _ => true
theorem noDefer_spec {ops : Array Oper} (h : noDefer ops = true) (i : Nat) (o : Oper) (ho : ops[i]? = some o) : ∀ c, o.op ≠ .defer c := by
  intro c hc
  obtain ⟨hi, he⟩ := Array.getElem?_eq_some_iff.1 ho
  have := Array.all_eq_true.1 h i hi
  rw [he, hc] at this
  cases this
theorem wpOpIn_round {F : Fence} {n : Nat} {P : Program} {ops : Array Oper} {Q : Exit → Act → World → Prop} {l : Nat} (hro : F.round = none) (hnd : noDefer ops = true) {i : Nat} {K : Act → World → Prop} {a : Act} {w : World}
    (h : wpOpIn F n P ops Q i K a w) : wpOpIn (F.inRound l) n P ops Q i K a w := by
  unfold wpOpIn at *
  cases ho : ops[i]? with
  | none => rw [ho] at h; exact h
  | some o =>
    rw [ho] at h
    by_cases hw : Region.wanted o (yielded ops a.tmps) = true
    · simp only [hw, if_true] at h ⊢
      unfold Oper.wpIn at *
      refine ⟨h.1, ?_⟩
      have h2 := h.2
      rw [hro, Oper.semAt_none] at h2
      rw [Oper.semAt_eq _ _ _ (noDefer_spec hnd i o ho)]
      exact h2
    · simp only [hw] at h ⊢
      exact h
/-- A region that draws its order, in a round: walked as outside of it. -/
theorem wpAnyIn_round {F : Fence} {n : Nat} {P : Program} {md : Region.Mode} {ops : Array Oper} {Q : Exit → Act → World → Prop} {l : Nat} (hro : F.round = none) (hnd : noDefer ops = true) :
    ∀ (fuel : Nat) (listed : Array Bool) (a : Act) (w : World), wpAnyIn F n P md ops Q fuel listed a w → wpAnyIn (F.inRound l) n P md ops Q fuel listed a w
  | 0, _, _, _, h => h
  | fuel + 1, listed, a, w, h => ⟨h.1, fun i hi => wpOpIn_mono (fun a w => wpAnyIn_round hro hnd fuel _ a w) (wpOpIn_round hro hnd (h.2 i hi))⟩
theorem region_round {F : Fence} {n : Nat} {P : Program} {ops : Array Oper} {Q : Exit → Act → World → Prop} {l id : Nat} {a : Act} {w : World} (hm : P.follows .mixedOrders = true) (hro : F.round = none) (hnd : noDefer ops = true)
    (h : wpAnyIn F n P .any ops Q ops.size (Array.replicate ops.size false) a w.drew) : (Code.region id ops true).wpIn (F.inRound l) n P Q a w :=
  wpIn_region_any hm (wpAnyIn_round hro hnd _ _ _ _ h)

theorem KpT.trans {T : Nat → Prop} {A B C : World} (h : KpT T A B) (k : KpT T B C) : KpT T A C := Frm.then_ h k (fun _ h => .inl h)
theorem KpT.putObj {T : Nat → Prop} {n0 : Nat} (hT : ∀ k, T k → k < n0) (W : World) (l : Nat) (o' : Obj) (hl : n0 ≤ l) : KpT T W (W.putObj l o') :=
  (Frm.refl W _).grown (grownBy_putObj' W l o') (fun k e => by cases e; exact .inl (fun ht => by have := hT _ ht; omega))
theorem KpT.of_below {T : Nat → Prop} {n0 : Nat} (hT : ∀ k, T k → k < n0) {A B : World} (h : Below n0 A B) : KpT T A B :=
  Frm.of_below h _ (fun k _ ht => hT k (Classical.not_not.1 ht))

theorem frm_ownFrom {β : Type} {B : Nat} {w0 : World} {S : Nat → Prop} (hB : w0.heap.size ≤ B) : OwnFrom B (fun (_ : β) W => Frm w0 W S) :=
  fun _ _ _ _ hs hg hr => hs.grown hg (fun k e => .inr (Nat.le_trans hB (hr k e).1))
theorem mp_ownFrom {β : Type} {B base g : Nat} {P : Nat → Prop} {first : Int} {st : β → List Int} (hg : g < B) (hP : ∀ k, P k → k < B) : OwnFrom B (fun (s : β) W => Mp base W g P first (st s)) :=
  fun _ _ _ row hs hgr hr => hs.frm (S := fun k => row = some k) ((Frm.refl _ _).grown hgr (fun k e => .inl e)) (fun e => by have := (hr _ e).1; omega) (fun k hk e => by have := (hr _ e).1; have := hP k hk; omega)
theorem boxed_ownFrom {β : Type} {B b t : Nat} {v : β → Value} (hb : b < B) : OwnFrom B (fun (s : β) W => Boxed W b t (v s)) :=
  fun _ _ _ row hs hgr hr => hs.kept hgr (fun e => by have := (hr _ e.symm).1; omega)

theorem Mp.kept {base g : Nat} {w w' : World} {P S : Nat → Prop} {first : Int} {st : List Int} (h : Mp base w g P first st) (hk : Kept w w' S) (hg : ¬ S g) (hS : ∀ k, P k → ¬ S k) : Mp base w' g P first st := by
  obtain ⟨A, n, c, hb, hg', hr⟩ := h
  exact ⟨A, n, c, blk_kept hb hk hg, hg', Kd.R_kept hr hk hS⟩

theorem InAt.step {T : Nat → Prop} {w w' : World} {B1 B2 g : Nat} {first : Int} {A : Option Addr} {n c : Nat} {st : List Int} {As : Option Addr} {ns cs : Nat} {ss : List Int}
    (h : InAt T w B1 B2 g first A n c st As ns cs ss) (hk : Kept w w' (fun k => ¬ T k)) : InAt T w' B1 B2 g first A n c st As ns cs ss :=
  ⟨h.len, h.lens, fun W hW => h.all W (hk.then_ hW (fun _ h => .inl h)), fun W hW => h.mp W (hk.then_ hW (fun _ h => .inl h))⟩

/-- A block of whole numbers reads as their list. -/
theorem blk_reads {w : World} {b : Nat} {ss : List Int} {cells : Array Value} (hb : w.heap[b]? = some (.cells cells 3 (0, 0))) (hc : cells = (ss.map (Value.int .i64)).toArray) (hl : ss.length ≤ 1000) : KI.C w (some ⟨b, 0, none⟩) ss.length ss := by
  refine Kd.C_of_reads (d := 0) ⟨rfl, by omega, fun _ => ⟨_, rfl, fun j hj => ?_⟩⟩
  rw [add_plain]
  rw [blk_cell hb j, hc]
  simp [hj]

theorem inAt_of {T : Nat → Prop} {w1 w : World} {B1 B2 Bs base g : Nat} {P : Nat → Prop} {first : Int} {st ss : List Int} {cells : Array Value} (h : Mp base w1 g P first st) (hT : ∀ k, k < w1.heap.size → T k) (h1 : Frm w1 w (fun _ => False))
    (hB1 : w.heap[B1]? = some (.cells #[.pointer (some ⟨g, 0, none⟩)] 60 (0, 0))) (hB2 : w.heap[B2]? = some (.cells #[.slice (some ⟨Bs, 0, none⟩) ss.length ss.length] 61 (0, 0))) (hBs : w.heap[Bs]? = some (.cells cells 3 (0, 0)))
    (hc : cells = (ss.map (Value.int .i64)).toArray) (hT1 : T B1) (hT2 : T B2) (hTs : T Bs) (hl : ss.length ≤ 1000) :
    ∃ A c, InAt T w B1 B2 g first A st.length c st (some ⟨Bs, 0, none⟩) ss.length ss.length ss := by
  have ht := h.tight
  have hw : Mp base w g (fun k => P k ∧ k ≠ g ∧ base ≤ k ∧ k < w1.heap.size) first st := ht.frm h1 (fun h => h) (fun _ _ h => h)
  have hg := h.lt
  obtain ⟨A, n, c, hb, hg', hr⟩ := hw
  have hl1 := (Kd.R_reads' hr).1
  subst hl1
  have hMp : ∀ W, Kept w W (fun k => ¬ T k) → Mp base W g (fun k => P k ∧ k ≠ g ∧ base ≤ k ∧ k < w1.heap.size) first st := fun W hW =>
    Mp.kept ⟨A, _, c, hb, hg', hr⟩ hW (fun hn => hn (hT g hg)) (fun k hk hn => hn (hT k hk.2.2.2))
  refine ⟨A, c, rfl, rfl, fun W hW => ?_, fun W hW => count_calls base g _ first st W (hMp W hW)⟩
  have hb' := blk_kept hb hW (fun hn => hn (hT g hg))
  have hr' := Kd.R_kept hr hW (fun k hk hn => hn (hT k hk.2.2.2))
  exact ⟨blk_cell (blk_kept hB1 hW (fun hn => hn hT1)) 0, blk_cell (blk_kept hB2 hW (fun hn => hn hT2)) 0, blk_cell hb' 0, blk_cell hb' 1, (Kd.R_reads' hr').2.2, blk_reads (blk_kept hBs hW (fun hn => hn hTs)) hc hl⟩

/-- **(*Map).in HANDS BACK A VALUE THAT 'SeqStopsK'.** -/
theorem in_stops (N : Nat) (hN : 1 ≤ N) {T : Nat → Prop} {w : World} {B1 B2 g : Nat} {first : Int} {A : Option Addr} {c : Nat} {st : List Int} {As : Option Addr} {ns cs : Nat} {ss : List Int}
    (h : InAt T w B1 B2 g first A st.length c st As ns cs ss) (hT : ∀ k, T k → k < w.heap.size) (hn : st.length ≤ 65536) (hns : ns ≤ 1000) (hf : 0 ≤ first ∧ first ≤ 1073741824) (hst : ∀ s ∈ st, 0 ≤ s ∧ s ≤ 3) :
    SeqStopsK Fence.wide N Try.prog 103 #[.pointer (some ⟨B1, 0, none⟩), .pointer (some ⟨B2, 0, none⟩)] (fun i : Fin st.length => #[Value.int .i64 (first + (i.1 : Int))]) (KpT T)
      (fun ys => ys = selM st ss st.length) (fun pre => pre <+: selM st ss st.length) st.length w := fun l J Jx W hW hJ hJx hY h0 =>
  in1_in N hN l T B1 B2 g first A st.length c st As ns cs ss J Jx W (h.step (Frm.of_below hW (fun k => ¬ T k) (fun k _ ht => hT k (Classical.not_not.1 ht))).kept) hn hns hf hst hY
    (fun pre W1 hJ1 => hJ pre W1 _ none hJ1 ⟨rfl, rfl, rfl, Nat.le_refl _, fun _ _ _ => rfl⟩ (fun r e => by cases e)) h0

set_option maxHeartbeats 1000000 in
theorem in_calls (N : Nat) (p : Option Addr) (A : Option Addr) (n c : Nat) (w : World) :
    CallsIn Fence.wide N Try.prog 87 #[.pointer p, .slice A n c] w fun e w' => e = .returned (.func (.func 103) #[] #[.pointer (some ⟨w.heap.size, 0, none⟩), .pointer (some ⟨w.heap.size + 1, 0, none⟩)]) ∧ w' = (w.alloc (.cells #[.pointer p] 60)).alloc (.cells #[.slice A n c] 61) := by
  refine callsIn_of_wp Try.func87 rfl trivial ?_ rfl
  simp only [Try.ntmps87, List.size_toArray, List.length_cons, List.length_nil, Nat.reduceAdd, Nat.reduceSub, Array.replicate_succ, Array.replicate_zero, List.push_toArray, List.append_toArray, List.nil_append, List.cons_append]
  gi_wp2
  go_ret
  exact ⟨by simp, rfl⟩
end Go.Proofs.Ytbddllklagiajaa
