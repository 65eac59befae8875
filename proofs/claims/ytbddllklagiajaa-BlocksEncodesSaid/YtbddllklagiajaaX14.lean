/- blocks.Load. The reference's Load; Load of a range that is refused. -/
import Derived.Test.YtbddllklagiajaaX6
namespace Go.Proofs.Ytbddllklagiajaa
open Go.RowKit Go.Proofs.YtbddllklagiajaaW.PrintWords Go.Proofs.YtbddllklagiajaaW.PrintLast Go.Proofs.YtbddllklagiajaaW.PrintMore
set_option linter.unusedVariables false
set_option linter.unusedSimpArgs false

/-- The states after some blocks are loaded, and the error. -/
def loadS (first : Int) : List Int → List Int → List Int × Int
  | st, [] => (st, 0)
  | st, b :: rest => if inM first st.length b then (if st.getD (b - first).toNat 0 = 0 then loadS first (st.set (b - first).toNat 1) rest else (st, 7)) else (st, 2)

theorem WfM.loadS {first : Int} : ∀ {us st : List Int}, WfM first st → WfM first (loadS first st us).1
  | [], st, h => h
  | b :: rest, st, h => by
    unfold Ytbddllklagiajaa.loadS
    split
    · split
      · exact WfM.loadS (h.set _ _ (by decide))
      · exact h
    · exact h

set_option maxRecDepth 100000 in
set_option maxHeartbeats 8000000 in
theorem load_calls (first : Int) (cnt : Nat) (A : Option Addr) (n c : Nat) (us : List Int) (w : World) (h : okRange first cnt) (hl : us.length = n) (hC : KI.C w A n us) (hn : n ≤ 1000000) (hus : ∀ b ∈ us, b ≤ 9223372036854775807) :
    Calls Try.prog 50 #[.int .i64 first, .int .i64 cnt, .slice A n c] w fun e w' => ((loadS first (List.replicate cnt 0) us).2 = 0 ∧ (∃ g, e = .returned (.tuple #[.pointer (some ⟨g, 0, none⟩), .int .i64 0]) ∧ Mp w.heap.size w' g (fun k => w.heap.size ≤ k) first (loadS first (List.replicate cnt 0) us).1) ∨
      (loadS first (List.replicate cnt 0) us).2 ≠ 0 ∧ e = .returned (.tuple #[.pointer none, .int .i64 (loadS first (List.replicate cnt 0) us).2])) ∧ Below w.heap.size w w' := by
  have HC := Aside0.mk (fun W (hW : Below w.heap.size w W) => Kd.C_below hC hW)
  have HL := Aside0.mk hl
  have HU := Aside0.mk hus
  have hf1 : 0 ≤ first ∧ first ≤ 1073741824 := ⟨h.1, h.2.1⟩
  have hc1 : 1 ≤ cnt ∧ cnt ≤ 65536 := by have := h.2.2.1; have := h.2.2.2; omega
  have HN := Aside0.mk (new_ok first cnt w h)
  clear hC hl hus h
  obtain ⟨res, hres⟩ : ∃ r, loadS first (List.replicate cnt 0) us = r := ⟨_, rfl⟩
  rw [hres]
  have HRES := Aside0.mk hres
  clear hres
  go_enter Try.func50, Try.ntmps50
  go_wp2_with fail
  refine HN.out.mono ?_
  rintro e w1 ⟨g, rfl, M1, hg, B1⟩
  have HM1 := Aside0.mk M1
  have HB1 := Aside0.mk B1
  clear M1 B1
  go_wp2
  go_loopw [23] (fun i wr => ∃ (k : Nat) (st : List Int), k ≤ n ∧ i = .int .i64 k ∧ st.length = cnt ∧ (∀ s ∈ st, 0 ≤ s ∧ s ≤ 3) ∧ loadS first st (us.drop k) = res ∧ Mp w.heap.size wr g (fun k => w.heap.size ≤ k) first st ∧ Below w.heap.size w wr) (fun i _ => n - (intOf i).toNat)
  case atStart => exact ⟨0, List.replicate cnt 0, Nat.zero_le _, rfl, by simp, fun s hs => by rw [List.eq_of_mem_replicate hs]; decide, by simpa using HRES.out, HM1.out, HB1.out⟩
  case round =>
    obtain ⟨k, st, hk, rfl, hsl, hst, hld, hM, hB⟩ := hrel
    have HLD := Aside0.mk hld
    have HM := Aside0.mk hM
    have HB := Aside0.mk hB
    have HST := Aside0.mk hst
    by_cases hlt : k < n
    · obtain ⟨ad, e, hx⟩ := Kd.at_int (HC.out wr hB) k (by omega) (by omega)
      subst e
      rw [mg_rd, Int.toNat_natCast] at hx
      have hkl : k < us.length := by rw [HL.out]; exact hlt
      obtain ⟨x, hxx⟩ : ∃ x, us.getD k 0 = x := ⟨_, rfl⟩
      have hxm : x ≤ 9223372036854775807 := by
        refine HU.out x ?_
        rw [← hxx, List.getD_eq_getElem?_getD, List.getElem?_eq_getElem hkl]
        exact List.getElem_mem _
      have hdr : us.drop k = x :: us.drop (k + 1) := by
        rw [List.drop_eq_getElem_cons hkl]
        congr 1
        rw [← hxx]
        simp [hkl]
      rw [hdr] at hld
      rw [hxx] at hx
      have HHS := Aside0.mk (has_calls w.heap.size g _ first st wr hM x hf1.1 hxm)
      obtain ⟨A', n', c', hb, hbg, hr⟩ := hM.tight
      have hl' := (Kd.R_reads' hr).1
      unfold loadS at hld
      by_cases hin : inM first st.length x
      · rw [if_pos hin] at hld
        rw [decide_eq_true hin] at HHS
        obtain ⟨i, hi⟩ : ∃ i : Nat, x = first + i := ⟨(x - first).toNat, by have := hin.1; omega⟩
        subst hi
        have hi2 : i < st.length := by have := hin.2; omega
        rw [show (first + (i : Int) - first).toNat = i by omega] at hld
        obtain ⟨b, rfl, hbb, hPb, hbl, hc2, hfz⟩ := own_at hr i (by omega)
        have hne : b ≠ g := hPb.2.1
        have hw1 : IntKind.i64.wrap (first + (i : Int) - first) = (i : Int) := by rw [IntKind.wrap_i64]; omega
        have c0 : ∀ m, (wr.drewN m).cell? ⟨g, 1, none⟩ = some (.slice (some ⟨b, 0, none⟩) n' c') := fun m => blk_cell hb 1
        have c1 : ∀ m, (wr.drewN m).cell? ⟨b, i, none⟩ = some (.int .u8 (st.getD i 0)) := fun m => hc2
        have f1 : ∀ m, (wr.drewN m).frozen? ⟨b, i, none⟩ = false := fun m => hfz
        have hi3 : i < n' := by omega
        obtain ⟨s, hs⟩ : ∃ s, st.getD i 0 = s := ⟨_, rfl⟩
        rw [hs] at hld hc2 c1
        have hset : ∀ m, Mp w.heap.size ((wr.drewN m).setCell ⟨b, i, none⟩ (.int .u8 1)) g (fun k => w.heap.size ≤ k) first (st.set i 1) := by
          intro m
          refine ⟨_, n', c', blk_far (blk_drewN hb m) (fun e => hne e.symm) _, hbg, Kd.R_mono (ok := fun k => w.heap.size ≤ k ∧ k ≠ g ∧ w.heap.size ≤ k ∧ k < wr.heap.size) ?_ (fun k hk => hk.1)⟩
          exact Kd.R_putn (Kd.R_drewN hr m) (i : Int) 1
        have HSET := Aside0.mk hset
        have HBB := Aside0.mk hbb
        clear hb hbg hr hl' hin hset hM hB hst hbb hPb hne hdr hs hxx hxm hc2 hfz
        by_cases h0 : s = 0
        · subst h0
          rw [if_pos rfl] at hld
          have HLD2 := Aside0.mk hld
          clear hld
          go_wp2_with fail
          refine HHS.out.mono ?_
          rintro e w2 ⟨rfl, m, rfl⟩
          go_wp2
          go_roundw
          case rel =>
            exact ⟨k + 1, st.set i 1, by omega, by go_num, by rw [List.length_set]; exact hsl, st_set HST.out _ _ (by decide), HLD2.out, HSET.out m, below_set (pw_below_drewN HB.out m) HBB.out⟩
          case measure => simp [intOf]; omega
        · rw [if_neg h0] at hld
          have hs0 : (s == 0) = false := beq_eq_false_iff_ne.mpr h0
          subst hld
          clear h0
          go_wp2_with fail
          refine HHS.out.mono ?_
          rintro e w2 ⟨rfl, m, rfl⟩
          go_wp2
          go_ret2
          exact ⟨rfl, pw_below_drewN HB.out m⟩
      · rw [if_neg hin] at hld
        rw [decide_eq_false hin] at HHS
        subst hld
        clear hb hbg hr hl' hin hM hB hst hdr hxx hxm
        go_wp2_with fail
        refine HHS.out.mono ?_
        rintro e w2 ⟨rfl, m, rfl⟩
        go_wp2
        go_ret2
        exact ⟨rfl, pw_below_drewN HB.out m⟩
    · obtain rfl : k = n := by omega
      rw [List.drop_of_length_le (by rw [HL.out]; exact Nat.le_refl _)] at hld
      unfold loadS at hld
      subst hld
      clear hM hB hst hlt
      go_wp2
      go_ret2
      exact ⟨⟨g, rfl, HM.out⟩, HB.out⟩
end Go.Proofs.Ytbddllklagiajaa

namespace Go.Proofs.Ytbddllklagiajaa
open Go.RowKit Go.Proofs.YtbddllklagiajaaW.PrintWords Go.Proofs.YtbddllklagiajaaW.PrintLast Go.Proofs.YtbddllklagiajaaW.PrintMore
set_option linter.unusedVariables false
set_option linter.unusedSimpArgs false

theorem load_bad (first count : Int) (v : Value) (w : World) (h : ¬ okRange first count) : Calls Try.prog 50 #[.int .i64 first, .int .i64 count, v] w fun e w' => e = .returned (.tuple #[.pointer none, .int .i64 2]) ∧ w' = w := by
  have HN := Aside0.mk (new_bad first count w h)
  clear h
  go_enter Try.func50, Try.ntmps50
  go_wp2_with fail
  refine HN.out.mono ?_
  rintro e w1 ⟨rfl, rfl⟩
  go_wp2
  go_ret2
  exact ⟨rfl, rfl⟩
end Go.Proofs.Ytbddllklagiajaa
