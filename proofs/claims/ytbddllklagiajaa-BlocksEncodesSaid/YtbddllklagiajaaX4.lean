/- The reference's Take and Give: what they leave. The reference's Take: what it leaves. -/
import Derived.Test.YtbddllklagiajaaX2
namespace Go.Proofs.Ytbddllklagiajaa
open PBlocksEncodes
open Go.RowKit Go.Proofs.YtbddllklagiajaaW.PrintWords Go.Proofs.YtbddllklagiajaaW.PrintLast Go.Proofs.YtbddllklagiajaaW.PrintMore
set_option linter.unusedVariables false
set_option linter.unusedSimpArgs false

theorem two_boxes (w w1 : World) (v1 v2 : Value) (x1 x2 : Value) (B : Below ((w.alloc (.cells #[v1, v2] 63)).alloc (.cells #[x1, x2] 63)).heap.size ((w.alloc (.cells #[v1, v2] 63)).alloc (.cells #[x1, x2] 63)) w1) :
    w1.heap[w.heap.size]? = some (.cells #[v1, v2] 63 (0, 0)) ∧ w1.heap[w.heap.size + 1]? = some (.cells #[x1, x2] 63 (0, 0)) ∧ Below w.heap.size w w1 := by
  refine ⟨(B.block _ (by simp; omega)).trans (blk_alloc (blk_new w _) _), (B.block _ (by simp)).trans ?_, (below_alloc (below_alloc (Below.refl _ w) _) _).trans (B.mono (by simp; omega))⟩
  have := blk_new (w.alloc (.cells #[v1, v2] 63)) (.cells #[x1, x2] 63)
  rw [World.size_alloc] at this
  exact this

set_option maxRecDepth 100000 in
set_option maxHeartbeats 4000000 in
theorem refGive_calls (base : Nat) (Q : Nat → Prop) (first : Int) (A : Option Addr) (n c : Nat) (l : List Int) (x : Int) (w : World) (hr : KI.R 3 w base Q (.slice A n c) l) (hb : base ≤ w.heap.size) (hf : 0 ≤ first ∧ first ≤ 1073741824) (hx : x ≤ 9223372036854775807) (hn : l.length ≤ 65536) :
    Calls Try.prog 84 #[.agg #[.int .i64 first, .slice A n c], .int .i64 x] w fun e w' => ∃ v, e = .returned (.tuple #[.agg #[.int .i64 first, v], .int .i64 (giveM first l x).2]) ∧ KI.R 3 w' base (fun k => Q k ∨ w.heap.size ≤ k) v (giveM first l x).1 ∧ Below w.heap.size w w' := by
  have HR := Aside0.mk hr
  have h1 := Kd.R_reads' hr
  obtain rfl := h1.1
  have HC := Aside0.mk (fun W (hW : Below w.heap.size w W) => (Kd.R_reads' (Kd.R_below hr hW)).2.2)
  have hcc := h1.2.1
  have HSF := Aside0.mk (state_f l first x hf.1 hx)
  have HB := Aside0.mk hb
  clear hr h1 hb
  by_cases hin : inM first l.length x
  · obtain ⟨i, hi⟩ : ∃ i : Nat, x = first + i := ⟨(x - first).toNat, by have := hin.1; omega⟩
    subst hi
    have hi2 : i < l.length := by have := hin.2; omega
    have hsm : stateM first l (first + (i : Int)) = (l.getD i 0, 0) := by unfold stateM; rw [if_pos hin, show (first + (i : Int) - first).toNat = i by omega]
    rw [hsm] at HSF
    have hgm : giveM first l (first + (i : Int)) = if l.getD i 0 = 1 then (l.set i 3, 0) else if l.getD i 0 = 2 then (l.set i 0, 0) else (l, 10) := by unfold giveM; rw [if_pos hin, show (first + (i : Int) - first).toNat = i by omega]
    rw [hgm]
    have HWF := Aside0.mk (fun v => with_f l first v i hi2 (by omega) hf)
    obtain ⟨s, hs⟩ : ∃ s, l.getD i 0 = s := ⟨_, rfl⟩
    rw [hs] at HSF ⊢
    clear hsm hgm hin hs
    by_cases e1 : s = 1
    · subst e1
      rw [if_pos rfl]
      go_enter Try.func84, Try.ntmps84
      go_wp2_with fail
      refine (replevinref12_State.calls first A c l (first + (i : Int)) _ _ _ (HC.out _ (by repeat (first | exact Below.refl _ _ | refine below_alloc ?_ _))) hcc HSF.out).mono ?_
      rintro e w1 ⟨rfl, B1⟩
      obtain ⟨b0, b1, B1'⟩ := two_boxes w w1 _ _ _ _ B1
      have c0 := blk_cell b0 0
      have c1 := blk_cell b0 1
      have f0 := blk_cell b1 0
      have f1 := blk_cell b1 1
      have z0 := blk_frozen b1 0
      have z1 := blk_frozen b1 1
      clear B1
      have HB0 := Aside0.mk b0
      have HB1 := Aside0.mk b1
      have HBB := Aside0.mk B1'
      clear b0 b1 B1'
      go_wp2_with fail
      refine (replevinref12_with.calls first A c l (first + (i : Int)) 3 _ _ w1 (HC.out w1 HBB.out) hcc (HWF.out 3)).mono ?_
      rintro e w2 ⟨v, rfl, R, B2⟩
      obtain ⟨A2, n2, c2, rfl⟩ := R_form' R
      clear c0 c1 f0 f1 z0 z1
      have k1 := blk_lt HB1.out
      have b1 := (B2.block _ k1).trans HB1.out
      have f0 := blk_cell b1 0
      have f1 := blk_cell b1 1
      have z0 := blk_frozen b1 0
      have z1 := blk_frozen b1 1
      have HB2 := Aside0.mk b1
      have HRR := Aside0.mk R
      have HBB2 := Aside0.mk (HBB.out.trans (B2.mono HBB.out.size))
      have HS1 := Aside0.mk k1
      clear b1 R B2 k1
      go_wp2
      refine bodyPost_ret (results_ct rfl _ _ (w.heap.size + 1) 63 #[.int .i64 first, .slice A2 n2 c2] (0, 0) _ rfl (blk_put (cs := #[.int .i64 first, .slice none 0 0]) (blk_put (cs := #[.int .i64 0, .slice none 0 0]) HB2.out 0 _ rfl) 1 _ rfl) Try.underlying63 rfl (by kernel_rfl)) rfl ?_
      refine ⟨_, rfl, ?_, below_set (below_set HBB2.out (by simp)) (by simp)⟩
      refine Kd.R_mono (ok := fun k => w1.heap.size ≤ k) ?_ (fun k hk => .inr (Nat.le_trans HBB.out.size hk))
      have R1 : KI.R 3 w2 base (fun k => w1.heap.size ≤ k) (.slice A2 n2 c2) (l.set i 3) := Kd.R_lower (Kd.R_mono (Kd.R_bound HRR.out) (fun k hk => hk.2.1)) (Nat.le_trans HB.out HBB.out.size)
      have hk1 := HS1.out
      exact Kd.R_far (Kd.R_far R1 (fun k hk e => by have : k = w.heap.size + 1 := e; omega) _) (fun k hk e => by have : k = w.heap.size + 1 := e; omega) _
    · rw [if_neg e1]
      have d1 : (s == 1) = false := beq_eq_false_iff_ne.mpr e1
      by_cases e2 : s = 2
      · subst e2
        rw [if_pos rfl]
        go_enter Try.func84, Try.ntmps84
        go_wp2_with fail
        refine (replevinref12_State.calls first A c l (first + (i : Int)) _ _ _ (HC.out _ (by repeat (first | exact Below.refl _ _ | refine below_alloc ?_ _))) hcc HSF.out).mono ?_
        rintro e w1 ⟨rfl, B1⟩
        obtain ⟨b0, b1, B1'⟩ := two_boxes w w1 _ _ _ _ B1
        have c0 := blk_cell b0 0
        have c1 := blk_cell b0 1
        have f0 := blk_cell b1 0
        have f1 := blk_cell b1 1
        have z0 := blk_frozen b1 0
        have z1 := blk_frozen b1 1
        clear B1
        have HB0 := Aside0.mk b0
        have HB1 := Aside0.mk b1
        have HBB := Aside0.mk B1'
        clear b0 b1 B1'
        go_wp2_with fail
        refine (replevinref12_with.calls first A c l (first + (i : Int)) 0 _ _ w1 (HC.out w1 HBB.out) hcc (HWF.out 0)).mono ?_
        rintro e w2 ⟨v, rfl, R, B2⟩
        obtain ⟨A2, n2, c2, rfl⟩ := R_form' R
        clear c0 c1 f0 f1 z0 z1
        have k1 := blk_lt HB1.out
        have b1 := (B2.block _ k1).trans HB1.out
        have f0 := blk_cell b1 0
        have f1 := blk_cell b1 1
        have z0 := blk_frozen b1 0
        have z1 := blk_frozen b1 1
        have HB2 := Aside0.mk b1
        have HRR := Aside0.mk R
        have HBB2 := Aside0.mk (HBB.out.trans (B2.mono HBB.out.size))
        have HS1 := Aside0.mk k1
        clear b1 R B2 k1
        go_wp2
        refine bodyPost_ret (results_ct rfl _ _ (w.heap.size + 1) 63 #[.int .i64 first, .slice A2 n2 c2] (0, 0) _ rfl (blk_put (cs := #[.int .i64 first, .slice none 0 0]) (blk_put (cs := #[.int .i64 0, .slice none 0 0]) HB2.out 0 _ rfl) 1 _ rfl) Try.underlying63 rfl (by kernel_rfl)) rfl ?_
        refine ⟨_, rfl, ?_, below_set (below_set HBB2.out (by simp)) (by simp)⟩
        refine Kd.R_mono (ok := fun k => w1.heap.size ≤ k) ?_ (fun k hk => .inr (Nat.le_trans HBB.out.size hk))
        have R1 : KI.R 3 w2 base (fun k => w1.heap.size ≤ k) (.slice A2 n2 c2) (l.set i 0) := Kd.R_lower (Kd.R_mono (Kd.R_bound HRR.out) (fun k hk => hk.2.1)) (Nat.le_trans HB.out HBB.out.size)
        have hk1 := HS1.out
        exact Kd.R_far (Kd.R_far R1 (fun k hk e => by have : k = w.heap.size + 1 := e; omega) _) (fun k hk e => by have : k = w.heap.size + 1 := e; omega) _
      · rw [if_neg e2]
        have d2 : (s == 2) = false := beq_eq_false_iff_ne.mpr e2
        go_enter Try.func84, Try.ntmps84
        go_wp2_with fail
        refine (replevinref12_State.calls first A c l (first + (i : Int)) _ _ _ (HC.out _ (by repeat (first | exact Below.refl _ _ | refine below_alloc ?_ _))) hcc HSF.out).mono ?_
        rintro e w1 ⟨rfl, B1⟩
        obtain ⟨b0, b1, B1'⟩ := two_boxes w w1 _ _ _ _ B1
        have c0 := blk_cell b0 0
        have c1 := blk_cell b0 1
        have f0 := blk_cell b1 0
        have f1 := blk_cell b1 1
        have z0 := blk_frozen b1 0
        have z1 := blk_frozen b1 1
        clear B1
        have HB1 := Aside0.mk b1
        have HBB := Aside0.mk B1'
        clear b0 b1 B1'
        go_wp2
        refine bodyPost_ret (results_ct rfl _ _ (w.heap.size + 1) 63 #[.int .i64 first, .slice A l.length c] (0, 0) _ rfl (blk_put (cs := #[.int .i64 first, .slice none 0 0]) (blk_put (cs := #[.int .i64 0, .slice none 0 0]) HB1.out 0 _ rfl) 1 _ rfl) Try.underlying63 rfl (by kernel_rfl)) rfl ?_
        refine ⟨_, rfl, ?_, below_set (below_set HBB.out (by simp)) (by simp)⟩
        refine Kd.R_mono (ok := fun k => Q k ∧ k < w.heap.size) ?_ (fun k hk => .inl hk.1)
        have R1 : KI.R 3 w base (fun k => Q k ∧ k < w.heap.size) (.slice A l.length c) l := Kd.R_mono (Kd.R_bound HR.out) (fun k hk => ⟨hk.1, hk.2.2.1⟩)
        exact Kd.R_far (Kd.R_far (Kd.R_below R1 HBB.out) (fun k hk e => by have : k = w.heap.size + 1 := e; have := hk.2; omega) _) (fun k hk e => by have : k = w.heap.size + 1 := e; have := hk.2; omega) _
  · have hsm : stateM first l x = (0, 2) := by unfold stateM; rw [if_neg hin]
    rw [hsm] at HSF
    have hgm : giveM first l x = (l, 2) := by unfold giveM; rw [if_neg hin]
    rw [hgm]
    clear hsm hgm hin
    go_enter Try.func84, Try.ntmps84
    go_wp2_with fail
    refine (replevinref12_State.calls first A c l x _ _ _ (HC.out _ (by repeat (first | exact Below.refl _ _ | refine below_alloc ?_ _))) hcc HSF.out).mono ?_
    rintro e w1 ⟨rfl, B1⟩
    obtain ⟨b0, b1, B1'⟩ := two_boxes w w1 _ _ _ _ B1
    have c0 := blk_cell b0 0
    have c1 := blk_cell b0 1
    have f0 := blk_cell b1 0
    have f1 := blk_cell b1 1
    have z0 := blk_frozen b1 0
    have z1 := blk_frozen b1 1
    clear B1
    have HB1 := Aside0.mk b1
    have HBB := Aside0.mk B1'
    clear b0 b1 B1'
    go_wp2
    refine bodyPost_ret (results_ct rfl _ _ (w.heap.size + 1) 63 #[.int .i64 first, .slice A l.length c] (0, 0) _ rfl (blk_put (cs := #[.int .i64 first, .slice none 0 0]) (blk_put (cs := #[.int .i64 0, .slice none 0 0]) HB1.out 0 _ rfl) 1 _ rfl) Try.underlying63 rfl (by kernel_rfl)) rfl ?_
    refine ⟨_, rfl, ?_, below_set (below_set HBB.out (by simp)) (by simp)⟩
    refine Kd.R_mono (ok := fun k => Q k ∧ k < w.heap.size) ?_ (fun k hk => .inl hk.1)
    have R1 : KI.R 3 w base (fun k => Q k ∧ k < w.heap.size) (.slice A l.length c) l := Kd.R_mono (Kd.R_bound HR.out) (fun k hk => ⟨hk.1, hk.2.2.1⟩)
    exact Kd.R_far (Kd.R_far (Kd.R_below R1 HBB.out) (fun k hk e => by have : k = w.heap.size + 1 := e; have := hk.2; omega) _) (fun k hk e => by have : k = w.heap.size + 1 := e; have := hk.2; omega) _
end Go.Proofs.Ytbddllklagiajaa

namespace Go.Proofs.Ytbddllklagiajaa
open PBlocksEncodes
open Go.RowKit Go.Proofs.YtbddllklagiajaaW.PrintWords Go.Proofs.YtbddllklagiajaaW.PrintLast Go.Proofs.YtbddllklagiajaaW.PrintMore
set_option linter.unusedVariables false
set_option linter.unusedSimpArgs false

set_option maxRecDepth 100000 in
set_option maxHeartbeats 4000000 in
theorem refTake_calls (base : Nat) (Q : Nat → Prop) (first : Int) (A : Option Addr) (n c : Nat) (l : List Int) (w : World) (hr : KI.R 3 w base Q (.slice A n c) l) (hb : base ≤ w.heap.size) (hf : 0 ≤ first ∧ first ≤ 1073741824) (hn : l.length ≤ 65536) :
    Calls Try.prog 83 #[.agg #[.int .i64 first, .slice A n c]] w fun e w' => ∃ v, e = .returned (.tuple #[.agg #[.int .i64 first, v], .int .i64 (takeM first l).2.1, .int .i64 (takeM first l).2.2]) ∧ KI.R 3 w' base (fun k => Q k ∨ w.heap.size ≤ k) v (takeM first l).1 ∧ Below w.heap.size w w' := by
  have HR := Aside0.mk hr
  have h1 := Kd.R_reads' hr
  obtain rfl := h1.1
  have HC := Aside0.mk (fun W (hW : Below w.heap.size w W) => (Kd.R_reads' (Kd.R_below hr hW)).2.2)
  have hcc := h1.2.1
  have HB := Aside0.mk hb
  clear hr h1 hb
  go_enter Try.func83, Try.ntmps83
  go_wp2_with fail
  obtain ⟨W0, hW0⟩ : ∃ W0, (w.alloc (.cells #[.int .i64 first, .slice A l.length c] 63)).alloc (.cells #[.int .i64 0, .slice none 0 0] 63) = W0 := ⟨_, rfl⟩
  obtain ⟨b0, b1, B1'⟩ := two_boxes w _ (.int .i64 first) (.slice A l.length c) (.int .i64 0) (.slice none 0 0) (Below.refl _ _)
  rw [hW0] at b0 b1 B1' ⊢
  clear hW0
  have HB0 := Aside0.mk b0
  have HB1 := Aside0.mk b1
  have HBB := Aside0.mk B1'
  clear b0 b1 B1'
  go_loopw [5] (fun i wr => ∃ k : Nat, k ≤ l.length ∧ i = .int .i64 k ∧ (0 : Int) ∉ l.take k ∧ wr = W0) (fun i _ => l.length - (intOf i).toNat)
  case atStart => exact ⟨0, Nat.zero_le _, rfl, by simp, rfl⟩
  case round =>
    obtain ⟨k, hk, rfl, hni, rfl⟩ := hrel
    have c0 := blk_cell HB0.out 0
    have c1 := blk_cell HB0.out 1
    have hwk : IntKind.i64.wrap (first + (k : Int)) = first + (k : Int) := by rw [IntKind.wrap_i64]; omega
    by_cases hlt : k < l.length
    · obtain ⟨ad, e, hx⟩ := Kd.at_int (HC.out wr HBB.out) k (by omega) (by omega)
      subst e
      rw [mg_rd, Int.toNat_natCast] at hx
      obtain ⟨s, hs⟩ : ∃ s, l.getD k 0 = s := ⟨_, rfl⟩
      rw [hs] at hx
      have HNI := Aside0.mk hni
      have HS := Aside0.mk hs
      clear hni hs
      by_cases h0 : s = 0
      · subst h0
        have hidx := idx_of_notin hlt HNI.out HS.out
        have ht : takeM first l = (l.set k 2, first + (k : Int), 0) := by unfold takeM; rw [if_pos hidx.1, hidx.2]
        have HT := Aside0.mk ht
        have HW := Aside0.mk (replevinref12_with.calls first (some ad) c l (first + (k : Int)) 2 _ _ wr.drew (HC.out wr.drew HBB.out.drew) hcc (with_f l first 2 k hlt (by omega) hf))
        clear hidx ht
        have f0 := blk_cell HB1.out 0
        have f1 := blk_cell HB1.out 1
        have z0 := blk_frozen HB1.out 0
        have z1 := blk_frozen HB1.out 1
        go_wp2_with fail
        go_region_with (refine HW.out.mono ?_; rintro e w2 ⟨v, rfl, R, B2⟩; obtain ⟨A2, n2, c2, rfl⟩ := R_form' R; have k0 := (B2.block _ (blk_lt HB0.out)).trans HB0.out; have k1 := (B2.block _ (blk_lt HB1.out)).trans HB1.out; have f2 := blk_cell k1 0; have f3 := blk_cell k1 1; have z2 := blk_frozen k1 0; have z3 := blk_frozen k1 1; have g0 := blk_cell k0 0; have g1 := blk_cell k0 1; have HK1 := Aside0.mk k1; have HR2 := Aside0.mk R; have HB2 := Aside0.mk B2; clear k0 k1 R B2)
        all_goals (go_wp2)
        all_goals
          rw [HT.out]
          refine bodyPost_ret (results_ctt rfl _ _ (w.heap.size + 1) 63 #[.int .i64 first, .slice A2 n2 c2] (0, 0) _ rfl (blk_put (cs := #[.int .i64 first, .slice none 0 0]) (blk_put (cs := #[.int .i64 0, .slice none 0 0]) HK1.out 0 _ rfl) 1 _ rfl) Try.underlying63 rfl (by kernel_rfl)) rfl ?_
          refine ⟨_, rfl, ?_, below_set (below_set (HBB.out.drew.trans (HB2.out.mono HBB.out.size)) (by simp)) (by simp)⟩
          refine Kd.R_mono (ok := fun k => wr.heap.size ≤ k) ?_ (fun k hk => .inr (Nat.le_trans HBB.out.size hk))
          have R1 : KI.R 3 w2 base (fun k => wr.heap.size ≤ k) (.slice A2 n2 c2) (l.set k 2) := Kd.R_lower (Kd.R_mono (Kd.R_bound HR2.out) (fun k hk => hk.2.1)) (Nat.le_trans HB.out HBB.out.size)
          have hk1 : w.heap.size + 1 < wr.heap.size := blk_lt HB1.out
          exact Kd.R_far (Kd.R_far R1 (fun k hk e => by have : k = w.heap.size + 1 := e; omega) _) (fun k hk e => by have : k = w.heap.size + 1 := e; omega) _
      · have d0 : (s == 0) = false := beq_eq_false_iff_ne.mpr h0
        have hn2 : (0 : Int) ∉ l.take (k + 1) := by
          rw [take_snoc' l k hlt, HS.out]
          simp only [List.mem_append, List.mem_singleton]
          rintro (h | h)
          · exact HNI.out h
          · exact h0 h.symm
        have HN2 := Aside0.mk hn2
        clear hn2 h0
        go_wp2
        go_roundw
        case rel => exact ⟨k + 1, by omega, by go_num, HN2.out, by trivial⟩
        case measure => simp [intOf]; omega
    · have hkn : k = l.length := by omega
      subst hkn
      have HNI := Aside0.mk hni
      clear hni hlt hk
      have f0 := blk_cell HB1.out 0
      have f1 := blk_cell HB1.out 1
      have z0 := blk_frozen HB1.out 0
      have z1 := blk_frozen HB1.out 1
      go_wp2
      refine bodyPost_ret (results_ctt rfl _ _ (w.heap.size + 1) 63 #[.int .i64 first, .slice A l.length c] (0, 0) _ rfl (blk_put (cs := #[.int .i64 first, .slice none 0 0]) (blk_put (cs := #[.int .i64 0, .slice none 0 0]) HB1.out 0 _ rfl) 1 _ rfl) Try.underlying63 rfl (by kernel_rfl)) rfl ?_
      have ht : takeM first l = (l, 0, 26) := by
        have := HNI.out
        rw [List.take_of_length_le (Nat.le_refl _)] at this
        unfold takeM
        rw [if_neg this]
      rw [ht]
      refine ⟨_, rfl, ?_, below_set (below_set HBB.out (by simp)) (by simp)⟩
      refine Kd.R_mono (ok := fun k => Q k ∧ k < w.heap.size) ?_ (fun k hk => .inl hk.1)
      have R1 : KI.R 3 w base (fun k => Q k ∧ k < w.heap.size) (.slice A l.length c) l := Kd.R_mono (Kd.R_bound HR.out) (fun k hk => ⟨hk.1, hk.2.2.1⟩)
      exact Kd.R_far (Kd.R_far (Kd.R_below R1 HBB.out) (fun k hk e => by have : k = w.heap.size + 1 := e; have := hk.2; omega) _) (fun k hk e => by have : k = w.heap.size + 1 := e; have := hk.2; omega) _
end Go.Proofs.Ytbddllklagiajaa
