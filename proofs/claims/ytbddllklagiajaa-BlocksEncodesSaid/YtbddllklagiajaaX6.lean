/- replevinlaw12.do: an operation on both. replevinlaw12.Same: a map is the one of the reference. replevinlaw12.begin. A struct's fields, read. Operations that came in. -/
import Derived.Test.YtbddllklagiajaaX5
import Derived.Test.YtbddllklagiajaaX4
import Derived.Deep.QuietTactic
import Derived.BigQuiet
import Derived.Deep.Slices
import Derived.Deep.Fields
import Derived.ChangeSame
namespace Go.Proofs.Ytbddllklagiajaa
open PBlocksEncodes
open Go.RowKit Go.Proofs.YtbddllklagiajaaW.PrintWords Go.Proofs.YtbddllklagiajaaW.PrintLast Go.Proofs.YtbddllklagiajaaW.PrintMore
set_option linter.unusedVariables false
set_option linter.unusedSimpArgs false

/-- The states after an operation. -/
def doM (first : Int) (st : List Int) (kind block : Int) : List Int :=
  if kind % 4 = 0 then (takeM first st).1 else if kind % 4 = 1 then (giveM first st block).1 else if kind % 4 = 2 then st.map (nextM 0 1 1 0) else st.map (nextM 0 1 0 1)
theorem WfM.doM {first : Int} {st : List Int} (h : WfM first st) (kind block : Int) : WfM first (doM first st kind block) := by
  unfold Ytbddllklagiajaa.doM
  split
  · exact h.take
  · split
    · exact h.give block
    · split
      · exact h.next (by decide)
      · exact h.next (by decide)

theorem Mp.far {base g : Nat} {w : World} {P : Nat → Prop} {first : Int} {st : List Int} (h : Mp base w g P first st) {b : Nat} (hg : g ≠ b) (hP : ∀ k, P k → k ≠ b) (i : Nat) (u : Value) : Mp base (w.setCell ⟨b, i, none⟩ u) g P first st :=
  h.frm (S := fun k => k = b) ((Frm.refl w (fun k => k = b)).setCell (p := ⟨b, i, none⟩) (.inl rfl) u) hg (fun k hk e => hP k hk e)

theorem three_boxes (w : World) (v1 v2 x1 x2 y1 y2 : Value) :
    (((w.alloc (.cells #[v1, v2] 63)).alloc (.cells #[x1, x2] 70)).alloc (.cells #[y1, y2] 63)).heap[w.heap.size]? = some (.cells #[v1, v2] 63 (0, 0)) ∧ (((w.alloc (.cells #[v1, v2] 63)).alloc (.cells #[x1, x2] 70)).alloc (.cells #[y1, y2] 63)).heap[w.heap.size + 1]? = some (.cells #[x1, x2] 70 (0, 0)) ∧
    (((w.alloc (.cells #[v1, v2] 63)).alloc (.cells #[x1, x2] 70)).alloc (.cells #[y1, y2] 63)).heap[w.heap.size + 1 + 1]? = some (.cells #[y1, y2] 63 (0, 0)) ∧ Below w.heap.size w (((w.alloc (.cells #[v1, v2] 63)).alloc (.cells #[x1, x2] 70)).alloc (.cells #[y1, y2] 63)) := by
  refine ⟨blk_alloc (blk_alloc (blk_new w _) _) _, ?_, ?_, below_alloc (below_alloc (below_alloc (Below.refl _ w) _) _) _⟩
  · have := blk_new (w.alloc (.cells #[v1, v2] 63)) (.cells #[x1, x2] 70)
    rw [World.size_alloc] at this
    exact blk_alloc this _
  · have := blk_new ((w.alloc (.cells #[v1, v2] 63)).alloc (.cells #[x1, x2] 70)) (.cells #[y1, y2] 63)
    rw [World.size_alloc, World.size_alloc] at this
    exact this

set_option maxRecDepth 100000 in
set_option maxHeartbeats 4000000 in
theorem do_calls (base g base2 : Nat) (P Q : Nat → Prop) (first : Int) (st : List Int) (A : Option Addr) (n c : Nat) (kind block : Int) (w : World) (h : Mp base w g P first st) (hw : WfM first st) (hr : KI.R 3 w base2 Q (.slice A n c) st)
    (hb2 : base2 ≤ w.heap.size) (hP : ∀ k, P k → k < w.heap.size) (hPQ : ∀ k, Q k → ¬ P k) (hkd : 0 ≤ kind ∧ kind ≤ 255) (hbl : block ≤ 9223372036854775807) :
    Calls Try.prog 41 #[.pointer (some ⟨g, 0, none⟩), .agg #[.int .i64 first, .slice A n c], .agg #[.int .u8 kind, .int .i64 block]] w fun e w' =>
      ∃ v, e = .returned (.tuple #[.agg #[.int .i64 first, v], .bool true]) ∧ Mp base w' g P first (doM first st kind block) ∧ KI.R 3 w' base2 (fun k => Q k ∨ w.heap.size ≤ k) v (doM first st kind block) ∧ Frm w w' P := by
  have HM := Aside0.mk h
  have HG := Aside0.mk h.lt
  have HW := Aside0.mk hw
  have HR : Aside0 (KI.R 3 w base2 (fun k => Q k ∧ k < w.heap.size) (.slice A n c) st) := Aside0.mk (Kd.R_mono (Kd.R_bound hr) (fun k hk => ⟨hk.1, hk.2.2.1⟩))
  have HB2 := Aside0.mk hb2
  have HP := Aside0.mk hP
  have HPQ := Aside0.mk hPQ
  have hf1 : 0 ≤ first ∧ first ≤ 1073741824 := ⟨hw.1, hw.2.1⟩
  have hlen : st.length ≤ 65536 := hw.2.2.2.1
  have hns := (Kd.R_reads' hr).1
  have hnc := (Kd.R_reads' hr).2.1
  have htm : kind.tmod 4 = kind % 4 := Int.tmod_eq_emod_of_nonneg hkd.1
  have hwm : IntKind.u8.wrap (kind % 4) = kind % 4 := by rw [IntKind.wrap_u8]; omega
  clear h hw hr hb2 hP hPQ
  have h4 : kind % 4 = 0 ∨ kind % 4 = 1 ∨ kind % 4 = 2 ∨ kind % 4 = 3 := by omega
  unfold doM
  obtain ⟨m4, hm4⟩ : ∃ m4, kind % 4 = m4 := ⟨_, rfl⟩
  rw [hm4] at htm hwm h4 ⊢
  have h0 := three_boxes w (.int .i64 first) (.slice A n c) (.int .u8 kind) (.int .i64 block) (.int .i64 first) (.slice A n c)
  obtain ⟨W0, hW0⟩ : ∃ W0, ((w.alloc (.cells #[.int .i64 first, .slice A n c] 63)).alloc (.cells #[.int .u8 kind, .int .i64 block] 70)).alloc (.cells #[.int .i64 first, .slice A n c] 63) = W0 := ⟨_, rfl⟩
  rw [hW0] at h0
  obtain ⟨b0, b1, b2, B0⟩ := h0
  subst hns
  clear hm4 hkd
  have HK0 := Aside0.mk b0
  have HK1 := Aside0.mk b1
  have HK2 := Aside0.mk b2
  have HBB := Aside0.mk B0
  have HWW := Aside0.mk hW0
  have HSZ := Aside0.mk (show w.heap.size + 1 + 1 < W0.heap.size from blk_lt b2)
  clear b0 b1 b2 B0 hW0
  rcases h4 with rfl | rfl | rfl | rfl
  · rw [if_pos rfl]
    go_enter Try.func41, Try.ntmps41
    go_wp2_with fail
    rw [HWW.out]
    refine (take_calls base g P first st W0 (HM.out.fresh HBB.out) HW.out).mono ?_
    rintro e w1 ⟨rfl, M, F⟩
    have hnp : ∀ k, w.heap.size ≤ k → ¬ P k := fun k hk hp => by have := HP.out k hp; omega
    have k0 := F.blk HK0.out (hnp _ (by omega))
    have k1 := F.blk HK1.out (hnp _ (by omega))
    have k2 := F.blk HK2.out (hnp _ (by omega))
    have hs1 := F.size
    have HR1 := Aside0.mk (Kd.R_kept (Kd.R_below HR.out HBB.out) F.kept (fun k hk hp => HPQ.out k hk.1 hp))
    have HM1 := Aside0.mk M
    have HF1 := Aside0.mk F
    have c0 := blk_cell k0 0
    have c1 := blk_cell k0 1
    have c2 := blk_cell k1 0
    have c3 := blk_cell k1 1
    have HK3 := Aside0.mk k2
    have HS1 := Aside0.mk hs1
    clear k0 k1 k2 M F hnp hs1
    go_wp2_with fail
    refine (refTake_calls base2 _ first A _ c st w1 HR1.out (by have := HB2.out; have := HBB.out.size; have := HS1.out; omega) hf1 hlen).mono ?_
    rintro e w2 ⟨v, rfl, R2, B2⟩
    obtain ⟨A2, n2, c2', rfl⟩ := R_form' R2
    have k2 := (B2.block _ (blk_lt HK3.out)).trans HK3.out
    have c4 := blk_cell k2 0
    have c5 := blk_cell k2 1
    have z4 := blk_frozen k2 0
    have z5 := blk_frozen k2 1
    have HK4 := Aside0.mk k2
    have HR2 := Aside0.mk R2
    have HB3 := Aside0.mk B2
    clear c0 c1 c2 c3 k2 R2 B2
    go_wp2
    refine bodyPost_ret (results_ct rfl _ _ (w.heap.size + 1 + 1) 63 #[.int .i64 first, .slice A2 n2 c2'] (0, 0) _ rfl ?_ Try.underlying63 rfl (by kernel_rfl)) rfl ?_
    · refine blk_put (cs := #[.int .i64 first, .slice A2 n2 c2']) ?_ 1 _ rfl
      refine blk_put (cs := #[.int .i64 first, .slice A2 n2 c2']) ?_ 0 _ rfl
      refine blk_put (cs := #[.int .i64 first, .slice A st.length c]) ?_ 1 _ rfl
      refine blk_put (cs := #[.int .i64 first, .slice A st.length c]) ?_ 0 _ rfl
      exact HK4.out
    · have hs1 := HS1.out
      have hsz := HSZ.out
      have hfar : ∀ k, ((Q k ∧ k < w.heap.size) ∨ w1.heap.size ≤ k) → k ≠ w.heap.size + 1 + 1 := by
        rintro k (hk | hk)
        · have := hk.2; omega
        · omega
      refine ⟨_, rfl, ?_, ?_, ?_⟩
      · have hg2 : g ≠ w.heap.size + 1 + 1 := by have := HG.out; omega
        have hP2 : ∀ k, P k → k ≠ w.heap.size + 1 + 1 := fun k hk e => by have := HP.out k hk; omega
        exact (((((HM1.out.fresh HB3.out).far hg2 hP2 _ _).far hg2 hP2 _ _).far hg2 hP2 _ _).far hg2 hP2 _ _)
      · refine Kd.R_mono (ok := fun k => (Q k ∧ k < w.heap.size) ∨ w1.heap.size ≤ k) ?_ (fun k hk => hk.imp (fun h => h.1) (fun h => by have := HBB.out.size; omega))
        have R1 := HR2.out
        exact Kd.R_far (Kd.R_far (Kd.R_far (Kd.R_far R1 hfar _) hfar _) hfar _) hfar _
      · refine ((((((Frm.of_fresh HBB.out P).then_ HF1.out (fun _ h => .inl h)).fresh HB3.out).setCell (.inr ?_) _).setCell (.inr ?_) _).setCell (.inr ?_) _).setCell (.inr ?_) _
        all_goals (simp; omega)
  · rw [if_neg (by decide), if_pos rfl]
    go_enter Try.func41, Try.ntmps41
    go_wp2_with fail
    rw [HWW.out]
    refine (give_calls base g P first st W0 (HM.out.fresh HBB.out) block hf1.1 hbl HW.out.2.2.2.2).mono ?_
    rintro e w1 ⟨rfl, M, F⟩
    have hnp : ∀ k, w.heap.size ≤ k → ¬ P k := fun k hk hp => by have := HP.out k hp; omega
    have k0 := F.blk HK0.out (hnp _ (by omega))
    have k1 := F.blk HK1.out (hnp _ (by omega))
    have k2 := F.blk HK2.out (hnp _ (by omega))
    have hs1 := F.size
    have HR1 := Aside0.mk (Kd.R_kept (Kd.R_below HR.out HBB.out) F.kept (fun k hk hp => HPQ.out k hk.1 hp))
    have HM1 := Aside0.mk M
    have HF1 := Aside0.mk F
    have c0 := blk_cell k0 0
    have c1 := blk_cell k0 1
    have c2 := blk_cell k1 0
    have c3 := blk_cell k1 1
    have HK3 := Aside0.mk k2
    have HS1 := Aside0.mk hs1
    clear k0 k1 k2 M F hnp hs1
    go_wp2_with fail
    refine (refGive_calls base2 _ first A _ c st block w1 HR1.out (by have := HB2.out; have := HBB.out.size; have := HS1.out; omega) hf1 hbl hlen).mono ?_
    rintro e w2 ⟨v, rfl, R2, B2⟩
    obtain ⟨A2, n2, c2', rfl⟩ := R_form' R2
    have k2 := (B2.block _ (blk_lt HK3.out)).trans HK3.out
    have c4 := blk_cell k2 0
    have c5 := blk_cell k2 1
    have z4 := blk_frozen k2 0
    have z5 := blk_frozen k2 1
    have HK4 := Aside0.mk k2
    have HR2 := Aside0.mk R2
    have HB3 := Aside0.mk B2
    clear c0 c1 c2 c3 k2 R2 B2
    go_wp2
    refine bodyPost_ret (results_ct rfl _ _ (w.heap.size + 1 + 1) 63 #[.int .i64 first, .slice A2 n2 c2'] (0, 0) _ rfl ?_ Try.underlying63 rfl (by kernel_rfl)) rfl ?_
    · refine blk_put (cs := #[.int .i64 first, .slice A2 n2 c2']) ?_ 1 _ rfl
      refine blk_put (cs := #[.int .i64 first, .slice A2 n2 c2']) ?_ 0 _ rfl
      refine blk_put (cs := #[.int .i64 first, .slice A st.length c]) ?_ 1 _ rfl
      refine blk_put (cs := #[.int .i64 first, .slice A st.length c]) ?_ 0 _ rfl
      exact HK4.out
    · have hs1 := HS1.out
      have hsz := HSZ.out
      have hfar : ∀ k, ((Q k ∧ k < w.heap.size) ∨ w1.heap.size ≤ k) → k ≠ w.heap.size + 1 + 1 := by
        rintro k (hk | hk)
        · have := hk.2; omega
        · omega
      refine ⟨_, rfl, ?_, ?_, ?_⟩
      · have hg2 : g ≠ w.heap.size + 1 + 1 := by have := HG.out; omega
        have hP2 : ∀ k, P k → k ≠ w.heap.size + 1 + 1 := fun k hk e => by have := HP.out k hk; omega
        exact (((((HM1.out.fresh HB3.out).far hg2 hP2 _ _).far hg2 hP2 _ _).far hg2 hP2 _ _).far hg2 hP2 _ _)
      · refine Kd.R_mono (ok := fun k => (Q k ∧ k < w.heap.size) ∨ w1.heap.size ≤ k) ?_ (fun k hk => hk.imp (fun h => h.1) (fun h => by have := HBB.out.size; omega))
        have R1 := HR2.out
        exact Kd.R_far (Kd.R_far (Kd.R_far (Kd.R_far R1 hfar _) hfar _) hfar _) hfar _
      · refine ((((((Frm.of_fresh HBB.out P).then_ HF1.out (fun _ h => .inl h)).fresh HB3.out).setCell (.inr ?_) _).setCell (.inr ?_) _).setCell (.inr ?_) _).setCell (.inr ?_) _
        all_goals (simp; omega)
  · rw [if_neg (by decide), if_neg (by decide), if_pos (by decide)]
    go_enter Try.func41, Try.ntmps41
    go_wp2_with fail
    rw [HWW.out]
    refine (commit_calls base g P first st W0 (HM.out.fresh HBB.out) HW.out.2.2.2.2 hlen).mono ?_
    rintro e w1 ⟨rfl, M, F⟩
    have hnp : ∀ k, w.heap.size ≤ k → ¬ P k := fun k hk hp => by have := HP.out k hp; omega
    have k0 := F.blk HK0.out (hnp _ (by omega))
    have k1 := F.blk HK1.out (hnp _ (by omega))
    have k2 := F.blk HK2.out (hnp _ (by omega))
    have hs1 := F.size
    have HR1 := Aside0.mk (Kd.R_kept (Kd.R_below HR.out HBB.out) F.kept (fun k hk hp => HPQ.out k hk.1 hp))
    have HM1 := Aside0.mk M
    have HF1 := Aside0.mk F
    have c0 := blk_cell k0 0
    have c1 := blk_cell k0 1
    have c2 := blk_cell k1 0
    have c3 := blk_cell k1 1
    have HK3 := Aside0.mk k2
    have HS1 := Aside0.mk hs1
    clear k0 k1 k2 M F hnp hs1
    go_wp2_with fail
    refine (replevinref12_Commit.calls (st.length + 1) first A c st _ _ w1 (Kd.R_reads' HR1.out).2.2 hnc (commit_f st first (by omega) _ (by omega))).mono ?_
    rintro e w2 ⟨v, rfl, R2, B2⟩
    obtain ⟨A2, n2, c2', rfl⟩ := R_form' R2
    have k2 := (B2.block _ (blk_lt HK3.out)).trans HK3.out
    have c4 := blk_cell k2 0
    have c5 := blk_cell k2 1
    have z4 := blk_frozen k2 0
    have z5 := blk_frozen k2 1
    have HK4 := Aside0.mk k2
    have HR2 := Aside0.mk R2
    have HB3 := Aside0.mk B2
    clear c0 c1 c2 c3 k2 R2 B2
    go_wp2
    refine bodyPost_ret (results_ct rfl _ _ (w.heap.size + 1 + 1) 63 #[.int .i64 first, .slice A2 n2 c2'] (0, 0) _ rfl ?_ Try.underlying63 rfl (by kernel_rfl)) rfl ?_
    · refine blk_put (cs := #[.int .i64 first, .slice A2 n2 c2']) ?_ 1 _ rfl
      refine blk_put (cs := #[.int .i64 first, .slice A2 n2 c2']) ?_ 0 _ rfl
      refine blk_put (cs := #[.int .i64 first, .slice A st.length c]) ?_ 1 _ rfl
      refine blk_put (cs := #[.int .i64 first, .slice A st.length c]) ?_ 0 _ rfl
      exact HK4.out
    · have hs1 := HS1.out
      have hsz := HSZ.out
      have hfar : ∀ k, ((Q k ∧ k < w.heap.size) ∨ w1.heap.size ≤ k) → k ≠ w.heap.size + 1 + 1 := by
        rintro k (hk | hk)
        · have := hk.2; omega
        · omega
      refine ⟨_, rfl, ?_, ?_, ?_⟩
      · have hg2 : g ≠ w.heap.size + 1 + 1 := by have := HG.out; omega
        have hP2 : ∀ k, P k → k ≠ w.heap.size + 1 + 1 := fun k hk e => by have := HP.out k hk; omega
        exact (((((HM1.out.fresh HB3.out).far hg2 hP2 _ _).far hg2 hP2 _ _).far hg2 hP2 _ _).far hg2 hP2 _ _)
      · refine Kd.R_mono (ok := fun k => (Q k ∧ k < w.heap.size) ∨ w1.heap.size ≤ k) ?_ (fun k hk => hk.imp (fun h => h.1) (fun h => by have := HBB.out.size; omega))
        have R1 := (show KI.R 3 w2 base2 (fun k => (Q k ∧ k < w.heap.size) ∨ w1.heap.size ≤ k) (.slice A2 n2 c2') (st.map (nextM 0 1 1 0)) from by rw [← chg_next HW.out.2.2.2.2]; exact Kd.R_lower (Kd.R_mono (Kd.R_bound HR2.out) (fun k hk => .inr hk.2.1)) (by have := HB2.out; have := HBB.out.size; omega))
        exact Kd.R_far (Kd.R_far (Kd.R_far (Kd.R_far R1 hfar _) hfar _) hfar _) hfar _
      · refine ((((((Frm.of_fresh HBB.out P).then_ HF1.out (fun _ h => .inl h)).fresh HB3.out).setCell (.inr ?_) _).setCell (.inr ?_) _).setCell (.inr ?_) _).setCell (.inr ?_) _
        all_goals (simp; omega)
  · rw [if_neg (by decide), if_neg (by decide), if_neg (by decide)]
    go_enter Try.func41, Try.ntmps41
    go_wp2_with fail
    rw [HWW.out]
    refine (abort_calls base g P first st W0 (HM.out.fresh HBB.out) HW.out.2.2.2.2 hlen).mono ?_
    rintro e w1 ⟨rfl, M, F⟩
    have hnp : ∀ k, w.heap.size ≤ k → ¬ P k := fun k hk hp => by have := HP.out k hp; omega
    have k0 := F.blk HK0.out (hnp _ (by omega))
    have k1 := F.blk HK1.out (hnp _ (by omega))
    have k2 := F.blk HK2.out (hnp _ (by omega))
    have hs1 := F.size
    have HR1 := Aside0.mk (Kd.R_kept (Kd.R_below HR.out HBB.out) F.kept (fun k hk hp => HPQ.out k hk.1 hp))
    have HM1 := Aside0.mk M
    have HF1 := Aside0.mk F
    have c0 := blk_cell k0 0
    have c1 := blk_cell k0 1
    have c2 := blk_cell k1 0
    have c3 := blk_cell k1 1
    have HK3 := Aside0.mk k2
    have HS1 := Aside0.mk hs1
    clear k0 k1 k2 M F hnp hs1
    go_wp2_with fail
    refine (replevinref12_Abort.calls (st.length + 1) first A c st _ _ w1 (Kd.R_reads' HR1.out).2.2 hnc (abort_f st first (by omega) _ (by omega))).mono ?_
    rintro e w2 ⟨v, rfl, R2, B2⟩
    obtain ⟨A2, n2, c2', rfl⟩ := R_form' R2
    have k2 := (B2.block _ (blk_lt HK3.out)).trans HK3.out
    have c4 := blk_cell k2 0
    have c5 := blk_cell k2 1
    have z4 := blk_frozen k2 0
    have z5 := blk_frozen k2 1
    have HK4 := Aside0.mk k2
    have HR2 := Aside0.mk R2
    have HB3 := Aside0.mk B2
    clear c0 c1 c2 c3 k2 R2 B2
    go_wp2
    refine bodyPost_ret (results_ct rfl _ _ (w.heap.size + 1 + 1) 63 #[.int .i64 first, .slice A2 n2 c2'] (0, 0) _ rfl ?_ Try.underlying63 rfl (by kernel_rfl)) rfl ?_
    · refine blk_put (cs := #[.int .i64 first, .slice A2 n2 c2']) ?_ 1 _ rfl
      refine blk_put (cs := #[.int .i64 first, .slice A2 n2 c2']) ?_ 0 _ rfl
      refine blk_put (cs := #[.int .i64 first, .slice A st.length c]) ?_ 1 _ rfl
      refine blk_put (cs := #[.int .i64 first, .slice A st.length c]) ?_ 0 _ rfl
      exact HK4.out
    · have hs1 := HS1.out
      have hsz := HSZ.out
      have hfar : ∀ k, ((Q k ∧ k < w.heap.size) ∨ w1.heap.size ≤ k) → k ≠ w.heap.size + 1 + 1 := by
        rintro k (hk | hk)
        · have := hk.2; omega
        · omega
      refine ⟨_, rfl, ?_, ?_, ?_⟩
      · have hg2 : g ≠ w.heap.size + 1 + 1 := by have := HG.out; omega
        have hP2 : ∀ k, P k → k ≠ w.heap.size + 1 + 1 := fun k hk e => by have := HP.out k hk; omega
        exact (((((HM1.out.fresh HB3.out).far hg2 hP2 _ _).far hg2 hP2 _ _).far hg2 hP2 _ _).far hg2 hP2 _ _)
      · refine Kd.R_mono (ok := fun k => (Q k ∧ k < w.heap.size) ∨ w1.heap.size ≤ k) ?_ (fun k hk => hk.imp (fun h => h.1) (fun h => by have := HBB.out.size; omega))
        have R1 := (show KI.R 3 w2 base2 (fun k => (Q k ∧ k < w.heap.size) ∨ w1.heap.size ≤ k) (.slice A2 n2 c2') (st.map (nextM 0 1 0 1)) from by rw [← chg_next HW.out.2.2.2.2]; exact Kd.R_lower (Kd.R_mono (Kd.R_bound HR2.out) (fun k hk => .inr hk.2.1)) (by have := HB2.out; have := HBB.out.size; omega))
        exact Kd.R_far (Kd.R_far (Kd.R_far (Kd.R_far R1 hfar _) hfar _) hfar _) hfar _
      · refine ((((((Frm.of_fresh HBB.out P).then_ HF1.out (fun _ h => .inl h)).fresh HB3.out).setCell (.inr ?_) _).setCell (.inr ?_) _).setCell (.inr ?_) _).setCell (.inr ?_) _
        all_goals (simp; omega)
end Go.Proofs.Ytbddllklagiajaa

namespace Go.Proofs.Ytbddllklagiajaa
open PBlocksEncodes
open Go.RowKit Go.Proofs.YtbddllklagiajaaW.PrintWords Go.Proofs.YtbddllklagiajaaW.PrintLast Go.Proofs.YtbddllklagiajaaW.PrintMore
set_option linter.unusedVariables false
set_option linter.unusedSimpArgs false

set_option maxRecDepth 100000 in
set_option maxHeartbeats 8000000 in
theorem same_calls (base g base2 : Nat) (P Q : Nat → Prop) (first : Int) (st : List Int) (A : Option Addr) (n c : Nat) (w : World) (h : Mp base w g P first st) (hw : WfM first st) (hr : KI.R 3 w base2 Q (.slice A n c) st) :
    Calls Try.prog 40 #[.pointer (some ⟨g, 0, none⟩), .agg #[.int .i64 first, .slice A n c]] w fun e w' => e = .returned (.bool true) ∧ Below w.heap.size w w' := by
  have HW := Aside0.mk hw
  have hf1 : 0 ≤ first ∧ first ≤ 1073741824 := ⟨hw.1, hw.2.1⟩
  have hlen : st.length ≤ 65536 := hw.2.2.2.1
  have hns := (Kd.R_reads' hr).1
  have hnc := (Kd.R_reads' hr).2.1
  subst hns
  have HM := Aside0.mk (fun W (hW : Below w.heap.size w W) => h.fresh hW)
  have HC := Aside0.mk (fun W (hW : Below w.heap.size w W) => (Kd.R_reads' (Kd.R_below hr hW)).2.2)
  have HFI := Aside0.mk (fun W (hW : Below w.heap.size w W) => first_calls base g P first st W (HM.out W hW))
  have HCO := Aside0.mk (fun W (hW : Below w.heap.size w W) => count_calls base g P first st W (HM.out W hW))
  have HST := Aside0.mk (fun (x : Int) (hx : x ≤ 9223372036854775807) W (hW : Below w.heap.size w W) => state_calls base g P first st W (HM.out W hW) x hf1.1 hx hw.2.2.2.2)
  have HNU := Aside0.mk (fun (s : Int) W (hW : Below w.heap.size w W) => number_calls base g P first st W (HM.out W hW) hw s)
  have HRN := Aside0.mk (fun (s : Int) W (hW : Below w.heap.size w W) => replevinref12_Number.calls (st.length + 1) first A c st s _ W (HC.out W hW) hnc (number_f st s first (by omega) _ (by omega)))
  have HUS := Aside0.mk (fun W (hW : Below w.heap.size w W) => used_calls base g P first st W (HM.out W hW) hw)
  have HOL := Aside0.mk (fun W (hW : Below w.heap.size w W) => old_calls base g P first st W (HM.out W hW) hw)
  have HLI := Aside0.mk (fun (a b : Int) W (hW : Below w.heap.size w W) => replevinref12_List.calls (st.length + 1) first A c st a b _ W (HC.out W hW) hnc (list_f st a b first (by omega) hf1 _ (by omega)))
  clear h hw hr
  obtain ⟨W0, hW0⟩ : ∃ W0, w.alloc (.cells #[.int .i64 first, .slice A st.length c] 63) = W0 := ⟨_, rfl⟩
  have b0 := blk_new w (.cells #[.int .i64 first, .slice A st.length c] 63)
  have hB0 : Below w.heap.size w (w.alloc (.cells #[.int .i64 first, .slice A st.length c] 63)) := below_alloc (Below.refl _ w) _
  rw [hW0] at b0 hB0
  have HWW := Aside0.mk hW0
  have HB0 := Aside0.mk hB0
  have HX := Aside0.mk b0
  clear hW0 b0 hB0
  have HBT := Aside0.mk (fun W (hW : Below W0.heap.size W0 W) => (show Below w.heap.size w W from HB0.out.trans (hW.mono HB0.out.size)))
  have HXX := Aside0.mk (fun W (hW : Below W0.heap.size W0 W) => (show W.heap[w.heap.size]? = some (.cells #[.int .i64 first, .slice A st.length c] 63 (0, 0)) from (hW.block _ (blk_lt HX.out)).trans HX.out))
  go_enter Try.func40, Try.ntmps40
  go_wp2_with fail
  rw [HWW.out]
  have x0 : ∀ m, (W0.drewN m).cell? ⟨w.heap.size, 0, none⟩ = some (.int .i64 first) := fun m => blk_cell HX.out 0
  have x1 : ∀ m, (W0.drewN m).cell? ⟨w.heap.size, 1, none⟩ = some (.slice A st.length c) := fun m => blk_cell HX.out 1
  go_quiet (first | (go_at_call 47; exact Calls.quiet_of_same (HFI.out _ (pw_below_drewN HB0.out _))) | (go_at_call 48; exact Calls.quiet_of_same (HCO.out _ (pw_below_drewN HB0.out _))))
  clear x0 x1
  go_wp2
  go_loopw [5] (fun i wr => ∃ k : Nat, k ≤ st.length ∧ i = .int .i64 k ∧ Below W0.heap.size W0 wr) (fun i _ => st.length - (intOf i).toNat)
  case atStart => exact ⟨0, Nat.zero_le _, rfl, by repeat (first | exact Below.refl _ _ | exact pw_below_drewN (Below.refl _ _) _ | refine below_drew ?_)⟩
  case round =>
    obtain ⟨k, hk, rfl, hbw⟩ := hrel
    have HBx := Aside0.mk hbw
    clear hbw
    have x0 : ∀ m, (wr.drewN m).cell? ⟨w.heap.size, 0, none⟩ = some (.int .i64 first) := fun m => blk_cell (HXX.out wr HBx.out) 0
    have x1 : ∀ m, (wr.drewN m).cell? ⟨w.heap.size, 1, none⟩ = some (.slice A st.length c) := fun m => blk_cell (HXX.out wr HBx.out) 1
    have x2 : wr.cell? ⟨w.heap.size, 0, none⟩ = some (.int .i64 first) := blk_cell (HXX.out wr HBx.out) 0
    have x3 : wr.cell? ⟨w.heap.size, 1, none⟩ = some (.slice A st.length c) := blk_cell (HXX.out wr HBx.out) 1
    by_cases hlt : k < st.length
    · obtain ⟨ad, e, hx⟩ := Kd.at_int (HC.out wr (HBT.out wr HBx.out)) k (by omega) (by omega)
      subst e
      rw [mg_rd, Int.toNat_natCast] at hx
      have hx2 : ∀ m, (wr.drewN m).cell? (ad.add k) = some (.int .i64 (st.getD k 0)) := fun m => hx
      have hwk : IntKind.i64.wrap (first + (k : Int)) = first + (k : Int) := by rw [IntKind.wrap_i64]; omega
      have hs1 := HST.out (first + (k : Int)) (by omega) wr (HBT.out wr HBx.out)
      have hsm : stateM first st (first + (k : Int)) = (st.getD k 0, 0) := by
        unfold stateM
        rw [if_pos ⟨by omega, by omega⟩, show (first + (k : Int) - first).toNat = k by omega]
      rw [hsm] at hs1
      obtain ⟨s, hs⟩ : ∃ s, st.getD k 0 = s := ⟨_, rfl⟩
      rw [hs] at hs1 hx hx2
      have HS1 := Aside0.mk hs1
      clear hs1 hsm hs
      go_wp2_with fail
      refine HS1.out.mono ?_
      rintro e w1 ⟨rfl, m, rfl⟩
      go_wp2
      go_roundw
      case rel => exact ⟨k + 1, by omega, by go_num, pw_below_drewN HBx.out m⟩
      case measure => simp [intOf]; omega
    · obtain rfl : k = st.length := by omega
      clear hlt hk
      go_wp2
      go_loopw [8] (fun i wq => ∃ s : Int, -1 ≤ s ∧ s ≤ 6 ∧ i = .int .i64 s ∧ Below W0.heap.size W0 wq) (fun i _ => (6 - intOf i).toNat)
      case atStart => exact ⟨-1, by omega, by omega, rfl, HBx.out⟩
      case round =>
        clear HBx x0 x1 x2 x3
        obtain ⟨s, hs1, hs2, rfl, hbq⟩ := hrel
        have x2 : wr.drew.cell? ⟨w.heap.size, 0, none⟩ = some (.int .i64 first) := blk_cell (HXX.out wr hbq) 0
        have x3 : wr.drew.cell? ⟨w.heap.size, 1, none⟩ = some (.slice A st.length c) := blk_cell (HXX.out wr hbq) 1
        have HBx := Aside0.mk hbq.drew
        clear hbq
        by_cases hlt : s < 6
        · go_wp2_with fail
          go_region_with (first | (go_at_call 46; refine (HNU.out s _ (HBT.out _ HBx.out)).mono ?_; rintro e wN ⟨rfl, BN⟩; have HBx := Aside0.mk (show Below W0.heap.size W0 _ from HBx.out.trans (BN.mono HBx.out.size)); have y0 := (show _ = some (Value.int .i64 first) from blk_cell (HXX.out _ HBx.out) 0); have y1 := (show _ = some (Value.slice A st.length c) from blk_cell (HXX.out _ HBx.out) 1)) | (go_at_call 81; refine (HRN.out s _ (HBT.out _ HBx.out)).mono ?_; rintro e wN ⟨rfl, BN⟩; have HBx := Aside0.mk (show Below W0.heap.size W0 _ from HBx.out.trans (BN.mono HBx.out.size)); have y0 := (show _ = some (Value.int .i64 first) from blk_cell (HXX.out _ HBx.out) 0); have y1 := (show _ = some (Value.slice A st.length c) from blk_cell (HXX.out _ HBx.out) 1)))
          all_goals (go_wp2)
          all_goals
            go_roundw
            case rel => exact ⟨s + 1, by omega, by omega, by go_num, HBx.out⟩
            case measure => simp [intOf]; omega
        · obtain rfl : s = 6 := by omega
          clear hlt hs1 hs2
          go_wp2_with fail
          go_region_with (first | (go_at_call 44; with_reducible refine (HUS.out _ (HBT.out _ HBx.out)).mono ?_; rintro e wU ⟨vU, rfl, RU, BU⟩; obtain ⟨AU, nU, cU, rfl⟩ := R_form' RU; obtain rfl := (Kd.R_reads' RU).1; have HRU := Aside0.mk RU; (try have HRL := Aside0.mk (Kd.R_below HRL.out BU)); have HBx := Aside0.mk (show Below W0.heap.size W0 _ from HBx.out.trans (BU.mono HBx.out.size)); have y0 := (show _ = some (Value.int .i64 first) from blk_cell (HXX.out _ HBx.out) 0); have y1 := (show _ = some (Value.slice A st.length c) from blk_cell (HXX.out _ HBx.out) 1); clear RU BU) | (go_at_call 82; with_reducible refine (HLI.out 1 2 _ (HBT.out _ HBx.out)).mono ?_; rintro e wL ⟨vL, rfl, RL, BL⟩; obtain ⟨AL, nL, cL, rfl⟩ := R_form' RL; obtain rfl := (Kd.R_reads' RL).1; have HRL := Aside0.mk RL; (try have HRU := Aside0.mk (Kd.R_below HRU.out BL)); have HBx := Aside0.mk (show Below W0.heap.size W0 _ from HBx.out.trans (BL.mono HBx.out.size)); have y0 := (show _ = some (Value.int .i64 first) from blk_cell (HXX.out _ HBx.out) 0); have y1 := (show _ = some (Value.slice A st.length c) from blk_cell (HXX.out _ HBx.out) 1); clear RL BL) | (go_at_call 43; with_reducible refine (HOL.out _ (HBT.out _ HBx.out)).mono ?_; rintro e wO ⟨vO, rfl, RO, BO⟩; obtain ⟨AO, nO, cO, rfl⟩ := R_form' RO; obtain rfl := (Kd.R_reads' RO).1; have HRO := Aside0.mk RO; (try have HRM := Aside0.mk (Kd.R_below HRM.out BO)); have HBx := Aside0.mk (show Below W0.heap.size W0 _ from HBx.out.trans (BO.mono HBx.out.size)); have y0 := (show _ = some (Value.int .i64 first) from blk_cell (HXX.out _ HBx.out) 0); have y1 := (show _ = some (Value.slice A st.length c) from blk_cell (HXX.out _ HBx.out) 1); clear RO BO) | (go_at_call 82; with_reducible refine (HLI.out 1 3 _ (HBT.out _ HBx.out)).mono ?_; rintro e wM ⟨vM, rfl, RM, BM⟩; obtain ⟨AM, nM, cM, rfl⟩ := R_form' RM; obtain rfl := (Kd.R_reads' RM).1; have HRM := Aside0.mk RM; (try have HRO := Aside0.mk (Kd.R_below HRO.out BM)); have HBx := Aside0.mk (show Below W0.heap.size W0 _ from HBx.out.trans (BM.mono HBx.out.size)); have y0 := (show _ = some (Value.int .i64 first) from blk_cell (HXX.out _ HBx.out) 0); have y1 := (show _ = some (Value.slice A st.length c) from blk_cell (HXX.out _ HBx.out) 1); clear RM BM) | (go_at_call 55; with_reducible refine (replevinref12_Same.calls ((listM first st [1, 2]).length + 1) _ _ (listM first st [1, 2]) _ _ (listM first st [1, 2]) true _ (Kd.R_reads' HRU.out).2.2 (Kd.R_reads' HRU.out).2.1 (Kd.R_reads' HRL.out).2.2 (Kd.R_reads' HRL.out).2.1 (by rw [same_f _ _ (by rw [listM_length]; have := List.countP_le_length (p := fun s => decide (s ∈ ([1, 2] : List Int))) (l := st); omega) _ (by omega)]; simp)).mono ?_; rintro e wS ⟨rfl, DS⟩; have HBx := Aside0.mk (show Below W0.heap.size W0 _ from HBx.out.trans (DS.below.mono HBx.out.size)); have y0 := (show _ = some (Value.int .i64 first) from blk_cell (HXX.out _ HBx.out) 0); have y1 := (show _ = some (Value.slice A st.length c) from blk_cell (HXX.out _ HBx.out) 1)) | (go_at_call 55; with_reducible refine (replevinref12_Same.calls ((listM first st [1, 3]).length + 1) _ _ (listM first st [1, 3]) _ _ (listM first st [1, 3]) true _ (Kd.R_reads' HRO.out).2.2 (Kd.R_reads' HRO.out).2.1 (Kd.R_reads' HRM.out).2.2 (Kd.R_reads' HRM.out).2.1 (by rw [same_f _ _ (by rw [listM_length]; have := List.countP_le_length (p := fun s => decide (s ∈ ([1, 3] : List Int))) (l := st); omega) _ (by omega)]; simp)).mono ?_; rintro e wS ⟨rfl, DS⟩; have HBx := Aside0.mk (show Below W0.heap.size W0 _ from HBx.out.trans (DS.below.mono HBx.out.size)); have y0 := (show _ = some (Value.int .i64 first) from blk_cell (HXX.out _ HBx.out) 0); have y1 := (show _ = some (Value.slice A st.length c) from blk_cell (HXX.out _ HBx.out) 1)))
          all_goals (go_wp2)
          all_goals
            go_ret
            exact ⟨rfl, HBT.out _ HBx.out⟩
end Go.Proofs.Ytbddllklagiajaa

namespace Go.Proofs.Ytbddllklagiajaa
open PBlocksEncodes
open Go.RowKit Go.Proofs.YtbddllklagiajaaW.PrintWords Go.Proofs.YtbddllklagiajaaW.PrintLast Go.Proofs.YtbddllklagiajaaW.PrintMore
set_option linter.unusedVariables false
set_option linter.unusedSimpArgs false

/-- The number of blocks of a drawn range. -/
def cntM (b : Int) : Nat := (1 + b % 40).toNat
theorem begin_ok (a b : Int) (ha : 0 ≤ a ∧ a ≤ 65535) (hb : 0 ≤ b ∧ b ≤ 255) : WfM (a % 1000) (List.replicate (cntM b) 0) := by
  refine ⟨by omega, by omega, by rw [List.length_replicate]; unfold cntM; omega, by rw [List.length_replicate]; unfold cntM; omega, ?_⟩
  intro s hs
  rw [List.eq_of_mem_replicate hs]
  decide

set_option maxRecDepth 100000 in
set_option maxHeartbeats 4000000 in
theorem begin_calls (a b : Int) (w : World) (ha : 0 ≤ a ∧ a ≤ 65535) (hb : 0 ≤ b ∧ b ≤ 255) :
    Calls Try.prog 39 #[.int .u16 a, .int .u8 b] w fun e w' => ∃ g v N, e = .returned (.tuple #[.pointer (some ⟨g, 0, none⟩), .agg #[.int .i64 (a % 1000), v]]) ∧ Mp w.heap.size w' g (fun k => w.heap.size ≤ k ∧ k < N) (a % 1000) (List.replicate (cntM b) 0) ∧
      KI.R 3 w' w.heap.size (fun k => N ≤ k) v (List.replicate (cntM b) 0) ∧ N ≤ w'.heap.size ∧ g < N ∧ Below w.heap.size w w' := by
  have h1 : a.tmod 1000 = a % 1000 := Int.tmod_eq_emod_of_nonneg ha.1
  have h2 : b.tmod 40 = b % 40 := Int.tmod_eq_emod_of_nonneg hb.1
  have h3 : 1 + b % 40 = (cntM b : Int) := by unfold cntM; omega
  have h4 : 1 ≤ cntM b ∧ cntM b ≤ 40 := by unfold cntM; omega
  have h5 : 0 ≤ a % 1000 ∧ a % 1000 < 1000 := by omega
  have w1 : IntKind.i64.wrap a = a := by rw [IntKind.wrap_i64]; omega
  have w2 : IntKind.i64.wrap b = b := by rw [IntKind.wrap_i64]; omega
  have w3 : IntKind.i64.wrap (a % 1000) = a % 1000 := by rw [IntKind.wrap_i64]; omega
  have w4 : IntKind.i64.wrap (b % 40) = b % 40 := by rw [IntKind.wrap_i64]; omega
  have w5 : IntKind.i64.wrap (1 + b % 40) = 1 + b % 40 := by rw [IntKind.wrap_i64]; omega
  go_enter Try.func39, Try.ntmps39
  go_wp2_with fail
  refine (new_ok (a % 1000) (cntM b) _ ⟨by omega, by omega, by omega, by omega⟩).mono ?_
  rintro e v1 ⟨g, rfl, M1, hg1, B1⟩
  have hlt := M1.lt
  have hs0 : w.heap.size + 1 ≤ v1.heap.size := by have := B1.size; simp at this; exact this
  rw [World.size_alloc] at hg1
  have HM := Aside0.mk M1.tight
  have B1' := (below_alloc (Below.refl _ w) (.cells #[.int .i64 0, .slice none 0 0] 63)).trans (B1.mono (by simp))
  have b1 := (B1.block _ (by simp)).trans (blk_new w (.cells #[.int .i64 0, .slice none 0 0] 63))
  have HB := Aside0.mk B1'
  have HX := Aside0.mk b1
  clear M1 B1 B1' b1
  go_wp2_with fail
  refine (replevinref12_New.calls (a % 1000) (cntM b : Int) _ _ _ v1 (new_f (a % 1000) (cntM b) ⟨by omega, by omega, by omega, by omega⟩)).mono ?_
  rintro e v2 ⟨vr, rfl, R2, B2⟩
  obtain ⟨A2, n2, c2, rfl⟩ := R_form' R2
  have hs2 := B2.size
  have x0 : (v2.alloc (.cells #[.int .i64 (a % 1000), .slice A2 n2 c2] 63)).drew.heap[w.heap.size]? = some (.cells #[.int .i64 0, .slice none 0 0] 63 (0, 0)) := blk_drew (blk_alloc ((B2.block _ (blk_lt HX.out)).trans HX.out) _)
  have y0 : (v2.alloc (.cells #[.int .i64 (a % 1000), .slice A2 n2 c2] 63)).drew.cell? ⟨w.heap.size, 0, none⟩ = some (.int .i64 0) := blk_cell x0 0
  have y1 : (v2.alloc (.cells #[.int .i64 (a % 1000), .slice A2 n2 c2] 63)).drew.cell? ⟨w.heap.size, 1, none⟩ = some (.slice none 0 0) := blk_cell x0 1
  have y2 : (v2.alloc (.cells #[.int .i64 (a % 1000), .slice A2 n2 c2] 63)).cell? ⟨w.heap.size, 0, none⟩ = some (.int .i64 0) := blk_cell x0 0
  have y3 : (v2.alloc (.cells #[.int .i64 (a % 1000), .slice A2 n2 c2] 63)).cell? ⟨w.heap.size, 1, none⟩ = some (.slice none 0 0) := blk_cell x0 1
  have z0 := blk_frozen x0 0
  have z1 := blk_frozen x0 1
  have z2 : (v2.alloc (.cells #[.int .i64 (a % 1000), .slice A2 n2 c2] 63)).frozen? ⟨w.heap.size, 0, none⟩ = false := z0
  have z3 : (v2.alloc (.cells #[.int .i64 (a % 1000), .slice A2 n2 c2] 63)).frozen? ⟨w.heap.size, 1, none⟩ = false := z1
  have HX2 := Aside0.mk x0
  have HR2 := Aside0.mk R2
  have HB2 := Aside0.mk B2
  clear x0 R2 B2
  go_wp2_with fail
  go_region
  go_wp2
  refine bodyPost_ret (results_tc rfl _ _ w.heap.size 63 #[.int .i64 (a % 1000), .slice A2 n2 c2] (0, 0) _ rfl (blk_put (cs := #[.int .i64 (a % 1000), .slice none 0 0]) (blk_put (cs := #[.int .i64 0, .slice none 0 0]) HX2.out 0 _ rfl) 1 _ rfl) Try.underlying63 rfl (by kernel_rfl)) rfl ?_
  refine ⟨g, _, v1.heap.size, rfl, ?_, ?_, ?_, hlt, ?_⟩
  · have hM : Mp w.heap.size v1 g (fun k => w.heap.size + 1 ≤ k ∧ k < v1.heap.size) (a % 1000) (List.replicate (cntM b) 0) := by
      have := HM.out
      exact (Mp.mono this (fun k hk => ⟨by have := hk.1; simp at this; exact this, hk.2.2.2⟩)).lower (by simp)
    refine Mp.mono (P := fun k => w.heap.size + 1 ≤ k ∧ k < v1.heap.size) ?_ (fun k hk => ⟨by omega, hk.2⟩)
    refine Mp.far (Mp.far ?_ (by omega) (fun k hk => by omega) _ _) (by omega) (fun k hk => by omega) _ _
    exact (hM.fresh HB2.out).fresh (below_alloc (Below.refl _ _) _)
  · have R1 : KI.R 3 v2 w.heap.size (fun k => v1.heap.size ≤ k) (.slice A2 n2 c2) (List.replicate (cntM b) 0) := Kd.R_lower (Kd.R_mono (Kd.R_bound HR2.out) (fun k hk => hk.2.1)) (by omega)
    exact Kd.R_far (Kd.R_far (Kd.R_alloc R1 _) (fun k hk e => by have : k = w.heap.size := e; omega) _) (fun k hk e => by have : k = w.heap.size := e; omega) _
  · simp [World.setCell]
    omega
  · exact below_drew (below_set (below_set (below_alloc (HB.out.trans (HB2.out.mono HB.out.size)) _) (by simp)) (by simp))
end Go.Proofs.Ytbddllklagiajaa

namespace Go.Proofs.Ytbddllklagiajaa
open Go.RowKit Go.Proofs.YtbddllklagiajaaW.PrintWords Go.Proofs.YtbddllklagiajaaW.PrintLast Go.Proofs.YtbddllklagiajaaW.PrintMore
open Go.ChangeShapes Go.WideShapes Go.Deep
set_option linter.unusedVariables false
section
variable {H : Type} {enc : TypeId × Value → H} {w : World} {base : Nat} {spare : Nat → Bool} {held : Bool}

/-- A struct's fields of one cell each: field j is cell j, read by its own type. -/
theorem field_at {e : TypeId} {fs : Array Field} {fuel : Nat} {cs : List Value} {x : DataW H × List MemPlace} (he : Try.prog.underlying e = some (.struct fs)) (hone : oneCellFields Try.prog fs = true) (hC : Try.prog.cellsOf e = fs.size)
    (h : DataW.trod enc Try.prog w base spare held fuel e cs = some x) : cs.length = fs.size ∧ ∀ (j : Nat) (f : Field), fs[j]? = some f → ∃ v y n, cs[j]? = some v ∧ DataW.trod enc Try.prog w base spare held n f.type [v] = some y := by
  obtain ⟨ys, n, _, _, hlen, hyl, hf⟩ := DataW.trod_struct he h
  refine ⟨hlen.trans hC, fun j f hj => ?_⟩
  obtain ⟨ho, hk⟩ := hone_of hone j f hj
  have hjl : j < fs.size := (Array.getElem?_eq_some_iff.1 hj).1
  have h1 := hf j f hj
  have hjc : j < cs.length := by omega
  rw [ho, hk, List.drop_eq_getElem_cons hjc, List.take_succ_cons, List.take_zero, List.getElem?_eq_getElem (by omega)] at h1
  exact ⟨cs[j], _, n, List.getElem?_eq_getElem hjc, h1⟩

theorem wf_u8 {x : Int} (h : (Lit.int .u8 x).wf = true) : 0 ≤ x ∧ x ≤ 255 := by
  simp [Lit.wf, IntKind.min, IntKind.max, IntKind.bits, IntKind.signed] at h
  omega
theorem wf_i64 {x : Int} (h : (Lit.int .i64 x).wf = true) : -9223372036854775808 ≤ x ∧ x ≤ 9223372036854775807 := by
  simp [Lit.wf, IntKind.min, IntKind.max, IntKind.bits, IntKind.signed] at h
  omega

end
end Go.Proofs.Ytbddllklagiajaa

namespace Go.Proofs.Ytbddllklagiajaa
open Go.RowKit Go.Proofs.YtbddllklagiajaaW.PrintWords Go.Proofs.YtbddllklagiajaaW.PrintLast Go.Proofs.YtbddllklagiajaaW.PrintMore
open Go.ChangeShapes Go.WideShapes Go.Deep
set_option linter.unusedVariables false

/-- An operation: its kind and its block. -/
structure OpV where
  kind : Int
  block : Int
def zOp : OpV := ⟨0, 0⟩
def OkOp (v : OpV) : Prop := (0 ≤ v.kind ∧ v.kind ≤ 255) ∧ -9223372036854775808 ≤ v.block ∧ v.block ≤ 9223372036854775807

/-- A slice of operations lies in memory. -/
structure OpsIn (w : World) (a : Option Addr) (len : Nat) (l : List OpV) : Prop where
  count : l.length = len
  cells : 0 < len → ∃ ad, a = some ad ∧ ∀ i, i < len → w.cell? (ad.add (i * 2)) = some (.int .u8 (l.getD i zOp).kind) ∧ w.cell? ⟨(ad.add (i * 2)).block, (ad.add (i * 2)).off + 1, none⟩ = some (.int .i64 (l.getD i zOp).block)
  ok : ∀ v ∈ l, OkOp v

theorem cell_lt {w : World} {p : Addr} {v : Value} (h : w.cell? p = some v) : p.block < w.heap.size := by
  unfold World.cell? at h
  cases ho : w.heap[p.block]? with
  | none => simp [ho] at h
  | some o => exact (Array.getElem?_eq_some_iff.1 ho).1
theorem OpsIn.below {w W : World} {a : Option Addr} {len : Nat} {l : List OpV} (h : OpsIn w a len l) (hB : Below w.heap.size w W) : OpsIn W a len l := by
  refine ⟨h.count, fun hp => ?_, h.ok⟩
  obtain ⟨ad, e, hc⟩ := h.cells hp
  refine ⟨ad, e, fun i hi => ?_⟩
  obtain ⟨h1, h2⟩ := hc i hi
  exact ⟨(hB.cell (p := ad.add (i * 2)) (cell_lt h1)).trans h1, (hB.cell (p := ⟨(ad.add (i * 2)).block, (ad.add (i * 2)).off + 1, none⟩) (cell_lt h2)).trans h2⟩
theorem OpsIn.okAt {w : World} {a : Option Addr} {len : Nat} {l : List OpV} (h : OpsIn w a len l) (i : Nat) (hi : i < len) : OkOp (l.getD i zOp) := by
  refine h.ok _ ?_
  rw [List.getD_eq_getElem?_getD, List.getElem?_eq_getElem (by rw [h.count]; exact hi)]
  exact List.getElem_mem _

theorem cells70 : Try.prog.cellsOf 70 = 2 := by kernel_rfl
section
variable {H : Type} {enc : TypeId × Value → H} {w : World} {base : Nat} {spare : Nat → Bool} {held : Bool}
theorem open_ops {a : Option Addr} {len cap fuel : Nat} {x : DataW H × List MemPlace} (h : DataW.trod enc Try.prog w base spare held fuel 59 [.slice a len cap] = some x) :
    ∃ l : List OpV, OpsIn w a len l ∧ len ≤ 9223372036854775807 ∧ len ≤ cap := by
  rcases open_slice Try.underlying59 h with ⟨hcs, _⟩ | ⟨ad, len', cap', m, n, D, Pl, hcs, hb, hl, hm, hmm, hx, hi⟩
  · simp at hcs
    obtain ⟨rfl, rfl, rfl⟩ := hcs
    exact ⟨[], ⟨rfl, fun h => by omega, fun v hv => by simp at hv⟩, by omega, by omega⟩
  · simp at hcs
    obtain ⟨rfl, rfl, rfl⟩ := hcs
    have hlm : len ≤ m := by rw [hmm]; split <;> omega
    have key : ∀ i, i < len → ∃ v : OpV, OkOp v ∧ w.cell? (ad.add (i * 2)) = some (.int .u8 v.kind) ∧ w.cell? ⟨(ad.add (i * 2)).block, (ad.add (i * 2)).off + 1, none⟩ = some (.int .i64 v.block) := by
      intro i hil
      obtain ⟨cs', hc, ht⟩ := hi i (by omega)
      rw [cells70] at hc
      obtain ⟨_, hcl, hat⟩ := World.cells?_some hc
      obtain ⟨hlen, hf⟩ := field_at Try.underlying70 (by kernel_rfl) cells70 ht
      obtain ⟨v0, y0, n0, c0, t0⟩ := hf 0 _ rfl
      obtain ⟨v1, y1, n1, c1, t1⟩ := hf 1 _ rfl
      obtain ⟨x0, e0, _, w0⟩ := DataW.trod_int Try.underlying5 t0
      obtain ⟨x1, e1, _, w1⟩ := DataW.trod_int Try.underlying3 t1
      simp only [List.cons.injEq, and_true] at e0 e1
      subst e0 e1
      refine ⟨⟨x0, x1⟩, ⟨wf_u8 w0, wf_i64 w1⟩, ?_, ?_⟩
      · have := hat 0 (by omega)
        rw [c0] at this
        rw [Deep.add_add] at this
        simpa using this
      · have := hat 1 (by omega)
        rw [c1, Deep.add_add] at this
        rw [← add_field _ _ 1 (by omega)]
        exact this
    obtain ⟨f, hf⟩ := @choose_lt OpV ⟨zOp⟩ len _ key
    unfold maxLen at hm
    refine ⟨(List.range len).map f, ⟨by simp, fun _ => ⟨ad, rfl, fun i hil => ?_⟩, fun v hv => ?_⟩, by omega, hl⟩
    · have e : ((List.range len).map f).getD i zOp = f i := by simp [hil]
      rw [e]
      exact (hf i hil).2
    · obtain ⟨i, hil, rfl⟩ := List.mem_map.1 hv
      exact (hf i (List.mem_range.1 hil)).1
end
end Go.Proofs.Ytbddllklagiajaa
