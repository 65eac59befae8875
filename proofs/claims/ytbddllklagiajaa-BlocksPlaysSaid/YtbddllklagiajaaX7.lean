/- The walk of BlocksPlays. -/
import Derived.Test.YtbddllklagiajaaX6
namespace Go.Proofs.Ytbddllklagiajaa
open PBlocksEncodes
open Go.RowKit Go.Proofs.YtbddllklagiajaaW.PrintWords Go.Proofs.YtbddllklagiajaaW.PrintLast Go.Proofs.YtbddllklagiajaaW.PrintMore
set_option linter.unusedVariables false
set_option linter.unusedSimpArgs false

set_option maxRecDepth 100000 in
set_option maxHeartbeats 8000000 in
theorem blocksPlays_walk (a b : Int) (A : Option Addr) (n c : Nat) (l : List OpV) (w : World) (ha : 0 ≤ a ∧ a ≤ 65535) (hb : 0 ≤ b ∧ b ≤ 255) (hl : OpsIn w A n l) (hn : n ≤ 9223372036854775807) :
    Calls Try.prog 9 #[.int .u16 a, .int .u8 b, .slice A n c] w fun e w' => e = .returned (.bool true) ∧ Below w.heap.size w w' := by
  have HL := Aside0.mk hl
  clear hl
  go_enter Try.func9, Try.ntmps9
  go_wp2_with fail
  refine (known12_calls w).mono ?_
  rintro e w1 ⟨rfl, B1⟩
  have HB1 := Aside0.mk B1
  clear B1
  go_wp2_with fail
  refine (begin_calls a b w1 ha hb).mono ?_
  rintro e w2 ⟨g, v, N, rfl, M2, R2, hN, hg, B2⟩
  obtain ⟨A2, n2, c2, rfl⟩ := R_form' R2
  have hWf := begin_ok a b ha hb
  obtain ⟨first, hfst⟩ : ∃ f, a % 1000 = f := ⟨_, rfl⟩
  obtain ⟨st0, hst0⟩ : ∃ s, List.replicate (cntM b) (0 : Int) = s := ⟨_, rfl⟩
  rw [hfst, hst0] at M2 hWf
  rw [hst0] at R2
  rw [hfst]
  have HM2 := Aside0.mk M2
  have HR2 := Aside0.mk R2
  have HB2 := Aside0.mk (below_step HB1.out B2)
  have HWf := Aside0.mk hWf
  have HN := Aside0.mk hN
  have HS1 := Aside0.mk B2.size
  clear M2 R2 B2 hWf hst0 hfst
  have HSM := Aside0.mk (same_calls w1.heap.size g w1.heap.size _ _ first st0 A2 n2 c2 (w2.alloc (.cells #[.int .i64 first, .slice A2 n2 c2] 63)) (HM2.out.fresh (below_alloc (Below.refl _ _) _)) HWf.out (Kd.R_alloc HR2.out _))
  go_wp2_with fail
  refine HSM.out.mono ?_
  rintro e w3 ⟨rfl, B3⟩
  have b3 : w3.heap[w2.heap.size]? = some (.cells #[.int .i64 first, .slice A2 n2 c2] 63 (0, 0)) := (B3.block _ (by simp)).trans (blk_new w2 _)
  have B3' : Below w2.heap.size w2 w3 := (below_alloc (Below.refl _ _) _).trans (B3.mono (by simp))
  have HM3 := Aside0.mk (HM2.out.fresh B3')
  have HR3 := Aside0.mk (Kd.R_mono (ok' := fun k => N ≤ k ∧ k ≠ w2.heap.size) (Kd.R_bound (Kd.R_below (Kd.R_mono (Kd.R_bound HR2.out) (fun k hk => (show N ≤ k ∧ k < w2.heap.size from ⟨hk.1, hk.2.2.1⟩))) B3')) (fun k hk => ⟨hk.1.1, by have := hk.1.2; omega⟩))
  have HB3 := Aside0.mk (below_step HB2.out B3')
  have HX3 := Aside0.mk b3
  have HS3 := Aside0.mk B3'.size
  clear b3 B3 B3' HM2 HR2 HB2 HSM
  go_wp2_with fail
  go_loopw [9] (fun i wr => ∃ (k : Nat) (st : List Int) (Ar : Option Addr) (nr cr : Nat), k ≤ n ∧ k ≤ 60 ∧ i = .int .i64 k ∧ WfM first st ∧ Mp w1.heap.size wr g (fun k => w1.heap.size ≤ k ∧ k < N) first st ∧
      KI.R 3 wr w1.heap.size (fun k => N ≤ k ∧ k ≠ w2.heap.size) (.slice Ar nr cr) st ∧ wr.heap[w2.heap.size]? = some (.cells #[.int .i64 first, .slice Ar nr cr] 63 (0, 0)) ∧ Below w.heap.size w wr ∧ w2.heap.size < wr.heap.size) (fun i _ => 60 - (intOf i).toNat)
  case atStart => exact ⟨0, st0, A2, n2, c2, Nat.zero_le _, Nat.zero_le _, rfl, HWf.out, HM3.out, HR3.out, HX3.out, HB3.out, blk_lt HX3.out⟩
  case round =>
    clear HM3 HR3 HX3 HB3 HWf HS3
    obtain ⟨k, st, Ar, nr, cr, hk, hk6, rfl, hwf, hM, hR, hX, hB, hlt⟩ := hrel
    have x0 : wr.cell? ⟨w2.heap.size, 0, none⟩ = some (.int .i64 first) := blk_cell hX 0
    have x1 : wr.cell? ⟨w2.heap.size, 1, none⟩ = some (.slice Ar nr cr) := blk_cell hX 1
    have HWF := Aside0.mk hwf
    have HM := Aside0.mk hM
    have HR := Aside0.mk hR
    have HX := Aside0.mk hX
    have HB := Aside0.mk hB
    clear hwf hM hR hX hB
    by_cases h1 : k < n
    · by_cases h2 : k < 60
      · have d1 : decide ((k : Int) < (n : Int)) = true := decide_eq_true (by omega)
        have d2 : decide ((k : Int) < 60) = true := decide_eq_true (by omega)
        have hop := HL.out.okAt k h1
        obtain ⟨ad, e, hcell⟩ := HL.out.cells (by omega)
        subst e
        obtain ⟨o, ho⟩ : ∃ o, l.getD k zOp = o := ⟨_, rfl⟩
        obtain ⟨y0, y1⟩ := hcell k h1
        rw [ho] at y0 y1 hop
        have z0 : wr.drew.cell? (ad.add (k * 2)) = some (.int .u8 o.kind) := (HB.out.cell (p := ad.add (k * 2)) (cell_lt y0)).trans y0
        have z1 : wr.drew.cell? ⟨(ad.add (k * 2)).block, (ad.add (k * 2)).off + 1, none⟩ = some (.int .i64 o.block) := (HB.out.cell (p := ⟨(ad.add (k * 2)).block, (ad.add (k * 2)).off + 1, none⟩) (cell_lt y1)).trans y1
        have hza : Below w.heap.size w (wr.alloc (.cells #[.int .i64 0, .slice none 0 0] 63)) := below_alloc HB.out _
        have z2 : (wr.alloc (.cells #[.int .i64 0, .slice none 0 0] 63)).cell? (ad.add (k * 2)) = some (.int .u8 o.kind) := (hza.cell (p := ad.add (k * 2)) (cell_lt y0)).trans y0
        have z3 : (wr.alloc (.cells #[.int .i64 0, .slice none 0 0] 63)).cell? ⟨(ad.add (k * 2)).block, (ad.add (k * 2)).off + 1, none⟩ = some (.int .i64 o.block) := (hza.cell (p := ⟨(ad.add (k * 2)).block, (ad.add (k * 2)).off + 1, none⟩) (cell_lt y1)).trans y1
        have x2 : (wr.alloc (.cells #[.int .i64 0, .slice none 0 0] 63)).cell? ⟨w2.heap.size, 0, none⟩ = some (.int .i64 first) := blk_cell (blk_alloc HX.out _) 0
        have x3 : (wr.alloc (.cells #[.int .i64 0, .slice none 0 0] 63)).cell? ⟨w2.heap.size, 1, none⟩ = some (.slice Ar nr cr) := blk_cell (blk_alloc HX.out _) 1
        have HOP := Aside0.mk hop
        clear hcell y0 y1 hop ho hza
        have hNN := HN.out
        have hSS := HS1.out
        have hwW : w.heap.size ≤ w1.heap.size := HB1.out.size
        have hRt : KI.R 3 wr w1.heap.size (fun k => (N ≤ k ∧ k ≠ w2.heap.size) ∧ k < wr.heap.size) (.slice Ar nr cr) st := Kd.R_mono (Kd.R_bound HR.out) (fun k hk => ⟨hk.1, hk.2.2.1⟩)
        have HDO := Aside0.mk (fun W (hW : Below wr.heap.size wr W) => do_calls w1.heap.size g w1.heap.size _ _ first st Ar nr cr o.kind o.block W (HM.out.fresh hW) HWF.out (Kd.R_below hRt hW) (by have := hW.size; omega) (fun k hk => by have := hW.size; have := hk.2; omega) (fun k hk hp => by have := hk.1.1; have := hp.2; omega) HOP.out.1 HOP.out.2.2)
        have HNS := Aside0.mk (And.intro hNN hSS)
        have HWS := Aside0.mk hwW
        have HLT := Aside0.mk hlt
        have hnp : ∀ k, N ≤ k → ¬ (w1.heap.size ≤ k ∧ k < N) := fun k h1 h2 => by omega
        have HNP := Aside0.mk hnp
        clear hNN hSS hwW hRt hnp
        go_wp2_with fail
        have HBR := Aside0.mk (fun k (hk : ((N ≤ k ∧ k ≠ w2.heap.size) ∧ k < wr.heap.size) ∨ wr.heap.size + 1 ≤ k) => (show N ≤ k ∧ k ≠ w2.heap.size ∧ k ≠ wr.heap.size by have := HNS.out; have := HLT.out; omega))
        have HAR := Aside0.mk (fun k (hk : ((N ≤ k ∧ k ≠ w2.heap.size) ∧ k < wr.heap.size) ∨ wr.heap.size ≤ k) => (show N ≤ k ∧ k ≠ w2.heap.size by have := HNS.out; have := HLT.out; omega))
        have hTA := Aside0.mk (fun w4 v4 (F4 : Frm wr.drew w4 (fun k => w1.heap.size ≤ k ∧ k < N)) (R4 : KI.R 3 w4 w1.heap.size (fun k => (N ≤ k ∧ k ≠ w2.heap.size) ∧ k < wr.heap.size ∨ wr.drew.heap.size ≤ k) v4 (doM first st o.kind o.block)) => Kd.R_mono (ok' := fun k => N ≤ k ∧ k ≠ w2.heap.size) R4 (fun k hk => HAR.out k hk))
        have hTB := Aside0.mk (fun w4 v4 (F4 : Frm (wr.alloc (.cells #[.int .i64 0, .slice none 0 0] 63)).drew w4 (fun k => w1.heap.size ≤ k ∧ k < N)) (R4 : KI.R 3 w4 w1.heap.size (fun k => (N ≤ k ∧ k ≠ w2.heap.size) ∧ k < wr.heap.size ∨ (wr.alloc (.cells #[.int .i64 0, .slice none 0 0] 63)).drew.heap.size ≤ k) v4 (doM first st o.kind o.block)) => Kd.R_mono (ok' := fun k => N ≤ k ∧ k ≠ w2.heap.size ∧ k ≠ wr.heap.size) R4 (fun k hk => HBR.out k (hk.imp id (fun h => by have h' : (wr.alloc (.cells #[.int .i64 0, .slice none 0 0] 63)).heap.size ≤ k := h; simpa using h'))))
        have hTC := Aside0.mk (fun w4 (F4 : Frm (wr.alloc (.cells #[.int .i64 0, .slice none 0 0] 63)).drew w4 (fun k => w1.heap.size ≤ k ∧ k < N)) => (show w4.heap[wr.heap.size]? = some (.cells #[.int .i64 0, .slice none 0 0] 63 (0, 0)) from F4.blk (blk_drew (blk_new wr (.cells #[.int .i64 0, .slice none 0 0] 63))) (HNP.out _ (by have := HNS.out; have := HLT.out; show N ≤ wr.heap.size; omega))))
        refine wp_region_any (by kernel_rfl) ?_
        change wpAny _ _ _ _ _ _ _ (World.drew _)
        refine wpAny_take (i := 0) (v := .pointer (some ⟨g, 0, none⟩)) rfl (by kernel_rfl) (by kernel_rfl) (by kernel_rfl) (fun _ _ _ h => h) (Or.inl ⟨by kernel_rfl, ?_⟩) ?_
        · intro w; go_simp; try with_reducible rfl
        refine wpAny_take (i := 2) (v := .slice (some ad) n c) rfl (by kernel_rfl) (by kernel_rfl) (by kernel_rfl) (fun _ _ _ h => h) (Or.inl ⟨by kernel_rfl, ?_⟩) ?_
        · intro w; go_simp; try with_reducible rfl
        refine wpAny_take (i := 3) (v := .int .i64 (k : Int)) rfl (by kernel_rfl) (by kernel_rfl) (by kernel_rfl) (fun _ _ _ h => h) (Or.inl ⟨by kernel_rfl, ?_⟩) ?_
        · intro w; go_simp; try with_reducible rfl
        refine wpAny_take (i := 4) (v := .pointer (some (ad.add (k * 2)))) rfl (by kernel_rfl) (by kernel_rfl) (by kernel_rfl) (fun _ _ _ h => h) (Or.inl ⟨by kernel_rfl, ?_⟩) ?_
        · intro w; go_simp; try with_reducible rfl
        refine wpAny_ready (rs := [1, 5, 10]) (by kernel_rfl) (by simp) ?_
        refine AllReady.cons rfl (fun K hK => ?_) ?_
        · go_simp
          refine hK _ _ ?_; clear hK K
          refine wpAny_ready (rs := [5, 10]) (by kernel_rfl) (by simp) ?_
          refine AllReady.cons rfl (fun K hK => ?_) ?_
          · go_simp
            refine hK _ _ ?_; clear hK K
            refine wpAny_ready (rs := [6, 10]) (by kernel_rfl) (by simp) ?_
            refine AllReady.cons rfl (fun K hK => ?_) ?_
            · go_simp
              go_wp2_with (with_reducible refine (HDO.out _ (by repeat (first | exact Below.refl _ _ | refine below_drew ?_ | refine below_alloc ?_ _))).mono ?_; rintro e w4 ⟨v4, rfl, M4, R4, F4⟩; obtain ⟨A4, n4, c4, rfl⟩ := R_form' R4)
              have HM4 := Aside0.mk M4
              have HF4 := Aside0.mk F4
              have HR4 := Aside0.mk (hTA.out _ _ F4 R4)
              have hX4 : w4.heap[w2.heap.size]? = some (.cells #[.int .i64 first, .slice Ar nr cr] 63 (0, 0)) := F4.blk (blk_drew HX.out) (HNP.out _ HNS.out.1)
              have hB4 : Below w.heap.size w w4 := (HB.out.drew).trans (F4.below (B := w.heap.size) (fun k hk => Nat.le_trans HWS.out hk.1) HB.out.size)
              have HX4 := Aside0.mk hX4
              have HB4 := Aside0.mk hB4
              clear M4 R4 F4 hX4 hB4
              refine wpAny_take (i := 7) (v := .tuple #[.agg #[.int .i64 first, .slice A4 n4 c4], .bool true]) rfl (by kernel_rfl) (by kernel_rfl) (by kernel_rfl) (fun _ _ _ h => h) (Or.inl ⟨by kernel_rfl, ?_⟩) ?_
              · intro w; go_simp; try with_reducible rfl
              refine wpAny_take (i := 8) (v := .agg #[.int .i64 first, .slice A4 n4 c4]) rfl (by kernel_rfl) (by kernel_rfl) (by kernel_rfl) (fun _ _ _ h => h) (Or.inl ⟨by kernel_rfl, ?_⟩) ?_
              · intro w; go_simp; try with_reducible rfl
              refine wpAny_take (i := 9) (v := .bool true) rfl (by kernel_rfl) (by kernel_rfl) (by kernel_rfl) (fun _ _ _ h => h) (Or.inl ⟨by kernel_rfl, ?_⟩) ?_
              · intro w; go_simp; try with_reducible rfl
              refine wpAny_ready (rs := [10]) (by kernel_rfl) (by simp) ?_
              refine AllReady.cons rfl (fun K hK => ?_) ?_
              · go_simp
                refine hK _ _ ?_; clear hK K
                refine wpAny_ready (rs := [11]) (by kernel_rfl) (by simp) ?_
                refine AllReady.cons rfl (fun K hK => ?_) ?_
                · go_simp
                  refine hK _ _ ?_; clear hK K
                  refine wpAny_ready (rs := [12]) (by kernel_rfl) (by simp) ?_
                  refine AllReady.cons rfl (fun K hK => ?_) ?_
                  · go_simp
                    refine hK _ _ ?_; clear hK K
                    refine wpAny_done (by kernel_rfl) ?_ _
                    go_simp
                    have hM := HM4.out.fresh (below_alloc (Below.refl w4.heap.size w4) (.cells #[.int .i64 first, .slice A4 n4 c4] 63))
                    have hR : KI.R 3 (w4.alloc (.cells #[.int .i64 first, .slice A4 n4 c4] 63)) w1.heap.size (fun k => N ≤ k ∧ k ≠ w2.heap.size) (.slice A4 n4 c4) (doM first st o.kind o.block) := Kd.R_alloc HR4.out (.cells #[.int .i64 first, .slice A4 n4 c4] 63)
                    have hX := blk_alloc HX4.out (.cells #[.int .i64 first, .slice A4 n4 c4] 63)
                    have hT := blk_new w4 (.cells #[.int .i64 first, .slice A4 n4 c4] 63)
                    have hB := below_alloc HB4.out (.cells #[.int .i64 first, .slice A4 n4 c4] 63)
                    have hne : w4.heap.size ≠ w2.heap.size := Nat.ne_of_gt (blk_lt HX4.out)
                    obtain ⟨W5, hW5⟩ : ∃ W5, w4.alloc (.cells #[.int .i64 first, .slice A4 n4 c4] 63) = W5 := ⟨_, rfl⟩
                    obtain ⟨b10, hb10⟩ : ∃ b, w4.heap.size = b := ⟨_, rfl⟩
                    rw [hW5] at hM hR hX hT hB ⊢
                    rw [hb10] at hT hne ⊢
                    clear HX4 HB4 HR4 HM4 hW5 hb10 HF4
                    have HSM4 := Aside0.mk (same_calls w1.heap.size g w1.heap.size _ _ first (doM first st o.kind o.block) A4 n4 c4 W5 hM (HWF.out.doM _ _) hR)
                    have u0 : W5.cell? ⟨b10, 0, none⟩ = some (.int .i64 first) := blk_cell hT 0
                    have u1 : W5.cell? ⟨b10, 1, none⟩ = some (.slice A4 n4 c4) := blk_cell hT 1
                    have HM5 := Aside0.mk hM
                    have HR5 := Aside0.mk hR
                    have HX5 := Aside0.mk hX
                    have HT5 := Aside0.mk hT
                    have HB5 := Aside0.mk hB
                    have HNE := Aside0.mk hne
                    clear hM hR hX hT hB hne x0 x1 x2 x3 z0 z1 z2 z3 HDO hTA hTB hTC
                    go_wp2_with fail
                    refine HSM4.out.mono ?_
                    rintro e w6 ⟨rfl, B6⟩
                    clear u0 u1
                    have k10 := (B6.block _ (blk_lt HT5.out)).trans HT5.out
                    have k8 := (B6.block _ (blk_lt HX5.out)).trans HX5.out
                    have u0 : w6.cell? ⟨b10, 0, none⟩ = some (.int .i64 first) := blk_cell k10 0
                    have u1 : w6.cell? ⟨b10, 1, none⟩ = some (.slice A4 n4 c4) := blk_cell k10 1
                    have u2 : w6.cell? ⟨w2.heap.size, 0, none⟩ = some (.int .i64 first) := blk_cell k8 0
                    have u3 : w6.cell? ⟨w2.heap.size, 1, none⟩ = some (.slice Ar nr cr) := blk_cell k8 1
                    have u4 := blk_frozen k8 0
                    have u5 := blk_frozen k8 1
                    have HK8 := Aside0.mk k8
                    have HB6 := Aside0.mk B6
                    clear k10 k8 B6
                    go_wp2
                    go_roundw
                    case rel =>
                      have h3 := HNS.out
                      have h4 := HWS.out
                      refine ⟨k + 1, doM first st o.kind o.block, A4, n4, c4, by omega, by omega, by go_num, HWF.out.doM _ _, ?_, ?_, ?_, ?_, ?_⟩
                      · have hg2 : g ≠ w2.heap.size := by omega
                        have hP2 : ∀ k, (w1.heap.size ≤ k ∧ k < N) → k ≠ w2.heap.size := fun k hk e => by have := hk.2; omega
                        exact ((HM5.out.fresh HB6.out).far hg2 hP2 _ _).far hg2 hP2 _ _
                      · exact Kd.R_far (Kd.R_far (Kd.R_below HR5.out HB6.out) (fun k hk => hk.2) _) (fun k hk => hk.2) _
                      · exact blk_put (cs := #[.int .i64 first, .slice Ar nr cr]) (blk_put (cs := #[.int .i64 first, .slice Ar nr cr]) HK8.out 0 _ rfl) 1 _ rfl
                      · have hBB := HB5.out.trans (HB6.out.mono HB5.out.size)
                        exact below_set (below_set hBB (by omega)) (by omega)
                      · have := blk_lt HK8.out
                        simpa [World.setCell] using this
                    case measure => simp [intOf]; omega
                  exact AllReady.nil
                exact AllReady.nil
              exact AllReady.nil
            refine AllReady.cons rfl (fun K hK => ?_) ?_
            · go_simp
              refine hK _ _ ?_; clear hK K
              refine wpAny_ready (rs := [6]) (by kernel_rfl) (by simp) ?_
              refine AllReady.cons rfl (fun K hK => ?_) ?_
              · go_simp
                go_wp2_with (with_reducible refine (HDO.out _ (by repeat (first | exact Below.refl _ _ | refine below_drew ?_ | refine below_alloc ?_ _))).mono ?_; rintro e w4 ⟨v4, rfl, M4, R4, F4⟩; obtain ⟨A4, n4, c4, rfl⟩ := R_form' R4)
                have HM4 := Aside0.mk M4
                have HF4 := Aside0.mk F4
                have HR4 := Aside0.mk (hTB.out _ _ F4 R4)
                have kz := hTC.out _ F4
                have hX4 : w4.heap[w2.heap.size]? = some (.cells #[.int .i64 first, .slice Ar nr cr] 63 (0, 0)) := F4.blk (blk_drew (blk_alloc HX.out _)) (HNP.out _ HNS.out.1)
                have hB4 : Below w.heap.size w w4 := (below_drew (below_alloc HB.out (.cells #[.int .i64 0, .slice none 0 0] 63))).trans (F4.below (B := w.heap.size) (fun k hk => Nat.le_trans HWS.out hk.1) (Nat.le_trans HB.out.size (show wr.heap.size ≤ (wr.alloc (.cells #[.int .i64 0, .slice none 0 0] 63)).heap.size by simp)))
                have HX4 := Aside0.mk hX4
                have HB4 := Aside0.mk hB4
                have HKZ := Aside0.mk kz
                have kz0 : w4.cell? ⟨wr.heap.size, 0, none⟩ = some (.int .i64 0) := blk_cell kz 0
                have kz1 : w4.cell? ⟨wr.heap.size, 1, none⟩ = some (.slice none 0 0) := blk_cell kz 1
                have kf0 := blk_frozen kz 0
                have kf1 := blk_frozen kz 1
                clear M4 R4 F4 hX4 hB4 kz
                refine wpAny_take (i := 7) (v := .tuple #[.agg #[.int .i64 first, .slice A4 n4 c4], .bool true]) rfl (by kernel_rfl) (by kernel_rfl) (by kernel_rfl) (fun _ _ _ h => h) (Or.inl ⟨by kernel_rfl, ?_⟩) ?_
                · intro w; go_simp; try with_reducible rfl
                refine wpAny_take (i := 8) (v := .agg #[.int .i64 first, .slice A4 n4 c4]) rfl (by kernel_rfl) (by kernel_rfl) (by kernel_rfl) (fun _ _ _ h => h) (Or.inl ⟨by kernel_rfl, ?_⟩) ?_
                · intro w; go_simp; try with_reducible rfl
                refine wpAny_take (i := 9) (v := .bool true) rfl (by kernel_rfl) (by kernel_rfl) (by kernel_rfl) (fun _ _ _ h => h) (Or.inl ⟨by kernel_rfl, ?_⟩) ?_
                · intro w; go_simp; try with_reducible rfl
                refine wpAny_ready (rs := [11]) (by kernel_rfl) (by simp) ?_
                refine AllReady.cons rfl (fun K hK => ?_) ?_
                · go_simp
                  refine hK _ _ ?_; clear hK K
                  refine wpAny_ready (rs := [12]) (by kernel_rfl) (by simp) ?_
                  refine AllReady.cons rfl (fun K hK => ?_) ?_
                  · go_simp
                    refine hK _ _ ?_; clear hK K
                    refine wpAny_done (by kernel_rfl) ?_ _
                    go_simp
                    have hg2 : g ≠ wr.heap.size := by have := HLT.out; have := HNS.out; omega
                    have hP2 : ∀ k, (w1.heap.size ≤ k ∧ k < N) → k ≠ wr.heap.size := fun k hk e => by have := hk.2; have := HLT.out; have := HNS.out; omega
                    have hM := (HM4.out.far hg2 hP2 0 (.int .i64 first)).far hg2 hP2 1 (.slice A4 n4 c4)
                    have hR : KI.R 3 ((w4.setCell ⟨wr.heap.size, 0, none⟩ (.int .i64 first)).setCell ⟨wr.heap.size, 1, none⟩ (.slice A4 n4 c4)) w1.heap.size (fun k => N ≤ k ∧ k ≠ w2.heap.size) (.slice A4 n4 c4) (doM first st o.kind o.block) :=
                      Kd.R_mono (Kd.R_far (Kd.R_far HR4.out (fun k hk => hk.2.2) (.int .i64 first)) (fun k hk => hk.2.2) (.slice A4 n4 c4)) (fun k hk => ⟨hk.1, hk.2.1⟩)
                    have hne : wr.heap.size ≠ w2.heap.size := Nat.ne_of_gt HLT.out
                    have hX := blk_far (p := ⟨wr.heap.size, 1, none⟩) (blk_far (p := ⟨wr.heap.size, 0, none⟩) HX4.out (fun e => hne e.symm) (.int .i64 first)) (fun e => hne e.symm) (.slice A4 n4 c4)
                    have hT := blk_put (cs' := #[.int .i64 first, .slice A4 n4 c4]) (blk_put (cs' := #[.int .i64 first, .slice none 0 0]) HKZ.out 0 (.int .i64 first) rfl) 1 (.slice A4 n4 c4) rfl
                    have hB := below_set (g := wr.heap.size) (j := 1) (v := .slice A4 n4 c4) (below_set (g := wr.heap.size) (j := 0) (v := .int .i64 first) HB4.out HB.out.size) HB.out.size
                    obtain ⟨W5, hW5⟩ : ∃ W5, (w4.setCell ⟨wr.heap.size, 0, none⟩ (.int .i64 first)).setCell ⟨wr.heap.size, 1, none⟩ (.slice A4 n4 c4) = W5 := ⟨_, rfl⟩
                    obtain ⟨b10, hb10⟩ : ∃ b, wr.heap.size = b := ⟨_, rfl⟩
                    rw [hW5] at hM hR hX hT hB ⊢
                    rw [hb10] at hT hne ⊢
                    clear HX4 HB4 HR4 HM4 hW5 hb10 HF4 HKZ kz0 kz1 kf0 kf1 hg2 hP2
                    have HSM4 := Aside0.mk (same_calls w1.heap.size g w1.heap.size _ _ first (doM first st o.kind o.block) A4 n4 c4 W5 hM (HWF.out.doM _ _) hR)
                    have u0 : W5.cell? ⟨b10, 0, none⟩ = some (.int .i64 first) := blk_cell hT 0
                    have u1 : W5.cell? ⟨b10, 1, none⟩ = some (.slice A4 n4 c4) := blk_cell hT 1
                    have HM5 := Aside0.mk hM
                    have HR5 := Aside0.mk hR
                    have HX5 := Aside0.mk hX
                    have HT5 := Aside0.mk hT
                    have HB5 := Aside0.mk hB
                    have HNE := Aside0.mk hne
                    clear hM hR hX hT hB hne x0 x1 x2 x3 z0 z1 z2 z3 HDO hTA hTB hTC
                    go_wp2_with fail
                    refine HSM4.out.mono ?_
                    rintro e w6 ⟨rfl, B6⟩
                    clear u0 u1
                    have k10 := (B6.block _ (blk_lt HT5.out)).trans HT5.out
                    have k8 := (B6.block _ (blk_lt HX5.out)).trans HX5.out
                    have u0 : w6.cell? ⟨b10, 0, none⟩ = some (.int .i64 first) := blk_cell k10 0
                    have u1 : w6.cell? ⟨b10, 1, none⟩ = some (.slice A4 n4 c4) := blk_cell k10 1
                    have u2 : w6.cell? ⟨w2.heap.size, 0, none⟩ = some (.int .i64 first) := blk_cell k8 0
                    have u3 : w6.cell? ⟨w2.heap.size, 1, none⟩ = some (.slice Ar nr cr) := blk_cell k8 1
                    have u4 := blk_frozen k8 0
                    have u5 := blk_frozen k8 1
                    have HK8 := Aside0.mk k8
                    have HB6 := Aside0.mk B6
                    clear k10 k8 B6
                    go_wp2
                    go_roundw
                    case rel =>
                      have h3 := HNS.out
                      have h4 := HWS.out
                      refine ⟨k + 1, doM first st o.kind o.block, A4, n4, c4, by omega, by omega, by go_num, HWF.out.doM _ _, ?_, ?_, ?_, ?_, ?_⟩
                      · have hg2 : g ≠ w2.heap.size := by omega
                        have hP2 : ∀ k, (w1.heap.size ≤ k ∧ k < N) → k ≠ w2.heap.size := fun k hk e => by have := hk.2; omega
                        exact ((HM5.out.fresh HB6.out).far hg2 hP2 _ _).far hg2 hP2 _ _
                      · exact Kd.R_far (Kd.R_far (Kd.R_below HR5.out HB6.out) (fun k hk => hk.2) _) (fun k hk => hk.2) _
                      · exact blk_put (cs := #[.int .i64 first, .slice Ar nr cr]) (blk_put (cs := #[.int .i64 first, .slice Ar nr cr]) HK8.out 0 _ rfl) 1 _ rfl
                      · have hBB := HB5.out.trans (HB6.out.mono HB5.out.size)
                        exact below_set (below_set hBB (by omega)) (by omega)
                      · have := blk_lt HK8.out
                        simpa [World.setCell] using this
                    case measure => simp [intOf]; omega
                  exact AllReady.nil
                exact AllReady.nil
              exact AllReady.nil
            exact AllReady.nil
          refine AllReady.cons rfl (fun K hK => ?_) ?_
          · go_simp
            refine hK _ _ ?_; clear hK K
            refine wpAny_ready (rs := [5]) (by kernel_rfl) (by simp) ?_
            refine AllReady.cons rfl (fun K hK => ?_) ?_
            · go_simp
              refine hK _ _ ?_; clear hK K
              refine wpAny_ready (rs := [6]) (by kernel_rfl) (by simp) ?_
              refine AllReady.cons rfl (fun K hK => ?_) ?_
              · go_simp
                go_wp2_with (with_reducible refine (HDO.out _ (by repeat (first | exact Below.refl _ _ | refine below_drew ?_ | refine below_alloc ?_ _))).mono ?_; rintro e w4 ⟨v4, rfl, M4, R4, F4⟩; obtain ⟨A4, n4, c4, rfl⟩ := R_form' R4)
                have HM4 := Aside0.mk M4
                have HF4 := Aside0.mk F4
                have HR4 := Aside0.mk (hTB.out _ _ F4 R4)
                have kz := hTC.out _ F4
                have hX4 : w4.heap[w2.heap.size]? = some (.cells #[.int .i64 first, .slice Ar nr cr] 63 (0, 0)) := F4.blk (blk_drew (blk_alloc HX.out _)) (HNP.out _ HNS.out.1)
                have hB4 : Below w.heap.size w w4 := (below_drew (below_alloc HB.out (.cells #[.int .i64 0, .slice none 0 0] 63))).trans (F4.below (B := w.heap.size) (fun k hk => Nat.le_trans HWS.out hk.1) (Nat.le_trans HB.out.size (show wr.heap.size ≤ (wr.alloc (.cells #[.int .i64 0, .slice none 0 0] 63)).heap.size by simp)))
                have HX4 := Aside0.mk hX4
                have HB4 := Aside0.mk hB4
                have HKZ := Aside0.mk kz
                have kz0 : w4.cell? ⟨wr.heap.size, 0, none⟩ = some (.int .i64 0) := blk_cell kz 0
                have kz1 : w4.cell? ⟨wr.heap.size, 1, none⟩ = some (.slice none 0 0) := blk_cell kz 1
                have kf0 := blk_frozen kz 0
                have kf1 := blk_frozen kz 1
                clear M4 R4 F4 hX4 hB4 kz
                refine wpAny_take (i := 7) (v := .tuple #[.agg #[.int .i64 first, .slice A4 n4 c4], .bool true]) rfl (by kernel_rfl) (by kernel_rfl) (by kernel_rfl) (fun _ _ _ h => h) (Or.inl ⟨by kernel_rfl, ?_⟩) ?_
                · intro w; go_simp; try with_reducible rfl
                refine wpAny_take (i := 8) (v := .agg #[.int .i64 first, .slice A4 n4 c4]) rfl (by kernel_rfl) (by kernel_rfl) (by kernel_rfl) (fun _ _ _ h => h) (Or.inl ⟨by kernel_rfl, ?_⟩) ?_
                · intro w; go_simp; try with_reducible rfl
                refine wpAny_take (i := 9) (v := .bool true) rfl (by kernel_rfl) (by kernel_rfl) (by kernel_rfl) (fun _ _ _ h => h) (Or.inl ⟨by kernel_rfl, ?_⟩) ?_
                · intro w; go_simp; try with_reducible rfl
                refine wpAny_ready (rs := [11]) (by kernel_rfl) (by simp) ?_
                refine AllReady.cons rfl (fun K hK => ?_) ?_
                · go_simp
                  refine hK _ _ ?_; clear hK K
                  refine wpAny_ready (rs := [12]) (by kernel_rfl) (by simp) ?_
                  refine AllReady.cons rfl (fun K hK => ?_) ?_
                  · go_simp
                    refine hK _ _ ?_; clear hK K
                    refine wpAny_done (by kernel_rfl) ?_ _
                    go_simp
                    have hg2 : g ≠ wr.heap.size := by have := HLT.out; have := HNS.out; omega
                    have hP2 : ∀ k, (w1.heap.size ≤ k ∧ k < N) → k ≠ wr.heap.size := fun k hk e => by have := hk.2; have := HLT.out; have := HNS.out; omega
                    have hM := (HM4.out.far hg2 hP2 0 (.int .i64 first)).far hg2 hP2 1 (.slice A4 n4 c4)
                    have hR : KI.R 3 ((w4.setCell ⟨wr.heap.size, 0, none⟩ (.int .i64 first)).setCell ⟨wr.heap.size, 1, none⟩ (.slice A4 n4 c4)) w1.heap.size (fun k => N ≤ k ∧ k ≠ w2.heap.size) (.slice A4 n4 c4) (doM first st o.kind o.block) :=
                      Kd.R_mono (Kd.R_far (Kd.R_far HR4.out (fun k hk => hk.2.2) (.int .i64 first)) (fun k hk => hk.2.2) (.slice A4 n4 c4)) (fun k hk => ⟨hk.1, hk.2.1⟩)
                    have hne : wr.heap.size ≠ w2.heap.size := Nat.ne_of_gt HLT.out
                    have hX := blk_far (p := ⟨wr.heap.size, 1, none⟩) (blk_far (p := ⟨wr.heap.size, 0, none⟩) HX4.out (fun e => hne e.symm) (.int .i64 first)) (fun e => hne e.symm) (.slice A4 n4 c4)
                    have hT := blk_put (cs' := #[.int .i64 first, .slice A4 n4 c4]) (blk_put (cs' := #[.int .i64 first, .slice none 0 0]) HKZ.out 0 (.int .i64 first) rfl) 1 (.slice A4 n4 c4) rfl
                    have hB := below_set (g := wr.heap.size) (j := 1) (v := .slice A4 n4 c4) (below_set (g := wr.heap.size) (j := 0) (v := .int .i64 first) HB4.out HB.out.size) HB.out.size
                    obtain ⟨W5, hW5⟩ : ∃ W5, (w4.setCell ⟨wr.heap.size, 0, none⟩ (.int .i64 first)).setCell ⟨wr.heap.size, 1, none⟩ (.slice A4 n4 c4) = W5 := ⟨_, rfl⟩
                    obtain ⟨b10, hb10⟩ : ∃ b, wr.heap.size = b := ⟨_, rfl⟩
                    rw [hW5] at hM hR hX hT hB ⊢
                    rw [hb10] at hT hne ⊢
                    clear HX4 HB4 HR4 HM4 hW5 hb10 HF4 HKZ kz0 kz1 kf0 kf1 hg2 hP2
                    have HSM4 := Aside0.mk (same_calls w1.heap.size g w1.heap.size _ _ first (doM first st o.kind o.block) A4 n4 c4 W5 hM (HWF.out.doM _ _) hR)
                    have u0 : W5.cell? ⟨b10, 0, none⟩ = some (.int .i64 first) := blk_cell hT 0
                    have u1 : W5.cell? ⟨b10, 1, none⟩ = some (.slice A4 n4 c4) := blk_cell hT 1
                    have HM5 := Aside0.mk hM
                    have HR5 := Aside0.mk hR
                    have HX5 := Aside0.mk hX
                    have HT5 := Aside0.mk hT
                    have HB5 := Aside0.mk hB
                    have HNE := Aside0.mk hne
                    clear hM hR hX hT hB hne x0 x1 x2 x3 z0 z1 z2 z3 HDO hTA hTB hTC
                    go_wp2_with fail
                    refine HSM4.out.mono ?_
                    rintro e w6 ⟨rfl, B6⟩
                    clear u0 u1
                    have k10 := (B6.block _ (blk_lt HT5.out)).trans HT5.out
                    have k8 := (B6.block _ (blk_lt HX5.out)).trans HX5.out
                    have u0 : w6.cell? ⟨b10, 0, none⟩ = some (.int .i64 first) := blk_cell k10 0
                    have u1 : w6.cell? ⟨b10, 1, none⟩ = some (.slice A4 n4 c4) := blk_cell k10 1
                    have u2 : w6.cell? ⟨w2.heap.size, 0, none⟩ = some (.int .i64 first) := blk_cell k8 0
                    have u3 : w6.cell? ⟨w2.heap.size, 1, none⟩ = some (.slice Ar nr cr) := blk_cell k8 1
                    have u4 := blk_frozen k8 0
                    have u5 := blk_frozen k8 1
                    have HK8 := Aside0.mk k8
                    have HB6 := Aside0.mk B6
                    clear k10 k8 B6
                    go_wp2
                    go_roundw
                    case rel =>
                      have h3 := HNS.out
                      have h4 := HWS.out
                      refine ⟨k + 1, doM first st o.kind o.block, A4, n4, c4, by omega, by omega, by go_num, HWF.out.doM _ _, ?_, ?_, ?_, ?_, ?_⟩
                      · have hg2 : g ≠ w2.heap.size := by omega
                        have hP2 : ∀ k, (w1.heap.size ≤ k ∧ k < N) → k ≠ w2.heap.size := fun k hk e => by have := hk.2; omega
                        exact ((HM5.out.fresh HB6.out).far hg2 hP2 _ _).far hg2 hP2 _ _
                      · exact Kd.R_far (Kd.R_far (Kd.R_below HR5.out HB6.out) (fun k hk => hk.2) _) (fun k hk => hk.2) _
                      · exact blk_put (cs := #[.int .i64 first, .slice Ar nr cr]) (blk_put (cs := #[.int .i64 first, .slice Ar nr cr]) HK8.out 0 _ rfl) 1 _ rfl
                      · have hBB := HB5.out.trans (HB6.out.mono HB5.out.size)
                        exact below_set (below_set hBB (by omega)) (by omega)
                      · have := blk_lt HK8.out
                        simpa [World.setCell] using this
                    case measure => simp [intOf]; omega
                  exact AllReady.nil
                exact AllReady.nil
              exact AllReady.nil
            exact AllReady.nil
          exact AllReady.nil
        refine AllReady.cons rfl (fun K hK => ?_) ?_
        · go_simp
          refine hK _ _ ?_; clear hK K
          refine wpAny_ready (rs := [1, 10]) (by kernel_rfl) (by simp) ?_
          refine AllReady.cons rfl (fun K hK => ?_) ?_
          · go_simp
            refine hK _ _ ?_; clear hK K
            refine wpAny_ready (rs := [6, 10]) (by kernel_rfl) (by simp) ?_
            refine AllReady.cons rfl (fun K hK => ?_) ?_
            · go_simp
              go_wp2_with (with_reducible refine (HDO.out _ (by repeat (first | exact Below.refl _ _ | refine below_drew ?_ | refine below_alloc ?_ _))).mono ?_; rintro e w4 ⟨v4, rfl, M4, R4, F4⟩; obtain ⟨A4, n4, c4, rfl⟩ := R_form' R4)
              have HM4 := Aside0.mk M4
              have HF4 := Aside0.mk F4
              have HR4 := Aside0.mk (hTA.out _ _ F4 R4)
              have hX4 : w4.heap[w2.heap.size]? = some (.cells #[.int .i64 first, .slice Ar nr cr] 63 (0, 0)) := F4.blk (blk_drew HX.out) (HNP.out _ HNS.out.1)
              have hB4 : Below w.heap.size w w4 := (HB.out.drew).trans (F4.below (B := w.heap.size) (fun k hk => Nat.le_trans HWS.out hk.1) HB.out.size)
              have HX4 := Aside0.mk hX4
              have HB4 := Aside0.mk hB4
              clear M4 R4 F4 hX4 hB4
              refine wpAny_take (i := 7) (v := .tuple #[.agg #[.int .i64 first, .slice A4 n4 c4], .bool true]) rfl (by kernel_rfl) (by kernel_rfl) (by kernel_rfl) (fun _ _ _ h => h) (Or.inl ⟨by kernel_rfl, ?_⟩) ?_
              · intro w; go_simp; try with_reducible rfl
              refine wpAny_take (i := 8) (v := .agg #[.int .i64 first, .slice A4 n4 c4]) rfl (by kernel_rfl) (by kernel_rfl) (by kernel_rfl) (fun _ _ _ h => h) (Or.inl ⟨by kernel_rfl, ?_⟩) ?_
              · intro w; go_simp; try with_reducible rfl
              refine wpAny_take (i := 9) (v := .bool true) rfl (by kernel_rfl) (by kernel_rfl) (by kernel_rfl) (fun _ _ _ h => h) (Or.inl ⟨by kernel_rfl, ?_⟩) ?_
              · intro w; go_simp; try with_reducible rfl
              refine wpAny_ready (rs := [10]) (by kernel_rfl) (by simp) ?_
              refine AllReady.cons rfl (fun K hK => ?_) ?_
              · go_simp
                refine hK _ _ ?_; clear hK K
                refine wpAny_ready (rs := [11]) (by kernel_rfl) (by simp) ?_
                refine AllReady.cons rfl (fun K hK => ?_) ?_
                · go_simp
                  refine hK _ _ ?_; clear hK K
                  refine wpAny_ready (rs := [12]) (by kernel_rfl) (by simp) ?_
                  refine AllReady.cons rfl (fun K hK => ?_) ?_
                  · go_simp
                    refine hK _ _ ?_; clear hK K
                    refine wpAny_done (by kernel_rfl) ?_ _
                    go_simp
                    have hM := HM4.out.fresh (below_alloc (Below.refl w4.heap.size w4) (.cells #[.int .i64 first, .slice A4 n4 c4] 63))
                    have hR : KI.R 3 (w4.alloc (.cells #[.int .i64 first, .slice A4 n4 c4] 63)) w1.heap.size (fun k => N ≤ k ∧ k ≠ w2.heap.size) (.slice A4 n4 c4) (doM first st o.kind o.block) := Kd.R_alloc HR4.out (.cells #[.int .i64 first, .slice A4 n4 c4] 63)
                    have hX := blk_alloc HX4.out (.cells #[.int .i64 first, .slice A4 n4 c4] 63)
                    have hT := blk_new w4 (.cells #[.int .i64 first, .slice A4 n4 c4] 63)
                    have hB := below_alloc HB4.out (.cells #[.int .i64 first, .slice A4 n4 c4] 63)
                    have hne : w4.heap.size ≠ w2.heap.size := Nat.ne_of_gt (blk_lt HX4.out)
                    obtain ⟨W5, hW5⟩ : ∃ W5, w4.alloc (.cells #[.int .i64 first, .slice A4 n4 c4] 63) = W5 := ⟨_, rfl⟩
                    obtain ⟨b10, hb10⟩ : ∃ b, w4.heap.size = b := ⟨_, rfl⟩
                    rw [hW5] at hM hR hX hT hB ⊢
                    rw [hb10] at hT hne ⊢
                    clear HX4 HB4 HR4 HM4 hW5 hb10 HF4
                    have HSM4 := Aside0.mk (same_calls w1.heap.size g w1.heap.size _ _ first (doM first st o.kind o.block) A4 n4 c4 W5 hM (HWF.out.doM _ _) hR)
                    have u0 : W5.cell? ⟨b10, 0, none⟩ = some (.int .i64 first) := blk_cell hT 0
                    have u1 : W5.cell? ⟨b10, 1, none⟩ = some (.slice A4 n4 c4) := blk_cell hT 1
                    have HM5 := Aside0.mk hM
                    have HR5 := Aside0.mk hR
                    have HX5 := Aside0.mk hX
                    have HT5 := Aside0.mk hT
                    have HB5 := Aside0.mk hB
                    have HNE := Aside0.mk hne
                    clear hM hR hX hT hB hne x0 x1 x2 x3 z0 z1 z2 z3 HDO hTA hTB hTC
                    go_wp2_with fail
                    refine HSM4.out.mono ?_
                    rintro e w6 ⟨rfl, B6⟩
                    clear u0 u1
                    have k10 := (B6.block _ (blk_lt HT5.out)).trans HT5.out
                    have k8 := (B6.block _ (blk_lt HX5.out)).trans HX5.out
                    have u0 : w6.cell? ⟨b10, 0, none⟩ = some (.int .i64 first) := blk_cell k10 0
                    have u1 : w6.cell? ⟨b10, 1, none⟩ = some (.slice A4 n4 c4) := blk_cell k10 1
                    have u2 : w6.cell? ⟨w2.heap.size, 0, none⟩ = some (.int .i64 first) := blk_cell k8 0
                    have u3 : w6.cell? ⟨w2.heap.size, 1, none⟩ = some (.slice Ar nr cr) := blk_cell k8 1
                    have u4 := blk_frozen k8 0
                    have u5 := blk_frozen k8 1
                    have HK8 := Aside0.mk k8
                    have HB6 := Aside0.mk B6
                    clear k10 k8 B6
                    go_wp2
                    go_roundw
                    case rel =>
                      have h3 := HNS.out
                      have h4 := HWS.out
                      refine ⟨k + 1, doM first st o.kind o.block, A4, n4, c4, by omega, by omega, by go_num, HWF.out.doM _ _, ?_, ?_, ?_, ?_, ?_⟩
                      · have hg2 : g ≠ w2.heap.size := by omega
                        have hP2 : ∀ k, (w1.heap.size ≤ k ∧ k < N) → k ≠ w2.heap.size := fun k hk e => by have := hk.2; omega
                        exact ((HM5.out.fresh HB6.out).far hg2 hP2 _ _).far hg2 hP2 _ _
                      · exact Kd.R_far (Kd.R_far (Kd.R_below HR5.out HB6.out) (fun k hk => hk.2) _) (fun k hk => hk.2) _
                      · exact blk_put (cs := #[.int .i64 first, .slice Ar nr cr]) (blk_put (cs := #[.int .i64 first, .slice Ar nr cr]) HK8.out 0 _ rfl) 1 _ rfl
                      · have hBB := HB5.out.trans (HB6.out.mono HB5.out.size)
                        exact below_set (below_set hBB (by omega)) (by omega)
                      · have := blk_lt HK8.out
                        simpa [World.setCell] using this
                    case measure => simp [intOf]; omega
                  exact AllReady.nil
                exact AllReady.nil
              exact AllReady.nil
            refine AllReady.cons rfl (fun K hK => ?_) ?_
            · go_simp
              refine hK _ _ ?_; clear hK K
              refine wpAny_ready (rs := [6]) (by kernel_rfl) (by simp) ?_
              refine AllReady.cons rfl (fun K hK => ?_) ?_
              · go_simp
                go_wp2_with (with_reducible refine (HDO.out _ (by repeat (first | exact Below.refl _ _ | refine below_drew ?_ | refine below_alloc ?_ _))).mono ?_; rintro e w4 ⟨v4, rfl, M4, R4, F4⟩; obtain ⟨A4, n4, c4, rfl⟩ := R_form' R4)
                have HM4 := Aside0.mk M4
                have HF4 := Aside0.mk F4
                have HR4 := Aside0.mk (hTB.out _ _ F4 R4)
                have kz := hTC.out _ F4
                have hX4 : w4.heap[w2.heap.size]? = some (.cells #[.int .i64 first, .slice Ar nr cr] 63 (0, 0)) := F4.blk (blk_drew (blk_alloc HX.out _)) (HNP.out _ HNS.out.1)
                have hB4 : Below w.heap.size w w4 := (below_drew (below_alloc HB.out (.cells #[.int .i64 0, .slice none 0 0] 63))).trans (F4.below (B := w.heap.size) (fun k hk => Nat.le_trans HWS.out hk.1) (Nat.le_trans HB.out.size (show wr.heap.size ≤ (wr.alloc (.cells #[.int .i64 0, .slice none 0 0] 63)).heap.size by simp)))
                have HX4 := Aside0.mk hX4
                have HB4 := Aside0.mk hB4
                have HKZ := Aside0.mk kz
                have kz0 : w4.cell? ⟨wr.heap.size, 0, none⟩ = some (.int .i64 0) := blk_cell kz 0
                have kz1 : w4.cell? ⟨wr.heap.size, 1, none⟩ = some (.slice none 0 0) := blk_cell kz 1
                have kf0 := blk_frozen kz 0
                have kf1 := blk_frozen kz 1
                clear M4 R4 F4 hX4 hB4 kz
                refine wpAny_take (i := 7) (v := .tuple #[.agg #[.int .i64 first, .slice A4 n4 c4], .bool true]) rfl (by kernel_rfl) (by kernel_rfl) (by kernel_rfl) (fun _ _ _ h => h) (Or.inl ⟨by kernel_rfl, ?_⟩) ?_
                · intro w; go_simp; try with_reducible rfl
                refine wpAny_take (i := 8) (v := .agg #[.int .i64 first, .slice A4 n4 c4]) rfl (by kernel_rfl) (by kernel_rfl) (by kernel_rfl) (fun _ _ _ h => h) (Or.inl ⟨by kernel_rfl, ?_⟩) ?_
                · intro w; go_simp; try with_reducible rfl
                refine wpAny_take (i := 9) (v := .bool true) rfl (by kernel_rfl) (by kernel_rfl) (by kernel_rfl) (fun _ _ _ h => h) (Or.inl ⟨by kernel_rfl, ?_⟩) ?_
                · intro w; go_simp; try with_reducible rfl
                refine wpAny_ready (rs := [11]) (by kernel_rfl) (by simp) ?_
                refine AllReady.cons rfl (fun K hK => ?_) ?_
                · go_simp
                  refine hK _ _ ?_; clear hK K
                  refine wpAny_ready (rs := [12]) (by kernel_rfl) (by simp) ?_
                  refine AllReady.cons rfl (fun K hK => ?_) ?_
                  · go_simp
                    refine hK _ _ ?_; clear hK K
                    refine wpAny_done (by kernel_rfl) ?_ _
                    go_simp
                    have hg2 : g ≠ wr.heap.size := by have := HLT.out; have := HNS.out; omega
                    have hP2 : ∀ k, (w1.heap.size ≤ k ∧ k < N) → k ≠ wr.heap.size := fun k hk e => by have := hk.2; have := HLT.out; have := HNS.out; omega
                    have hM := (HM4.out.far hg2 hP2 0 (.int .i64 first)).far hg2 hP2 1 (.slice A4 n4 c4)
                    have hR : KI.R 3 ((w4.setCell ⟨wr.heap.size, 0, none⟩ (.int .i64 first)).setCell ⟨wr.heap.size, 1, none⟩ (.slice A4 n4 c4)) w1.heap.size (fun k => N ≤ k ∧ k ≠ w2.heap.size) (.slice A4 n4 c4) (doM first st o.kind o.block) :=
                      Kd.R_mono (Kd.R_far (Kd.R_far HR4.out (fun k hk => hk.2.2) (.int .i64 first)) (fun k hk => hk.2.2) (.slice A4 n4 c4)) (fun k hk => ⟨hk.1, hk.2.1⟩)
                    have hne : wr.heap.size ≠ w2.heap.size := Nat.ne_of_gt HLT.out
                    have hX := blk_far (p := ⟨wr.heap.size, 1, none⟩) (blk_far (p := ⟨wr.heap.size, 0, none⟩) HX4.out (fun e => hne e.symm) (.int .i64 first)) (fun e => hne e.symm) (.slice A4 n4 c4)
                    have hT := blk_put (cs' := #[.int .i64 first, .slice A4 n4 c4]) (blk_put (cs' := #[.int .i64 first, .slice none 0 0]) HKZ.out 0 (.int .i64 first) rfl) 1 (.slice A4 n4 c4) rfl
                    have hB := below_set (g := wr.heap.size) (j := 1) (v := .slice A4 n4 c4) (below_set (g := wr.heap.size) (j := 0) (v := .int .i64 first) HB4.out HB.out.size) HB.out.size
                    obtain ⟨W5, hW5⟩ : ∃ W5, (w4.setCell ⟨wr.heap.size, 0, none⟩ (.int .i64 first)).setCell ⟨wr.heap.size, 1, none⟩ (.slice A4 n4 c4) = W5 := ⟨_, rfl⟩
                    obtain ⟨b10, hb10⟩ : ∃ b, wr.heap.size = b := ⟨_, rfl⟩
                    rw [hW5] at hM hR hX hT hB ⊢
                    rw [hb10] at hT hne ⊢
                    clear HX4 HB4 HR4 HM4 hW5 hb10 HF4 HKZ kz0 kz1 kf0 kf1 hg2 hP2
                    have HSM4 := Aside0.mk (same_calls w1.heap.size g w1.heap.size _ _ first (doM first st o.kind o.block) A4 n4 c4 W5 hM (HWF.out.doM _ _) hR)
                    have u0 : W5.cell? ⟨b10, 0, none⟩ = some (.int .i64 first) := blk_cell hT 0
                    have u1 : W5.cell? ⟨b10, 1, none⟩ = some (.slice A4 n4 c4) := blk_cell hT 1
                    have HM5 := Aside0.mk hM
                    have HR5 := Aside0.mk hR
                    have HX5 := Aside0.mk hX
                    have HT5 := Aside0.mk hT
                    have HB5 := Aside0.mk hB
                    have HNE := Aside0.mk hne
                    clear hM hR hX hT hB hne x0 x1 x2 x3 z0 z1 z2 z3 HDO hTA hTB hTC
                    go_wp2_with fail
                    refine HSM4.out.mono ?_
                    rintro e w6 ⟨rfl, B6⟩
                    clear u0 u1
                    have k10 := (B6.block _ (blk_lt HT5.out)).trans HT5.out
                    have k8 := (B6.block _ (blk_lt HX5.out)).trans HX5.out
                    have u0 : w6.cell? ⟨b10, 0, none⟩ = some (.int .i64 first) := blk_cell k10 0
                    have u1 : w6.cell? ⟨b10, 1, none⟩ = some (.slice A4 n4 c4) := blk_cell k10 1
                    have u2 : w6.cell? ⟨w2.heap.size, 0, none⟩ = some (.int .i64 first) := blk_cell k8 0
                    have u3 : w6.cell? ⟨w2.heap.size, 1, none⟩ = some (.slice Ar nr cr) := blk_cell k8 1
                    have u4 := blk_frozen k8 0
                    have u5 := blk_frozen k8 1
                    have HK8 := Aside0.mk k8
                    have HB6 := Aside0.mk B6
                    clear k10 k8 B6
                    go_wp2
                    go_roundw
                    case rel =>
                      have h3 := HNS.out
                      have h4 := HWS.out
                      refine ⟨k + 1, doM first st o.kind o.block, A4, n4, c4, by omega, by omega, by go_num, HWF.out.doM _ _, ?_, ?_, ?_, ?_, ?_⟩
                      · have hg2 : g ≠ w2.heap.size := by omega
                        have hP2 : ∀ k, (w1.heap.size ≤ k ∧ k < N) → k ≠ w2.heap.size := fun k hk e => by have := hk.2; omega
                        exact ((HM5.out.fresh HB6.out).far hg2 hP2 _ _).far hg2 hP2 _ _
                      · exact Kd.R_far (Kd.R_far (Kd.R_below HR5.out HB6.out) (fun k hk => hk.2) _) (fun k hk => hk.2) _
                      · exact blk_put (cs := #[.int .i64 first, .slice Ar nr cr]) (blk_put (cs := #[.int .i64 first, .slice Ar nr cr]) HK8.out 0 _ rfl) 1 _ rfl
                      · have hBB := HB5.out.trans (HB6.out.mono HB5.out.size)
                        exact below_set (below_set hBB (by omega)) (by omega)
                      · have := blk_lt HK8.out
                        simpa [World.setCell] using this
                    case measure => simp [intOf]; omega
                  exact AllReady.nil
                exact AllReady.nil
              exact AllReady.nil
            exact AllReady.nil
          refine AllReady.cons rfl (fun K hK => ?_) ?_
          · go_simp
            refine hK _ _ ?_; clear hK K
            refine wpAny_ready (rs := [1]) (by kernel_rfl) (by simp) ?_
            refine AllReady.cons rfl (fun K hK => ?_) ?_
            · go_simp
              refine hK _ _ ?_; clear hK K
              refine wpAny_ready (rs := [6]) (by kernel_rfl) (by simp) ?_
              refine AllReady.cons rfl (fun K hK => ?_) ?_
              · go_simp
                go_wp2_with (with_reducible refine (HDO.out _ (by repeat (first | exact Below.refl _ _ | refine below_drew ?_ | refine below_alloc ?_ _))).mono ?_; rintro e w4 ⟨v4, rfl, M4, R4, F4⟩; obtain ⟨A4, n4, c4, rfl⟩ := R_form' R4)
                have HM4 := Aside0.mk M4
                have HF4 := Aside0.mk F4
                have HR4 := Aside0.mk (hTB.out _ _ F4 R4)
                have kz := hTC.out _ F4
                have hX4 : w4.heap[w2.heap.size]? = some (.cells #[.int .i64 first, .slice Ar nr cr] 63 (0, 0)) := F4.blk (blk_drew (blk_alloc HX.out _)) (HNP.out _ HNS.out.1)
                have hB4 : Below w.heap.size w w4 := (below_drew (below_alloc HB.out (.cells #[.int .i64 0, .slice none 0 0] 63))).trans (F4.below (B := w.heap.size) (fun k hk => Nat.le_trans HWS.out hk.1) (Nat.le_trans HB.out.size (show wr.heap.size ≤ (wr.alloc (.cells #[.int .i64 0, .slice none 0 0] 63)).heap.size by simp)))
                have HX4 := Aside0.mk hX4
                have HB4 := Aside0.mk hB4
                have HKZ := Aside0.mk kz
                have kz0 : w4.cell? ⟨wr.heap.size, 0, none⟩ = some (.int .i64 0) := blk_cell kz 0
                have kz1 : w4.cell? ⟨wr.heap.size, 1, none⟩ = some (.slice none 0 0) := blk_cell kz 1
                have kf0 := blk_frozen kz 0
                have kf1 := blk_frozen kz 1
                clear M4 R4 F4 hX4 hB4 kz
                refine wpAny_take (i := 7) (v := .tuple #[.agg #[.int .i64 first, .slice A4 n4 c4], .bool true]) rfl (by kernel_rfl) (by kernel_rfl) (by kernel_rfl) (fun _ _ _ h => h) (Or.inl ⟨by kernel_rfl, ?_⟩) ?_
                · intro w; go_simp; try with_reducible rfl
                refine wpAny_take (i := 8) (v := .agg #[.int .i64 first, .slice A4 n4 c4]) rfl (by kernel_rfl) (by kernel_rfl) (by kernel_rfl) (fun _ _ _ h => h) (Or.inl ⟨by kernel_rfl, ?_⟩) ?_
                · intro w; go_simp; try with_reducible rfl
                refine wpAny_take (i := 9) (v := .bool true) rfl (by kernel_rfl) (by kernel_rfl) (by kernel_rfl) (fun _ _ _ h => h) (Or.inl ⟨by kernel_rfl, ?_⟩) ?_
                · intro w; go_simp; try with_reducible rfl
                refine wpAny_ready (rs := [11]) (by kernel_rfl) (by simp) ?_
                refine AllReady.cons rfl (fun K hK => ?_) ?_
                · go_simp
                  refine hK _ _ ?_; clear hK K
                  refine wpAny_ready (rs := [12]) (by kernel_rfl) (by simp) ?_
                  refine AllReady.cons rfl (fun K hK => ?_) ?_
                  · go_simp
                    refine hK _ _ ?_; clear hK K
                    refine wpAny_done (by kernel_rfl) ?_ _
                    go_simp
                    have hg2 : g ≠ wr.heap.size := by have := HLT.out; have := HNS.out; omega
                    have hP2 : ∀ k, (w1.heap.size ≤ k ∧ k < N) → k ≠ wr.heap.size := fun k hk e => by have := hk.2; have := HLT.out; have := HNS.out; omega
                    have hM := (HM4.out.far hg2 hP2 0 (.int .i64 first)).far hg2 hP2 1 (.slice A4 n4 c4)
                    have hR : KI.R 3 ((w4.setCell ⟨wr.heap.size, 0, none⟩ (.int .i64 first)).setCell ⟨wr.heap.size, 1, none⟩ (.slice A4 n4 c4)) w1.heap.size (fun k => N ≤ k ∧ k ≠ w2.heap.size) (.slice A4 n4 c4) (doM first st o.kind o.block) :=
                      Kd.R_mono (Kd.R_far (Kd.R_far HR4.out (fun k hk => hk.2.2) (.int .i64 first)) (fun k hk => hk.2.2) (.slice A4 n4 c4)) (fun k hk => ⟨hk.1, hk.2.1⟩)
                    have hne : wr.heap.size ≠ w2.heap.size := Nat.ne_of_gt HLT.out
                    have hX := blk_far (p := ⟨wr.heap.size, 1, none⟩) (blk_far (p := ⟨wr.heap.size, 0, none⟩) HX4.out (fun e => hne e.symm) (.int .i64 first)) (fun e => hne e.symm) (.slice A4 n4 c4)
                    have hT := blk_put (cs' := #[.int .i64 first, .slice A4 n4 c4]) (blk_put (cs' := #[.int .i64 first, .slice none 0 0]) HKZ.out 0 (.int .i64 first) rfl) 1 (.slice A4 n4 c4) rfl
                    have hB := below_set (g := wr.heap.size) (j := 1) (v := .slice A4 n4 c4) (below_set (g := wr.heap.size) (j := 0) (v := .int .i64 first) HB4.out HB.out.size) HB.out.size
                    obtain ⟨W5, hW5⟩ : ∃ W5, (w4.setCell ⟨wr.heap.size, 0, none⟩ (.int .i64 first)).setCell ⟨wr.heap.size, 1, none⟩ (.slice A4 n4 c4) = W5 := ⟨_, rfl⟩
                    obtain ⟨b10, hb10⟩ : ∃ b, wr.heap.size = b := ⟨_, rfl⟩
                    rw [hW5] at hM hR hX hT hB ⊢
                    rw [hb10] at hT hne ⊢
                    clear HX4 HB4 HR4 HM4 hW5 hb10 HF4 HKZ kz0 kz1 kf0 kf1 hg2 hP2
                    have HSM4 := Aside0.mk (same_calls w1.heap.size g w1.heap.size _ _ first (doM first st o.kind o.block) A4 n4 c4 W5 hM (HWF.out.doM _ _) hR)
                    have u0 : W5.cell? ⟨b10, 0, none⟩ = some (.int .i64 first) := blk_cell hT 0
                    have u1 : W5.cell? ⟨b10, 1, none⟩ = some (.slice A4 n4 c4) := blk_cell hT 1
                    have HM5 := Aside0.mk hM
                    have HR5 := Aside0.mk hR
                    have HX5 := Aside0.mk hX
                    have HT5 := Aside0.mk hT
                    have HB5 := Aside0.mk hB
                    have HNE := Aside0.mk hne
                    clear hM hR hX hT hB hne x0 x1 x2 x3 z0 z1 z2 z3 HDO hTA hTB hTC
                    go_wp2_with fail
                    refine HSM4.out.mono ?_
                    rintro e w6 ⟨rfl, B6⟩
                    clear u0 u1
                    have k10 := (B6.block _ (blk_lt HT5.out)).trans HT5.out
                    have k8 := (B6.block _ (blk_lt HX5.out)).trans HX5.out
                    have u0 : w6.cell? ⟨b10, 0, none⟩ = some (.int .i64 first) := blk_cell k10 0
                    have u1 : w6.cell? ⟨b10, 1, none⟩ = some (.slice A4 n4 c4) := blk_cell k10 1
                    have u2 : w6.cell? ⟨w2.heap.size, 0, none⟩ = some (.int .i64 first) := blk_cell k8 0
                    have u3 : w6.cell? ⟨w2.heap.size, 1, none⟩ = some (.slice Ar nr cr) := blk_cell k8 1
                    have u4 := blk_frozen k8 0
                    have u5 := blk_frozen k8 1
                    have HK8 := Aside0.mk k8
                    have HB6 := Aside0.mk B6
                    clear k10 k8 B6
                    go_wp2
                    go_roundw
                    case rel =>
                      have h3 := HNS.out
                      have h4 := HWS.out
                      refine ⟨k + 1, doM first st o.kind o.block, A4, n4, c4, by omega, by omega, by go_num, HWF.out.doM _ _, ?_, ?_, ?_, ?_, ?_⟩
                      · have hg2 : g ≠ w2.heap.size := by omega
                        have hP2 : ∀ k, (w1.heap.size ≤ k ∧ k < N) → k ≠ w2.heap.size := fun k hk e => by have := hk.2; omega
                        exact ((HM5.out.fresh HB6.out).far hg2 hP2 _ _).far hg2 hP2 _ _
                      · exact Kd.R_far (Kd.R_far (Kd.R_below HR5.out HB6.out) (fun k hk => hk.2) _) (fun k hk => hk.2) _
                      · exact blk_put (cs := #[.int .i64 first, .slice Ar nr cr]) (blk_put (cs := #[.int .i64 first, .slice Ar nr cr]) HK8.out 0 _ rfl) 1 _ rfl
                      · have hBB := HB5.out.trans (HB6.out.mono HB5.out.size)
                        exact below_set (below_set hBB (by omega)) (by omega)
                      · have := blk_lt HK8.out
                        simpa [World.setCell] using this
                    case measure => simp [intOf]; omega
                  exact AllReady.nil
                exact AllReady.nil
              exact AllReady.nil
            exact AllReady.nil
          exact AllReady.nil
        refine AllReady.cons rfl (fun K hK => ?_) ?_
        · go_simp
          refine hK _ _ ?_; clear hK K
          refine wpAny_ready (rs := [1, 5]) (by kernel_rfl) (by simp) ?_
          refine AllReady.cons rfl (fun K hK => ?_) ?_
          · go_simp
            refine hK _ _ ?_; clear hK K
            refine wpAny_ready (rs := [5]) (by kernel_rfl) (by simp) ?_
            refine AllReady.cons rfl (fun K hK => ?_) ?_
            · go_simp
              refine hK _ _ ?_; clear hK K
              refine wpAny_ready (rs := [6]) (by kernel_rfl) (by simp) ?_
              refine AllReady.cons rfl (fun K hK => ?_) ?_
              · go_simp
                go_wp2_with (with_reducible refine (HDO.out _ (by repeat (first | exact Below.refl _ _ | refine below_drew ?_ | refine below_alloc ?_ _))).mono ?_; rintro e w4 ⟨v4, rfl, M4, R4, F4⟩; obtain ⟨A4, n4, c4, rfl⟩ := R_form' R4)
                have HM4 := Aside0.mk M4
                have HF4 := Aside0.mk F4
                have HR4 := Aside0.mk (hTB.out _ _ F4 R4)
                have kz := hTC.out _ F4
                have hX4 : w4.heap[w2.heap.size]? = some (.cells #[.int .i64 first, .slice Ar nr cr] 63 (0, 0)) := F4.blk (blk_drew (blk_alloc HX.out _)) (HNP.out _ HNS.out.1)
                have hB4 : Below w.heap.size w w4 := (below_drew (below_alloc HB.out (.cells #[.int .i64 0, .slice none 0 0] 63))).trans (F4.below (B := w.heap.size) (fun k hk => Nat.le_trans HWS.out hk.1) (Nat.le_trans HB.out.size (show wr.heap.size ≤ (wr.alloc (.cells #[.int .i64 0, .slice none 0 0] 63)).heap.size by simp)))
                have HX4 := Aside0.mk hX4
                have HB4 := Aside0.mk hB4
                have HKZ := Aside0.mk kz
                have kz0 : w4.cell? ⟨wr.heap.size, 0, none⟩ = some (.int .i64 0) := blk_cell kz 0
                have kz1 : w4.cell? ⟨wr.heap.size, 1, none⟩ = some (.slice none 0 0) := blk_cell kz 1
                have kf0 := blk_frozen kz 0
                have kf1 := blk_frozen kz 1
                clear M4 R4 F4 hX4 hB4 kz
                refine wpAny_take (i := 7) (v := .tuple #[.agg #[.int .i64 first, .slice A4 n4 c4], .bool true]) rfl (by kernel_rfl) (by kernel_rfl) (by kernel_rfl) (fun _ _ _ h => h) (Or.inl ⟨by kernel_rfl, ?_⟩) ?_
                · intro w; go_simp; try with_reducible rfl
                refine wpAny_take (i := 8) (v := .agg #[.int .i64 first, .slice A4 n4 c4]) rfl (by kernel_rfl) (by kernel_rfl) (by kernel_rfl) (fun _ _ _ h => h) (Or.inl ⟨by kernel_rfl, ?_⟩) ?_
                · intro w; go_simp; try with_reducible rfl
                refine wpAny_take (i := 9) (v := .bool true) rfl (by kernel_rfl) (by kernel_rfl) (by kernel_rfl) (fun _ _ _ h => h) (Or.inl ⟨by kernel_rfl, ?_⟩) ?_
                · intro w; go_simp; try with_reducible rfl
                refine wpAny_ready (rs := [11]) (by kernel_rfl) (by simp) ?_
                refine AllReady.cons rfl (fun K hK => ?_) ?_
                · go_simp
                  refine hK _ _ ?_; clear hK K
                  refine wpAny_ready (rs := [12]) (by kernel_rfl) (by simp) ?_
                  refine AllReady.cons rfl (fun K hK => ?_) ?_
                  · go_simp
                    refine hK _ _ ?_; clear hK K
                    refine wpAny_done (by kernel_rfl) ?_ _
                    go_simp
                    have hg2 : g ≠ wr.heap.size := by have := HLT.out; have := HNS.out; omega
                    have hP2 : ∀ k, (w1.heap.size ≤ k ∧ k < N) → k ≠ wr.heap.size := fun k hk e => by have := hk.2; have := HLT.out; have := HNS.out; omega
                    have hM := (HM4.out.far hg2 hP2 0 (.int .i64 first)).far hg2 hP2 1 (.slice A4 n4 c4)
                    have hR : KI.R 3 ((w4.setCell ⟨wr.heap.size, 0, none⟩ (.int .i64 first)).setCell ⟨wr.heap.size, 1, none⟩ (.slice A4 n4 c4)) w1.heap.size (fun k => N ≤ k ∧ k ≠ w2.heap.size) (.slice A4 n4 c4) (doM first st o.kind o.block) :=
                      Kd.R_mono (Kd.R_far (Kd.R_far HR4.out (fun k hk => hk.2.2) (.int .i64 first)) (fun k hk => hk.2.2) (.slice A4 n4 c4)) (fun k hk => ⟨hk.1, hk.2.1⟩)
                    have hne : wr.heap.size ≠ w2.heap.size := Nat.ne_of_gt HLT.out
                    have hX := blk_far (p := ⟨wr.heap.size, 1, none⟩) (blk_far (p := ⟨wr.heap.size, 0, none⟩) HX4.out (fun e => hne e.symm) (.int .i64 first)) (fun e => hne e.symm) (.slice A4 n4 c4)
                    have hT := blk_put (cs' := #[.int .i64 first, .slice A4 n4 c4]) (blk_put (cs' := #[.int .i64 first, .slice none 0 0]) HKZ.out 0 (.int .i64 first) rfl) 1 (.slice A4 n4 c4) rfl
                    have hB := below_set (g := wr.heap.size) (j := 1) (v := .slice A4 n4 c4) (below_set (g := wr.heap.size) (j := 0) (v := .int .i64 first) HB4.out HB.out.size) HB.out.size
                    obtain ⟨W5, hW5⟩ : ∃ W5, (w4.setCell ⟨wr.heap.size, 0, none⟩ (.int .i64 first)).setCell ⟨wr.heap.size, 1, none⟩ (.slice A4 n4 c4) = W5 := ⟨_, rfl⟩
                    obtain ⟨b10, hb10⟩ : ∃ b, wr.heap.size = b := ⟨_, rfl⟩
                    rw [hW5] at hM hR hX hT hB ⊢
                    rw [hb10] at hT hne ⊢
                    clear HX4 HB4 HR4 HM4 hW5 hb10 HF4 HKZ kz0 kz1 kf0 kf1 hg2 hP2
                    have HSM4 := Aside0.mk (same_calls w1.heap.size g w1.heap.size _ _ first (doM first st o.kind o.block) A4 n4 c4 W5 hM (HWF.out.doM _ _) hR)
                    have u0 : W5.cell? ⟨b10, 0, none⟩ = some (.int .i64 first) := blk_cell hT 0
                    have u1 : W5.cell? ⟨b10, 1, none⟩ = some (.slice A4 n4 c4) := blk_cell hT 1
                    have HM5 := Aside0.mk hM
                    have HR5 := Aside0.mk hR
                    have HX5 := Aside0.mk hX
                    have HT5 := Aside0.mk hT
                    have HB5 := Aside0.mk hB
                    have HNE := Aside0.mk hne
                    clear hM hR hX hT hB hne x0 x1 x2 x3 z0 z1 z2 z3 HDO hTA hTB hTC
                    go_wp2_with fail
                    refine HSM4.out.mono ?_
                    rintro e w6 ⟨rfl, B6⟩
                    clear u0 u1
                    have k10 := (B6.block _ (blk_lt HT5.out)).trans HT5.out
                    have k8 := (B6.block _ (blk_lt HX5.out)).trans HX5.out
                    have u0 : w6.cell? ⟨b10, 0, none⟩ = some (.int .i64 first) := blk_cell k10 0
                    have u1 : w6.cell? ⟨b10, 1, none⟩ = some (.slice A4 n4 c4) := blk_cell k10 1
                    have u2 : w6.cell? ⟨w2.heap.size, 0, none⟩ = some (.int .i64 first) := blk_cell k8 0
                    have u3 : w6.cell? ⟨w2.heap.size, 1, none⟩ = some (.slice Ar nr cr) := blk_cell k8 1
                    have u4 := blk_frozen k8 0
                    have u5 := blk_frozen k8 1
                    have HK8 := Aside0.mk k8
                    have HB6 := Aside0.mk B6
                    clear k10 k8 B6
                    go_wp2
                    go_roundw
                    case rel =>
                      have h3 := HNS.out
                      have h4 := HWS.out
                      refine ⟨k + 1, doM first st o.kind o.block, A4, n4, c4, by omega, by omega, by go_num, HWF.out.doM _ _, ?_, ?_, ?_, ?_, ?_⟩
                      · have hg2 : g ≠ w2.heap.size := by omega
                        have hP2 : ∀ k, (w1.heap.size ≤ k ∧ k < N) → k ≠ w2.heap.size := fun k hk e => by have := hk.2; omega
                        exact ((HM5.out.fresh HB6.out).far hg2 hP2 _ _).far hg2 hP2 _ _
                      · exact Kd.R_far (Kd.R_far (Kd.R_below HR5.out HB6.out) (fun k hk => hk.2) _) (fun k hk => hk.2) _
                      · exact blk_put (cs := #[.int .i64 first, .slice Ar nr cr]) (blk_put (cs := #[.int .i64 first, .slice Ar nr cr]) HK8.out 0 _ rfl) 1 _ rfl
                      · have hBB := HB5.out.trans (HB6.out.mono HB5.out.size)
                        exact below_set (below_set hBB (by omega)) (by omega)
                      · have := blk_lt HK8.out
                        simpa [World.setCell] using this
                    case measure => simp [intOf]; omega
                  exact AllReady.nil
                exact AllReady.nil
              exact AllReady.nil
            exact AllReady.nil
          refine AllReady.cons rfl (fun K hK => ?_) ?_
          · go_simp
            refine hK _ _ ?_; clear hK K
            refine wpAny_ready (rs := [1]) (by kernel_rfl) (by simp) ?_
            refine AllReady.cons rfl (fun K hK => ?_) ?_
            · go_simp
              refine hK _ _ ?_; clear hK K
              refine wpAny_ready (rs := [6]) (by kernel_rfl) (by simp) ?_
              refine AllReady.cons rfl (fun K hK => ?_) ?_
              · go_simp
                go_wp2_with (with_reducible refine (HDO.out _ (by repeat (first | exact Below.refl _ _ | refine below_drew ?_ | refine below_alloc ?_ _))).mono ?_; rintro e w4 ⟨v4, rfl, M4, R4, F4⟩; obtain ⟨A4, n4, c4, rfl⟩ := R_form' R4)
                have HM4 := Aside0.mk M4
                have HF4 := Aside0.mk F4
                have HR4 := Aside0.mk (hTB.out _ _ F4 R4)
                have kz := hTC.out _ F4
                have hX4 : w4.heap[w2.heap.size]? = some (.cells #[.int .i64 first, .slice Ar nr cr] 63 (0, 0)) := F4.blk (blk_drew (blk_alloc HX.out _)) (HNP.out _ HNS.out.1)
                have hB4 : Below w.heap.size w w4 := (below_drew (below_alloc HB.out (.cells #[.int .i64 0, .slice none 0 0] 63))).trans (F4.below (B := w.heap.size) (fun k hk => Nat.le_trans HWS.out hk.1) (Nat.le_trans HB.out.size (show wr.heap.size ≤ (wr.alloc (.cells #[.int .i64 0, .slice none 0 0] 63)).heap.size by simp)))
                have HX4 := Aside0.mk hX4
                have HB4 := Aside0.mk hB4
                have HKZ := Aside0.mk kz
                have kz0 : w4.cell? ⟨wr.heap.size, 0, none⟩ = some (.int .i64 0) := blk_cell kz 0
                have kz1 : w4.cell? ⟨wr.heap.size, 1, none⟩ = some (.slice none 0 0) := blk_cell kz 1
                have kf0 := blk_frozen kz 0
                have kf1 := blk_frozen kz 1
                clear M4 R4 F4 hX4 hB4 kz
                refine wpAny_take (i := 7) (v := .tuple #[.agg #[.int .i64 first, .slice A4 n4 c4], .bool true]) rfl (by kernel_rfl) (by kernel_rfl) (by kernel_rfl) (fun _ _ _ h => h) (Or.inl ⟨by kernel_rfl, ?_⟩) ?_
                · intro w; go_simp; try with_reducible rfl
                refine wpAny_take (i := 8) (v := .agg #[.int .i64 first, .slice A4 n4 c4]) rfl (by kernel_rfl) (by kernel_rfl) (by kernel_rfl) (fun _ _ _ h => h) (Or.inl ⟨by kernel_rfl, ?_⟩) ?_
                · intro w; go_simp; try with_reducible rfl
                refine wpAny_take (i := 9) (v := .bool true) rfl (by kernel_rfl) (by kernel_rfl) (by kernel_rfl) (fun _ _ _ h => h) (Or.inl ⟨by kernel_rfl, ?_⟩) ?_
                · intro w; go_simp; try with_reducible rfl
                refine wpAny_ready (rs := [11]) (by kernel_rfl) (by simp) ?_
                refine AllReady.cons rfl (fun K hK => ?_) ?_
                · go_simp
                  refine hK _ _ ?_; clear hK K
                  refine wpAny_ready (rs := [12]) (by kernel_rfl) (by simp) ?_
                  refine AllReady.cons rfl (fun K hK => ?_) ?_
                  · go_simp
                    refine hK _ _ ?_; clear hK K
                    refine wpAny_done (by kernel_rfl) ?_ _
                    go_simp
                    have hg2 : g ≠ wr.heap.size := by have := HLT.out; have := HNS.out; omega
                    have hP2 : ∀ k, (w1.heap.size ≤ k ∧ k < N) → k ≠ wr.heap.size := fun k hk e => by have := hk.2; have := HLT.out; have := HNS.out; omega
                    have hM := (HM4.out.far hg2 hP2 0 (.int .i64 first)).far hg2 hP2 1 (.slice A4 n4 c4)
                    have hR : KI.R 3 ((w4.setCell ⟨wr.heap.size, 0, none⟩ (.int .i64 first)).setCell ⟨wr.heap.size, 1, none⟩ (.slice A4 n4 c4)) w1.heap.size (fun k => N ≤ k ∧ k ≠ w2.heap.size) (.slice A4 n4 c4) (doM first st o.kind o.block) :=
                      Kd.R_mono (Kd.R_far (Kd.R_far HR4.out (fun k hk => hk.2.2) (.int .i64 first)) (fun k hk => hk.2.2) (.slice A4 n4 c4)) (fun k hk => ⟨hk.1, hk.2.1⟩)
                    have hne : wr.heap.size ≠ w2.heap.size := Nat.ne_of_gt HLT.out
                    have hX := blk_far (p := ⟨wr.heap.size, 1, none⟩) (blk_far (p := ⟨wr.heap.size, 0, none⟩) HX4.out (fun e => hne e.symm) (.int .i64 first)) (fun e => hne e.symm) (.slice A4 n4 c4)
                    have hT := blk_put (cs' := #[.int .i64 first, .slice A4 n4 c4]) (blk_put (cs' := #[.int .i64 first, .slice none 0 0]) HKZ.out 0 (.int .i64 first) rfl) 1 (.slice A4 n4 c4) rfl
                    have hB := below_set (g := wr.heap.size) (j := 1) (v := .slice A4 n4 c4) (below_set (g := wr.heap.size) (j := 0) (v := .int .i64 first) HB4.out HB.out.size) HB.out.size
                    obtain ⟨W5, hW5⟩ : ∃ W5, (w4.setCell ⟨wr.heap.size, 0, none⟩ (.int .i64 first)).setCell ⟨wr.heap.size, 1, none⟩ (.slice A4 n4 c4) = W5 := ⟨_, rfl⟩
                    obtain ⟨b10, hb10⟩ : ∃ b, wr.heap.size = b := ⟨_, rfl⟩
                    rw [hW5] at hM hR hX hT hB ⊢
                    rw [hb10] at hT hne ⊢
                    clear HX4 HB4 HR4 HM4 hW5 hb10 HF4 HKZ kz0 kz1 kf0 kf1 hg2 hP2
                    have HSM4 := Aside0.mk (same_calls w1.heap.size g w1.heap.size _ _ first (doM first st o.kind o.block) A4 n4 c4 W5 hM (HWF.out.doM _ _) hR)
                    have u0 : W5.cell? ⟨b10, 0, none⟩ = some (.int .i64 first) := blk_cell hT 0
                    have u1 : W5.cell? ⟨b10, 1, none⟩ = some (.slice A4 n4 c4) := blk_cell hT 1
                    have HM5 := Aside0.mk hM
                    have HR5 := Aside0.mk hR
                    have HX5 := Aside0.mk hX
                    have HT5 := Aside0.mk hT
                    have HB5 := Aside0.mk hB
                    have HNE := Aside0.mk hne
                    clear hM hR hX hT hB hne x0 x1 x2 x3 z0 z1 z2 z3 HDO hTA hTB hTC
                    go_wp2_with fail
                    refine HSM4.out.mono ?_
                    rintro e w6 ⟨rfl, B6⟩
                    clear u0 u1
                    have k10 := (B6.block _ (blk_lt HT5.out)).trans HT5.out
                    have k8 := (B6.block _ (blk_lt HX5.out)).trans HX5.out
                    have u0 : w6.cell? ⟨b10, 0, none⟩ = some (.int .i64 first) := blk_cell k10 0
                    have u1 : w6.cell? ⟨b10, 1, none⟩ = some (.slice A4 n4 c4) := blk_cell k10 1
                    have u2 : w6.cell? ⟨w2.heap.size, 0, none⟩ = some (.int .i64 first) := blk_cell k8 0
                    have u3 : w6.cell? ⟨w2.heap.size, 1, none⟩ = some (.slice Ar nr cr) := blk_cell k8 1
                    have u4 := blk_frozen k8 0
                    have u5 := blk_frozen k8 1
                    have HK8 := Aside0.mk k8
                    have HB6 := Aside0.mk B6
                    clear k10 k8 B6
                    go_wp2
                    go_roundw
                    case rel =>
                      have h3 := HNS.out
                      have h4 := HWS.out
                      refine ⟨k + 1, doM first st o.kind o.block, A4, n4, c4, by omega, by omega, by go_num, HWF.out.doM _ _, ?_, ?_, ?_, ?_, ?_⟩
                      · have hg2 : g ≠ w2.heap.size := by omega
                        have hP2 : ∀ k, (w1.heap.size ≤ k ∧ k < N) → k ≠ w2.heap.size := fun k hk e => by have := hk.2; omega
                        exact ((HM5.out.fresh HB6.out).far hg2 hP2 _ _).far hg2 hP2 _ _
                      · exact Kd.R_far (Kd.R_far (Kd.R_below HR5.out HB6.out) (fun k hk => hk.2) _) (fun k hk => hk.2) _
                      · exact blk_put (cs := #[.int .i64 first, .slice Ar nr cr]) (blk_put (cs := #[.int .i64 first, .slice Ar nr cr]) HK8.out 0 _ rfl) 1 _ rfl
                      · have hBB := HB5.out.trans (HB6.out.mono HB5.out.size)
                        exact below_set (below_set hBB (by omega)) (by omega)
                      · have := blk_lt HK8.out
                        simpa [World.setCell] using this
                    case measure => simp [intOf]; omega
                  exact AllReady.nil
                exact AllReady.nil
              exact AllReady.nil
            exact AllReady.nil
          exact AllReady.nil
        exact AllReady.nil
      · have d1 : decide ((k : Int) < (n : Int)) = true := decide_eq_true (by omega)
        have d2 : decide ((k : Int) < 60) = false := decide_eq_false (by omega)
        go_wp2
        go_ret
        exact ⟨rfl, HB.out⟩
    · have d1 : decide ((k : Int) < (n : Int)) = false := decide_eq_false (by omega)
      go_wp2
      go_ret
      exact ⟨rfl, HB.out⟩
end Go.Proofs.Ytbddllklagiajaa
