/- Law ImageChecks walked. -/
import Derived.Test.YtbddllklagiajaaDoorX3
namespace Go.Proofs.YtbddllklagiajaaDoor
open Go.RowKit Go.Proofs.YtbddllklagiajaaDoorW.PrintWords Go.Proofs.YtbddllklagiajaaDoorW.PrintLast Go.Proofs.YtbddllklagiajaaDoorW.PrintMore
set_option linter.unusedVariables false
set_option linter.unusedSimpArgs false

set_option maxHeartbeats 8000000 in
set_option maxRecDepth 100000 in
theorem checks_calls (c d : ByteArray) (z e : Int) (w : World) (hK : KT w) : Calls Tryd.prog 5 #[.agg #[.string c, .string d, .int .i64 z, .int .i64 e]] w fun en w' => en = .returned (.bool true) ∧ Below w.heap.size w w' := by
  obtain ⟨W0, hW0⟩ : ∃ W, w.alloc (.cells #[.string c, .string d, .int .i64 z, .int .i64 e] 23) = W := ⟨_, rfl⟩
  have b0 := below_alloc (Below.refl w.heap.size w) (.cells #[.string c, .string d, .int .i64 z, .int .i64 e] 23)
  have t0 := blk_new w (.cells #[.string c, .string d, .int .i64 z, .int .i64 e] 23)
  rw [hW0] at b0 t0
  have HT0 := Aside0.mk b0
  have HXX := Aside0.mk (fun W (hW : Below W0.heap.size W0 W) => (hW.block w.heap.size (blk_lt t0)).trans t0)
  have HKK := Aside0.mk (fun W (hW : Below W0.heap.size W0 W) => ((hK.after b0).after hW))
  have HBx := Aside0.mk (Below.refl W0.heap.size W0)
  have LC := Aside0.mk (fun W => replevinlaw20_long.calls c d z e _ W (long_f c d z e))
  obtain ⟨lg, hl⟩ : ∃ b, lgI c d = b := ⟨_, rfl⟩
  have hlg : lg = false → c.size ≤ 6000 ∧ d.size ≤ 6000 := fun h => lg_off (hl.trans h)
  rw [hl] at LC
  clear hl
  have HW0 := Aside0.mk hW0
  clear b0 t0 hW0 hK
  cases lg
  · obtain ⟨hc, hd⟩ := hlg rfl
    have CC := Aside0.mk (fun W => PImageDecodes.image_Image_Check.calls 2 c d z e _ W (check_f c d z e (by omega) (by omega)))
    have RC := Aside0.mk (fun W => PImageDecodes.replevinref20_Check.calls 2 c d z e _ W (refCheck_f c d z e (by omega) (by omega)))
    have TC := Aside0.mk (fun W => PImageDecodes.replevinlaw20_To.calls c d z e _ _ _ _ W rfl)
    clear hlg hc hd
    go_enter Tryd.func5, Tryd.ntmps5
    have y0 : W0.cell? ⟨w.heap.size, 0, none⟩ = some (.string c) := blk_cell (HXX.out _ HBx.out) 0
    have y1 : W0.cell? ⟨w.heap.size, 1, none⟩ = some (.string d) := blk_cell (HXX.out _ HBx.out) 1
    have y2 : W0.cell? ⟨w.heap.size, 2, none⟩ = some (.int .i64 z) := blk_cell (HXX.out _ HBx.out) 2
    have y3 : W0.cell? ⟨w.heap.size, 3, none⟩ = some (.int .i64 e) := blk_cell (HXX.out _ HBx.out) 3
    go_wp2_with (first | (go_at_call 10; (try rw [HW0.out]); refine (known_calls _ (HKK.out _ HBx.out)).mono ?_; rintro en wN ⟨rfl, BN⟩; have HBx := Aside0.mk (show Below W0.heap.size W0 _ from HBx.out.trans (BN.mono HBx.out.size)); clear BN; have y0 : wN.cell? ⟨w.heap.size, 0, none⟩ = some (.string c) := blk_cell (HXX.out _ HBx.out) 0; have y1 : wN.cell? ⟨w.heap.size, 1, none⟩ = some (.string d) := blk_cell (HXX.out _ HBx.out) 1; have y2 : wN.cell? ⟨w.heap.size, 2, none⟩ = some (.int .i64 z) := blk_cell (HXX.out _ HBx.out) 2; have y3 : wN.cell? ⟨w.heap.size, 3, none⟩ = some (.int .i64 e) := blk_cell (HXX.out _ HBx.out) 3) | (go_at_call 11; refine (LC.out _).mono ?_; rintro en wN ⟨rfl, BN⟩; have HBx := Aside0.mk (show Below W0.heap.size W0 _ from HBx.out.trans (BN.mono HBx.out.size)); clear BN; have y0 : wN.cell? ⟨w.heap.size, 0, none⟩ = some (.string c) := blk_cell (HXX.out _ HBx.out) 0; have y1 : wN.cell? ⟨w.heap.size, 1, none⟩ = some (.string d) := blk_cell (HXX.out _ HBx.out) 1; have y2 : wN.cell? ⟨w.heap.size, 2, none⟩ = some (.int .i64 z) := blk_cell (HXX.out _ HBx.out) 2; have y3 : wN.cell? ⟨w.heap.size, 3, none⟩ = some (.int .i64 e) := blk_cell (HXX.out _ HBx.out) 3))
    have hbd := HBx.out.drew
    clear HBx y0 y1 y2 y3 LC
    have HBx := Aside0.mk hbd
    clear hbd
    have y0 : wN.drew.cell? ⟨w.heap.size, 0, none⟩ = some (.string c) := blk_cell (HXX.out _ HBx.out) 0
    have y1 : wN.drew.cell? ⟨w.heap.size, 1, none⟩ = some (.string d) := blk_cell (HXX.out _ HBx.out) 1
    have y2 : wN.drew.cell? ⟨w.heap.size, 2, none⟩ = some (.int .i64 z) := blk_cell (HXX.out _ HBx.out) 2
    have y3 : wN.drew.cell? ⟨w.heap.size, 3, none⟩ = some (.int .i64 e) := blk_cell (HXX.out _ HBx.out) 3
    go_region_with (first | (go_at_call 12; refine (TC.out _).mono ?_; rintro en wP ⟨rfl, BN⟩; have HBx := Aside0.mk (show Below W0.heap.size W0 _ from HBx.out.trans (BN.mono HBx.out.size)); clear BN; have y0 : wP.cell? ⟨w.heap.size, 0, none⟩ = some (.string c) := blk_cell (HXX.out _ HBx.out) 0; have y1 : wP.cell? ⟨w.heap.size, 1, none⟩ = some (.string d) := blk_cell (HXX.out _ HBx.out) 1; have y2 : wP.cell? ⟨w.heap.size, 2, none⟩ = some (.int .i64 z) := blk_cell (HXX.out _ HBx.out) 2; have y3 : wP.cell? ⟨w.heap.size, 3, none⟩ = some (.int .i64 e) := blk_cell (HXX.out _ HBx.out) 3) | (go_at_call 16; refine (CC.out _).mono ?_; rintro en wP ⟨rfl, BN⟩; have HBx := Aside0.mk (show Below W0.heap.size W0 _ from HBx.out.trans (BN.mono HBx.out.size)); clear BN; have y0 : wP.cell? ⟨w.heap.size, 0, none⟩ = some (.string c) := blk_cell (HXX.out _ HBx.out) 0; have y1 : wP.cell? ⟨w.heap.size, 1, none⟩ = some (.string d) := blk_cell (HXX.out _ HBx.out) 1; have y2 : wP.cell? ⟨w.heap.size, 2, none⟩ = some (.int .i64 z) := blk_cell (HXX.out _ HBx.out) 2; have y3 : wP.cell? ⟨w.heap.size, 3, none⟩ = some (.int .i64 e) := blk_cell (HXX.out _ HBx.out) 3) | (go_at_call 18; refine (RC.out _).mono ?_; rintro en wP ⟨rfl, BN⟩; have HBx := Aside0.mk (show Below W0.heap.size W0 _ from HBx.out.trans (BN.mono HBx.out.size)); clear BN; have y0 : wP.cell? ⟨w.heap.size, 0, none⟩ = some (.string c) := blk_cell (HXX.out _ HBx.out) 0; have y1 : wP.cell? ⟨w.heap.size, 1, none⟩ = some (.string d) := blk_cell (HXX.out _ HBx.out) 1; have y2 : wP.cell? ⟨w.heap.size, 2, none⟩ = some (.int .i64 z) := blk_cell (HXX.out _ HBx.out) 2; have y3 : wP.cell? ⟨w.heap.size, 3, none⟩ = some (.int .i64 e) := blk_cell (HXX.out _ HBx.out) 3))
    all_goals (go_wp2)
    all_goals go_ret
    all_goals exact ⟨by first | rfl | (simp; done), HT0.out.trans (HBx.out.mono HT0.out.size)⟩
  · clear hlg
    go_enter Tryd.func5, Tryd.ntmps5
    have y0 : W0.cell? ⟨w.heap.size, 0, none⟩ = some (.string c) := blk_cell (HXX.out _ HBx.out) 0
    have y1 : W0.cell? ⟨w.heap.size, 1, none⟩ = some (.string d) := blk_cell (HXX.out _ HBx.out) 1
    have y2 : W0.cell? ⟨w.heap.size, 2, none⟩ = some (.int .i64 z) := blk_cell (HXX.out _ HBx.out) 2
    have y3 : W0.cell? ⟨w.heap.size, 3, none⟩ = some (.int .i64 e) := blk_cell (HXX.out _ HBx.out) 3
    go_wp2_with (first | (go_at_call 10; (try rw [HW0.out]); refine (known_calls _ (HKK.out _ HBx.out)).mono ?_; rintro en wN ⟨rfl, BN⟩; have HBx := Aside0.mk (show Below W0.heap.size W0 _ from HBx.out.trans (BN.mono HBx.out.size)); clear BN; have y0 : wN.cell? ⟨w.heap.size, 0, none⟩ = some (.string c) := blk_cell (HXX.out _ HBx.out) 0; have y1 : wN.cell? ⟨w.heap.size, 1, none⟩ = some (.string d) := blk_cell (HXX.out _ HBx.out) 1; have y2 : wN.cell? ⟨w.heap.size, 2, none⟩ = some (.int .i64 z) := blk_cell (HXX.out _ HBx.out) 2; have y3 : wN.cell? ⟨w.heap.size, 3, none⟩ = some (.int .i64 e) := blk_cell (HXX.out _ HBx.out) 3) | (go_at_call 11; refine (LC.out _).mono ?_; rintro en wN ⟨rfl, BN⟩; have HBx := Aside0.mk (show Below W0.heap.size W0 _ from HBx.out.trans (BN.mono HBx.out.size)); clear BN; have y0 : wN.cell? ⟨w.heap.size, 0, none⟩ = some (.string c) := blk_cell (HXX.out _ HBx.out) 0; have y1 : wN.cell? ⟨w.heap.size, 1, none⟩ = some (.string d) := blk_cell (HXX.out _ HBx.out) 1; have y2 : wN.cell? ⟨w.heap.size, 2, none⟩ = some (.int .i64 z) := blk_cell (HXX.out _ HBx.out) 2; have y3 : wN.cell? ⟨w.heap.size, 3, none⟩ = some (.int .i64 e) := blk_cell (HXX.out _ HBx.out) 3))
    go_ret
    exact ⟨rfl, HT0.out.trans (HBx.out.mono HT0.out.size)⟩
end Go.Proofs.YtbddllklagiajaaDoor
