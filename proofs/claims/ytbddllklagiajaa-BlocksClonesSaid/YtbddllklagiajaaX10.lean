/- slices.Clone at bytes, (*Map).Clone. -/
import Derived.Test.YtbddllklagiajaaX8
namespace Go.Proofs.Ytbddllklagiajaa
open PCodecKeeps (info5)
open Go.RowKit Go.Proofs.YtbddllklagiajaaW.PrintWords Go.Proofs.YtbddllklagiajaaW.PrintLast Go.Proofs.YtbddllklagiajaaW.PrintMore
set_option linter.unusedVariables false
set_option linter.unusedSimpArgs false

set_option maxRecDepth 100000 in
set_option maxHeartbeats 1000000 in
theorem sclone_calls (ad : Addr) (n c : Nat) (xs : List Int) (w : World) (hC : KB.C w (some ad) n xs) (hn : n = xs.length) (hl : n ≤ 65536) :
    Calls Try.prog 89 #[.slice (some ad) n c] w fun e w' => ∃ v, e = .returned v ∧ KB.R 5 w' w.heap.size (fun _ => True) v xs ∧ Below w.heap.size w w' := by
  have HE := Aside0.mk (R_block KB (W := w) (base := w.heap.size) (e := 5) (xs := []) (inner := []) (ok := fun _ => True) (okp := fun _ => True) (Reps.none _ _) (fun _ h => h) trivial (Nat.le_refl _) (by simp))
  have HC := Aside0.mk hC
  have HN := Aside0.mk hn
  clear hC hn
  have hcmp : ∀ W, (Go.binOp .eql 22 (.slice (some ad) n c) (.slice none 0 0)).run Try.prog W = .ok (.bool false) W := by
    intro W
    rfl
  go_enter Try.func89, Try.ntmps89
  go_wp2_with ((with_reducible refine gate_dst (N := 7) rfl ?_); at_builtin; refine Kd.R_append_row (Value.int .u8) 0 (h1 := fun _ => rfl) (w0 := w) w.heap.size rfl (.tmp 5) (.tmp 6) 22 5 (.int .u8 0) 1 rfl Try.underlying22 info5 rfl (by decide) _ [] xs (some ad) n c (fun _ => True) rfl rfl ?aF ?aO ?aR ?aB ?aS ?aL ?_; (case aF => exact fun _ _ => trivial); (case aO => exact HE.out); (case aR => have := HC.out; rw [HN.out] at this ⊢; exact Kd.C_alloc this _); (case aB => exact below_alloc (Below.refl _ _) _); (case aS => simp); (case aL => have := HN.out; simp; omega); intro v3 w3 hr3 hb3 hg3 hat3; have HR3 := Aside0.mk hr3; have HB3 := Aside0.mk hb3; clear hr3 hb3 hg3 hat3)
  go_ret
  exact ⟨_, rfl, HR3.out, HB3.out⟩

theorem clone_nil (w : World) : Calls Try.prog 52 #[.pointer none] w fun e w' => e = .returned (.pointer none) ∧ w' = w := by
  go_enter Try.func52, Try.ntmps52
  go_wp2
  go_ret
  exact ⟨rfl, rfl⟩

set_option maxRecDepth 100000 in
set_option maxHeartbeats 4000000 in
theorem clone_calls (base g : Nat) (P : Nat → Prop) (first : Int) (st : List Int) (w : World) (h : Mp base w g P first st) (hw : WfM first st) :
    Calls Try.prog 52 #[.pointer (some ⟨g, 0, none⟩)] w fun e w' => ∃ g2, e = .returned (.pointer (some ⟨g2, 0, none⟩)) ∧ Mp w.heap.size w' g2 (fun k => w.heap.size ≤ k) first st ∧ w.heap.size ≤ g2 ∧ Below w.heap.size w w' := by
  obtain ⟨A, n, c, hb, hbg, hr⟩ := h
  obtain rfl := (Kd.R_reads' hr).1
  have h1 := hw.2.2.1
  obtain ⟨b, rfl, _, _, _, _, _⟩ := own_at hr 0 (by omega)
  have HSC := Aside0.mk (fun W (hW : Below w.heap.size w W) => sclone_calls ⟨b, 0, none⟩ st.length c st W (Kd.R_reads' (Kd.R_below hr hW)).2.2 rfl hw.2.2.2.1)
  have hx := Aside0.mk (fun W (hW : Below w.heap.size w W) => (hW.block _ (blk_lt hb)).trans hb)
  have x0 : w.drew.cell? ⟨g, 0, none⟩ = some (.int .i64 first) := blk_cell hb 0
  have x1 : w.drew.cell? ⟨g, 1, none⟩ = some (.slice (some ⟨b, 0, none⟩) st.length c) := blk_cell hb 1
  have x2 : w.cell? ⟨g, 0, none⟩ = some (.int .i64 first) := x0
  have x3 : w.cell? ⟨g, 1, none⟩ = some (.slice (some ⟨b, 0, none⟩) st.length c) := x1
  have HSD := Aside0.mk (HSC.out w.drew (below_drew (Below.refl _ _)))
  clear hb hbg hr hw h1
  go_enter Try.func52, Try.ntmps52
  go_wp2_with fail
  go_region_with (go_at_call 89; refine HSD.out.mono ?_; rintro e w1 ⟨v, rfl, R1, B1⟩; obtain ⟨A1, n1, c1, rfl⟩ := R_form' R1; have hg1 := hx.out w1 ((Below.refl w.heap.size w).drew.trans B1); have y0 : w1.cell? ⟨g, 0, none⟩ = some (.int .i64 first) := blk_cell hg1 0; have HR1 := Aside0.mk R1; have HB1 := Aside0.mk ((Below.refl w.heap.size w).drew.trans B1))
  all_goals (go_wp2)
  all_goals
    go_ret
    have hs := HB1.out.size
    exact ⟨w1.heap.size, rfl, ⟨A1, n1, c1, blk_new w1 _, hs, Kd.R_alloc (Kd.R_mono (Kd.R_bound HR1.out) (fun k hk => hk.2.1)) _⟩, hs, below_alloc HB1.out _⟩
end Go.Proofs.Ytbddllklagiajaa
