/- replevinlaw12.play. -/
import Derived.Test.YtbddllklagiajaaX6
namespace Go.Proofs.Ytbddllklagiajaa
open PBlocksEncodes
open Go.RowKit Go.Proofs.YtbddllklagiajaaW.PrintWords Go.Proofs.YtbddllklagiajaaW.PrintLast Go.Proofs.YtbddllklagiajaaW.PrintMore
set_option linter.unusedVariables false
set_option linter.unusedSimpArgs false

theorem doM_length (first : Int) (st : List Int) (kind block : Int) : (doM first st kind block).length = st.length := by
  unfold doM takeM giveM
  split
  · split <;> simp
  · split
    · split
      · split
        · simp
        · split <;> simp
      · rfl
    · split <;> simp

set_option maxRecDepth 100000 in
set_option maxHeartbeats 8000000 in
theorem play_calls (a b : Int) (A : Option Addr) (n c : Nat) (l : List OpV) (w : World) (ha : 0 ≤ a ∧ a ≤ 65535) (hb : 0 ≤ b ∧ b ≤ 255) (hl : OpsIn w A n l) (hn : n ≤ 9223372036854775807) :
    Calls Try.prog 42 #[.int .u16 a, .int .u8 b, .slice A n c] w fun e w' => ∃ g v N st, e = .returned (.tuple #[.pointer (some ⟨g, 0, none⟩), .agg #[.int .i64 (a % 1000), v], .bool true]) ∧ WfM (a % 1000) st ∧ st.length = cntM b ∧
      Mp w.heap.size w' g (fun k => w.heap.size ≤ k ∧ k < N) (a % 1000) st ∧ KI.R 3 w' w.heap.size (fun k => N ≤ k) v st ∧ N ≤ w'.heap.size ∧ g < N ∧ Below w.heap.size w w' := by
  have HL := Aside0.mk hl
  clear hl
  go_enter Try.func42, Try.ntmps42
  go_wp2_with fail
  refine (begin_calls a b _ ha hb).mono ?_
  rintro e w2 ⟨g, v, N, rfl, M2, R2, hN, hg, B2⟩
  obtain ⟨A2, n2, c2, rfl⟩ := R_form' R2
  have hWf := begin_ok a b ha hb
  obtain ⟨first, hfst⟩ : ∃ f, a % 1000 = f := ⟨_, rfl⟩
  obtain ⟨st0, hst0⟩ : ∃ s, List.replicate (cntM b) (0 : Int) = s := ⟨_, rfl⟩
  have hsl : st0.length = cntM b := by rw [← hst0]; simp
  rw [hfst, hst0] at M2 hWf
  rw [hst0] at R2
  rw [hfst]
  rw [World.size_alloc] at M2 R2
  have hs2 := B2.size
  rw [World.size_alloc] at hs2
  have hfr : 0 ≤ first ∧ first < 1000 := by omega
  have b0 : w2.heap[w.heap.size]? = some (.cells #[.int .i64 0, .slice none 0 0] 63 (0, 0)) := (B2.block _ (by simp)).trans (blk_new w _)
  have hNw : w.heap.size + 1 ≤ N := by have := M2.base_le; omega
  have HBA := Aside0.mk ((below_alloc (Below.refl _ w) _).trans (B2.mono (by simp)))
  have HM2 := Aside0.mk ((M2.tight.lower (base' := w.heap.size) (by omega)).mono (P' := fun k => w.heap.size + 1 ≤ k ∧ k < N) (fun k hk => hk.1))
  have HR2 := Aside0.mk (Kd.R_lower (base' := w.heap.size) R2 (by omega))
  have HX0 := Aside0.mk b0
  have HWf := Aside0.mk hWf
  have HSL := Aside0.mk hsl
  have HFST := Aside0.mk hfst
  have HN := Aside0.mk (And.intro hN (And.intro hNw hs2))
  have HGB := Aside0.mk (show w.heap.size + 1 ≤ g from M2.base_le)
  clear M2 R2 B2 hWf hst0 hfst hsl b0 hN hNw hs2
  go_wp2_with fail
  go_loopw [11, 12] (fun okv i wr => okv = .bool true ∧ ∃ (k : Nat) (st : List Int) (Ar : Option Addr) (nr cr : Nat), k ≤ n ∧ k ≤ 60 ∧ i = .int .i64 k ∧ WfM first st ∧ st.length = cntM b ∧ Mp w.heap.size wr g (fun k => w.heap.size + 1 ≤ k ∧ k < N) first st ∧
      KI.R 3 wr w.heap.size (fun k => N ≤ k ∧ k ≠ w2.heap.size) (.slice Ar nr cr) st ∧ wr.heap[w2.heap.size]? = some (.cells #[.int .i64 first, .slice Ar nr cr] 63 (0, 0)) ∧ wr.heap[w.heap.size]? = some (.cells #[.int .i64 0, .slice none 0 0] 63 (0, 0)) ∧ Below w.heap.size w wr ∧ w2.heap.size < wr.heap.size) (fun okv i _ => 60 - (intOf i).toNat)
  case atStart =>
    have h3 := HN.out
    refine ⟨rfl, 0, st0, A2, n2, c2, Nat.zero_le _, Nat.zero_le _, rfl, HWf.out, HSL.out, HM2.out.fresh (below_alloc (Below.refl _ _) _), ?_, blk_new w2 _, blk_alloc HX0.out _, below_alloc HBA.out _, by simp⟩
    exact Kd.R_alloc (Kd.R_mono (Kd.R_bound HR2.out) (fun k hk => ⟨hk.1, by have := hk.2.2.1; omega⟩)) _
  case round =>
    clear HM2 HR2 HX0 HWf HSL
    obtain ⟨rfl, k, st, Ar, nr, cr, hk, hk6, rfl, hwf, hsl, hM, hR, hX, hX0, hB, hlt⟩ := hrel
    have x0 : wr.cell? ⟨w2.heap.size, 0, none⟩ = some (.int .i64 first) := blk_cell hX 0
    have x1 : wr.cell? ⟨w2.heap.size, 1, none⟩ = some (.slice Ar nr cr) := blk_cell hX 1
    have HWF := Aside0.mk hwf
    have HSL := Aside0.mk hsl
    have HM := Aside0.mk hM
    have HR := Aside0.mk hR
    have HX := Aside0.mk hX
    have HX0 := Aside0.mk hX0
    have HB := Aside0.mk hB
    have HLT := Aside0.mk hlt
    clear hwf hsl hM hR hX hX0 hB hlt
    by_cases h1 : k < n
    · by_cases h2 : k < 60
      · have d1 : decide ((k : Int) < (n : Int)) = true := decide_eq_true (by omega)
        have d2 : decide ((k : Int) < 60) = true := decide_eq_true (by omega)
        have hop := HL.out.okAt k h1
        obtain ⟨ad, e, hcell⟩ := HL.out.cells (by omega)
        subst e
        obtain ⟨o, ho⟩ : ∃ o, l.getD k zOp = o := ⟨_, rfl⟩
        obtain ⟨y0, y1⟩ := hcell k h1
        rw [ho] at y0 y1 hop
        have z0 : wr.cell? (ad.add (k * 2)) = some (.int .u8 o.kind) := (HB.out.cell (p := ad.add (k * 2)) (cell_lt y0)).trans y0
        have z1 : wr.cell? ⟨(ad.add (k * 2)).block, (ad.add (k * 2)).off + 1, none⟩ = some (.int .i64 o.block) := (HB.out.cell (p := ⟨(ad.add (k * 2)).block, (ad.add (k * 2)).off + 1, none⟩) (cell_lt y1)).trans y1
        have x2 : ∀ o, (wr.alloc o).cell? ⟨w2.heap.size, 0, none⟩ = some (.int .i64 first) := fun o => blk_cell (blk_alloc HX.out _) 0
        have x3 : ∀ o, (wr.alloc o).cell? ⟨w2.heap.size, 1, none⟩ = some (.slice Ar nr cr) := fun o => blk_cell (blk_alloc HX.out _) 1
        have htm : -100 < o.block.tmod 100 ∧ o.block.tmod 100 < 100 := by
          have h1 := Int.tmod_lt_of_pos o.block (show (0 : Int) < 100 by decide)
          have h2 := Int.lt_tmod_of_pos o.block (show (0 : Int) < 100 by decide)
          omega
        obtain ⟨q, hq⟩ : ∃ q, o.block.tmod 100 = q := ⟨_, rfl⟩
        rw [hq] at htm
        have hw1 : IntKind.i64.wrap q = q := by rw [IntKind.wrap_i64]; omega
        have hw2 : IntKind.i64.wrap (first + q) = first + q := by rw [IntKind.wrap_i64]; omega
        have HOP := Aside0.mk hop
        clear hcell y0 y1 hop ho
        go_wp2_with fail
        have HDO := Aside0.mk (do_calls w.heap.size g w.heap.size _ _ first st Ar nr cr o.kind (first + q) (wr.alloc (.cells #[.int .u8 o.kind, .int .i64 (first + q)] 70)) (HM.out.fresh (below_alloc (Below.refl _ _) _)) HWF.out (Kd.R_alloc HR.out _) (by have := HN.out; have := HLT.out; simp; omega) (fun k hk => by have := HN.out; have := HLT.out; simp; omega) (fun k hk hp => by omega) HOP.out.1 (by omega))
        refine HDO.out.mono ?_
        rintro e w4 ⟨v4, rfl, M4, R4, F4⟩
        obtain ⟨A4, n4, c4, rfl⟩ := R_form' R4
        have hnp : ∀ k, (N ≤ k ∨ k = w.heap.size) → ¬ (w.heap.size + 1 ≤ k ∧ k < N) := fun k h1 h2 => by omega
        have k8 := F4.blk (blk_alloc HX.out _) (hnp _ (.inl (by have := HN.out; omega)))
        have k0 := F4.blk (blk_alloc HX0.out _) (hnp _ (.inr rfl))
        have u2 : w4.cell? ⟨w2.heap.size, 0, none⟩ = some (.int .i64 first) := blk_cell k8 0
        have u3 : w4.cell? ⟨w2.heap.size, 1, none⟩ = some (.slice Ar nr cr) := blk_cell k8 1
        have u4 := blk_frozen k8 0
        have u5 := blk_frozen k8 1
        have HK8 := Aside0.mk k8
        have HK0 := Aside0.mk k0
        have HM4 := Aside0.mk M4
        have HR4 := Aside0.mk (Kd.R_mono (ok' := fun k => N ≤ k ∧ k ≠ w2.heap.size) R4 (fun k hk => hk.elim id (fun h => by have h' : wr.heap.size + 1 ≤ k := (by simpa using h); have := HN.out; have := HLT.out; exact ⟨by omega, by omega⟩)))
        have HB4 := Aside0.mk ((below_alloc HB.out (.cells #[.int .u8 o.kind, .int .i64 (first + q)] 70)).trans (F4.below (B := w.heap.size) (fun k hk => by omega) (by have := HB.out.size; simp; omega)))
        clear k8 k0 M4 R4 F4 x0 x1 x2 x3 z0 z1 hnp HDO
        go_wp2
        go_roundw
        case rel =>
          have h3 := HN.out
          have h4 := HLT.out
          refine ⟨rfl, k + 1, doM first st o.kind (first + q), A4, n4, c4, by omega, by omega, by go_num, HWF.out.doM _ _, by rw [doM_length]; exact HSL.out, ?_, ?_, ?_, ?_, ?_, ?_⟩
          · have hg2 : g ≠ w2.heap.size := by omega
            have hP2 : ∀ k, (w.heap.size + 1 ≤ k ∧ k < N) → k ≠ w2.heap.size := fun k hk e => by omega
            exact (HM4.out.far hg2 hP2 _ _).far hg2 hP2 _ _
          · exact Kd.R_far (Kd.R_far HR4.out (fun k hk => hk.2) _) (fun k hk => hk.2) _
          · exact blk_put (cs := #[.int .i64 first, .slice Ar nr cr]) (blk_put (cs := #[.int .i64 first, .slice Ar nr cr]) HK8.out 0 _ rfl) 1 _ rfl
          · exact blk_far (blk_far HK0.out (by simp; omega) _) (by simp; omega) _
          · exact below_set (below_set HB4.out (by omega)) (by omega)
          · have := blk_lt HK8.out
            simpa [World.setCell] using this
        case measure => simp [intOf]; omega
      · have d1 : decide ((k : Int) < (n : Int)) = true := decide_eq_true (by omega)
        have d2 : decide ((k : Int) < 60) = false := decide_eq_false (by omega)
        go_wp2_with fail
        have x4 : wr.drew.cell? ⟨w2.heap.size, 0, none⟩ = some (.int .i64 first) := x0
        have x5 : wr.drew.cell? ⟨w2.heap.size, 1, none⟩ = some (.slice Ar nr cr) := x1
        have u0 : wr.cell? ⟨w.heap.size, 0, none⟩ = some (.int .i64 0) := blk_cell HX0.out 0
        have u1 : wr.cell? ⟨w.heap.size, 1, none⟩ = some (.slice none 0 0) := blk_cell HX0.out 1
        have u2 : wr.drew.cell? ⟨w.heap.size, 0, none⟩ = some (.int .i64 0) := u0
        have u3 : wr.drew.cell? ⟨w.heap.size, 1, none⟩ = some (.slice none 0 0) := u1
        have f0 := blk_frozen HX0.out 0
        have f1 := blk_frozen HX0.out 1
        have f2 : wr.drew.frozen? ⟨w.heap.size, 0, none⟩ = false := f0
        have f3 : wr.drew.frozen? ⟨w.heap.size, 1, none⟩ = false := f1
        go_region
        go_wp2
        have h3 := HN.out
        have h4 := HLT.out
        refine bodyPost_ret (results_list (rs := [.tmp 6, .cell 7 63, .tmp 8]) rfl (by simp) (.tmp (.cell w.heap.size 63 #[.int .i64 first, .slice Ar nr cr] (0, 0) _ rfl (blk_put (cs := #[.int .i64 first, .slice none 0 0]) (blk_put (cs := #[.int .i64 0, .slice none 0 0]) HX0.out 0 _ rfl) 1 _ rfl) Try.underlying63 rfl (by kernel_rfl) (.tmp .nil)))) rfl ?_
        rw [HFST.out]
        refine ⟨g, _, N, st, rfl, HWF.out, HSL.out, ?_, ?_, ?_, hg, below_drew (below_set (below_set HB.out (Nat.le_refl _)) (Nat.le_refl _))⟩
        · refine Mp.mono (P := fun k => w.heap.size + 1 ≤ k ∧ k < N) ?_ (fun k hk => ⟨by omega, hk.2⟩)
          have hg2 : g ≠ w.heap.size := by have := HGB.out; omega
          have hP2 : ∀ k, (w.heap.size + 1 ≤ k ∧ k < N) → k ≠ w.heap.size := fun k hk e => by omega
          exact (HM.out.far hg2 hP2 0 _).far hg2 hP2 1 _
        · exact Kd.R_mono (Kd.R_far (Kd.R_far HR.out (fun k hk e => by have : k = w.heap.size := e; omega) _) (fun k hk e => by have : k = w.heap.size := e; omega) _) (fun k hk => hk.1)
        · simp [World.setCell]
          omega
    · have d1 : decide ((k : Int) < (n : Int)) = false := decide_eq_false (by omega)
      go_wp2_with fail
      have x4 : wr.drew.cell? ⟨w2.heap.size, 0, none⟩ = some (.int .i64 first) := x0
      have x5 : wr.drew.cell? ⟨w2.heap.size, 1, none⟩ = some (.slice Ar nr cr) := x1
      have u0 : wr.cell? ⟨w.heap.size, 0, none⟩ = some (.int .i64 0) := blk_cell HX0.out 0
      have u1 : wr.cell? ⟨w.heap.size, 1, none⟩ = some (.slice none 0 0) := blk_cell HX0.out 1
      have u2 : wr.drew.cell? ⟨w.heap.size, 0, none⟩ = some (.int .i64 0) := u0
      have u3 : wr.drew.cell? ⟨w.heap.size, 1, none⟩ = some (.slice none 0 0) := u1
      have f0 := blk_frozen HX0.out 0
      have f1 := blk_frozen HX0.out 1
      have f2 : wr.drew.frozen? ⟨w.heap.size, 0, none⟩ = false := f0
      have f3 : wr.drew.frozen? ⟨w.heap.size, 1, none⟩ = false := f1
      go_region
      go_wp2
      have h3 := HN.out
      have h4 := HLT.out
      refine bodyPost_ret (results_list (rs := [.tmp 6, .cell 7 63, .tmp 8]) rfl (by simp) (.tmp (.cell w.heap.size 63 #[.int .i64 first, .slice Ar nr cr] (0, 0) _ rfl (blk_put (cs := #[.int .i64 first, .slice none 0 0]) (blk_put (cs := #[.int .i64 0, .slice none 0 0]) HX0.out 0 _ rfl) 1 _ rfl) Try.underlying63 rfl (by kernel_rfl) (.tmp .nil)))) rfl ?_
      rw [HFST.out]
      refine ⟨g, _, N, st, rfl, HWF.out, HSL.out, ?_, ?_, ?_, hg, below_drew (below_set (below_set HB.out (Nat.le_refl _)) (Nat.le_refl _))⟩
      · refine Mp.mono (P := fun k => w.heap.size + 1 ≤ k ∧ k < N) ?_ (fun k hk => ⟨by omega, hk.2⟩)
        have hg2 : g ≠ w.heap.size := by have := HGB.out; omega
        have hP2 : ∀ k, (w.heap.size + 1 ≤ k ∧ k < N) → k ≠ w.heap.size := fun k hk e => by omega
        exact (HM.out.far hg2 hP2 0 _).far hg2 hP2 1 _
      · exact Kd.R_mono (Kd.R_far (Kd.R_far HR.out (fun k hk e => by have : k = w.heap.size := e; omega) _) (fun k hk e => by have : k = w.heap.size := e; omega) _) (fun k hk => hk.1)
      · simp [World.setCell]
        omega
end Go.Proofs.Ytbddllklagiajaa
