/- The walk of BlocksClones. -/
import Derived.Test.YtbddllklagiajaaX18
namespace Go.Proofs.Ytbddllklagiajaa
open PBlocksEncodes
open Go.RowKit Go.Proofs.YtbddllklagiajaaW.PrintWords Go.Proofs.YtbddllklagiajaaW.PrintLast Go.Proofs.YtbddllklagiajaaW.PrintMore
set_option linter.unusedVariables false
set_option linter.unusedSimpArgs false

theorem same_quiet (k : Nat) (A0 : Option Addr) (c0 : Nat) (l0 : List Int) (A1 : Option Addr) (c1 : Nat) (l1 : List Int) (r : Bool) (w : World) (hr0 : KI.C w A0 l0.length l0) (hc0 : l0.length ≤ c0) (hr1 : KI.C w A1 l1.length l1) (hc1 : l1.length ≤ c1) (h : replevinref12_Same.f k l0 l1 = some r) :
    Calls Try.prog 55 #[.slice A0 l0.length c0, .slice A1 l1.length c1] w fun e w' => e = .returned (.bool r) ∧ ∃ m, w' = w.drewN m :=
  (replevinref12_Same.calls k A0 c0 l0 A1 c1 l1 r w hr0 hc0 hr1 hc1 h).mono (by rintro e w' ⟨rfl, ⟨m, rfl⟩⟩; exact ⟨rfl, m, rfl⟩)

set_option maxRecDepth 100000 in
set_option maxHeartbeats 8000000 in
theorem blocksClones_walk (a p0 p1 : Int) (A0 : Option Addr) (n0 c0 : Nat) (l0 : List OpV) (A1 : Option Addr) (n1 c1 : Nat) (l1 : List OpV) (w : World) (ha : 0 ≤ a ∧ a ≤ 65535) (hp0 : 0 ≤ p0 ∧ p0 ≤ 255) (hp1 : 0 ≤ p1 ∧ p1 ≤ 255)
    (hl0 : OpsIn w A0 n0 l0) (hn0 : n0 ≤ 9223372036854775807) (hl1 : OpsIn w A1 n1 l1) (hn1 : n1 ≤ 9223372036854775807) :
    Calls Try.prog 15 #[.int .u16 a, .agg #[.int .u8 p0, .int .u8 p1], .agg #[.slice A0 n0 c0, .slice A1 n1 c1]] w fun e w' => e = .returned (.bool true) ∧ Below w.heap.size w w' := by
  have HL0 := Aside0.mk hl0
  have HL1 := Aside0.mk hl1
  clear hl0 hl1
  go_enter Try.func15, Try.ntmps15
  go_wp2_with fail
  obtain ⟨W0, hW0⟩ : ∃ W0, (w.alloc (.cells #[.int .u8 p0, .int .u8 p1] 89)).alloc (.cells #[.slice A0 n0 c0, .slice A1 n1 c1] 90) = W0 := ⟨_, rfl⟩
  have q0 : W0.heap[w.heap.size]? = some (.cells #[.int .u8 p0, .int .u8 p1] 89 (0, 0)) := by rw [← hW0]; exact blk_alloc (blk_new w _) _
  have q1 : W0.heap[w.heap.size + 1]? = some (.cells #[.slice A0 n0 c0, .slice A1 n1 c1] 90 (0, 0)) := by
    rw [← hW0]
    have := blk_new (w.alloc (.cells #[.int .u8 p0, .int .u8 p1] 89)) (.cells #[.slice A0 n0 c0, .slice A1 n1 c1] 90)
    rw [World.size_alloc] at this
    exact this
  have hB0 : Below w.heap.size w W0 := by rw [← hW0]; exact below_alloc (below_alloc (Below.refl _ w) _) _
  have hs0 : W0.heap.size = w.heap.size + 2 := by rw [← hW0]; simp
  rw [hW0]
  have HQ0 := Aside0.mk q0
  have HQ1 := Aside0.mk q1
  have HB0 := Aside0.mk hB0
  have HS0 := Aside0.mk hs0
  clear hW0 q0 q1 hB0 hs0
  refine (known12_calls W0).mono ?_
  rintro e w1 ⟨rfl, B1⟩
  have HB1 := Aside0.mk (HB0.out.trans (B1.mono HB0.out.size))
  have HQ0a := Aside0.mk ((B1.block _ (blk_lt HQ0.out)).trans HQ0.out)
  have HQ1a := Aside0.mk ((B1.block _ (blk_lt HQ1.out)).trans HQ1.out)
  have HS1 := Aside0.mk (show w.heap.size + 2 ≤ w1.heap.size by have := HS0.out; have := B1.size; omega)
  have x0 : w1.cell? ⟨w.heap.size, 0, none⟩ = some (.int .u8 p0) := blk_cell HQ0a.out 0
  have x1 : w1.cell? ⟨w.heap.size + 1, 0, none⟩ = some (.slice A0 n0 c0) := blk_cell HQ1a.out 0
  clear B1 HB0 HQ0 HQ1 HS0
  go_wp2_with fail
  refine (play_calls a p0 A0 n0 c0 l0 w1 ha hp0 (HL0.out.below HB1.out) hn0).mono ?_
  rintro e w2 ⟨g, v, N, st1, rfl, hwf1, hsl1, M2, R2, hN, hg, B2⟩
  obtain ⟨A2, n2, c2, rfl⟩ := R_form' R2
  obtain ⟨first, hfst⟩ : ∃ f, a % 1000 = f := ⟨_, rfl⟩
  rw [hfst] at M2 hwf1 ⊢
  have B3 := below_alloc B2 (.cells #[.int .i64 first, .slice A2 n2 c2] 63)
  have b8 := blk_new w2 (.cells #[.int .i64 first, .slice A2 n2 c2] 63)
  obtain ⟨w3, hw3⟩ : ∃ w3, w2.alloc (.cells #[.int .i64 first, .slice A2 n2 c2] 63) = w3 := ⟨_, rfl⟩
  have M3 := M2.fresh (below_alloc (Below.refl w2.heap.size w2) (.cells #[.int .i64 first, .slice A2 n2 c2] 63))
  have R3 : KI.R 3 (w2.alloc (.cells #[.int .i64 first, .slice A2 n2 c2] 63)) w1.heap.size (fun k => N ≤ k ∧ k < w2.heap.size) (.slice A2 n2 c2) st1 := Kd.R_alloc (Kd.R_mono (Kd.R_bound R2) (fun k hk => ⟨hk.1, hk.2.2.1⟩)) _
  have hs3 : w2.heap.size + 1 = w3.heap.size := by rw [← hw3]; simp
  rw [hw3] at B3 b8 M3 R3
  have HM3 := Aside0.mk M3
  have HR3 := Aside0.mk R3
  have HX3 := Aside0.mk b8
  have HB3 := Aside0.mk (HB1.out.trans (B3.mono HB1.out.size))
  have HQ0b := Aside0.mk ((B3.block _ (blk_lt HQ0a.out)).trans HQ0a.out)
  have HQ1b := Aside0.mk ((B3.block _ (blk_lt HQ1a.out)).trans HQ1a.out)
  have HWF1 := Aside0.mk hwf1
  have HZ1 := Aside0.mk (show (g < N ∧ N ≤ w2.heap.size ∧ w2.heap.size + 1 = w3.heap.size) ∧ w.heap.size + 2 ≤ w1.heap.size ∧ w1.heap.size ≤ w2.heap.size from ⟨⟨hg, hN, hs3⟩, HS1.out, B2.size⟩)
  have HW3 := Aside0.mk hw3
  have hcl1 : st1.length ≤ 65536 := hwf1.2.2.2.1
  have x2 : w3.cell? ⟨w.heap.size, 1, none⟩ = some (.int .u8 p1) := blk_cell HQ0b.out 1
  have x3 : w3.cell? ⟨w.heap.size + 1, 1, none⟩ = some (.slice A1 n1 c1) := blk_cell HQ1b.out 1
  have x2' : (w2.alloc (.cells #[.int .i64 first, .slice A2 n2 c2] 63)).cell? ⟨w.heap.size, 1, none⟩ = some (.int .u8 p1) := by rw [hw3]; exact x2
  have x3' : (w2.alloc (.cells #[.int .i64 first, .slice A2 n2 c2] 63)).cell? ⟨w.heap.size + 1, 1, none⟩ = some (.slice A1 n1 c1) := by rw [hw3]; exact x3
  clear hsl1 M2 R2 B2 B3 b8 M3 R3 hw3 hwf1 hN hg hs3 x0 x1 HB1 HQ0a HQ1a HS1 HL0
  go_wp2_with fail
  rw [HW3.out]
  refine (play_calls a p1 A1 n1 c1 l1 w3 ha hp1 (HL1.out.below HB3.out) hn1).mono ?_
  rintro e w4 ⟨g2, v2, N2, st2, rfl, hwf2, hsl2, M4, R4, hN2, hg2, B4⟩
  rw [hfst] at M4 hwf2 ⊢
  obtain ⟨A4, n4, c4, rfl⟩ := R_form' R4
  have b11 := blk_new w4 (.cells #[.int .i64 first, .slice A4 n4 c4] 63)
  have B5 := below_alloc B4 (.cells #[.int .i64 first, .slice A4 n4 c4] 63)
  have M5 := M4.fresh (below_alloc (Below.refl w4.heap.size w4) (.cells #[.int .i64 first, .slice A4 n4 c4] 63))
  have R5 := Kd.R_alloc R4 (.cells #[.int .i64 first, .slice A4 n4 c4] 63)
  obtain ⟨w5, hw5⟩ : ∃ w5, w4.alloc (.cells #[.int .i64 first, .slice A4 n4 c4] 63) = w5 := ⟨_, rfl⟩
  rw [hw5] at b11 B5 M5 R5
  have hlt5 : w4.heap.size < w5.heap.size := blk_lt b11
  have HM5 := Aside0.mk (HM3.out.fresh B5)
  have HR5 := Aside0.mk (Kd.R_below HR3.out B5)
  have HX5 := Aside0.mk ((B5.block _ (blk_lt HX3.out)).trans HX3.out)
  have HQ1c := Aside0.mk ((B5.block _ (blk_lt HQ1b.out)).trans HQ1b.out)
  have HB5 := Aside0.mk (HB3.out.trans (B5.mono HB3.out.size))
  have HZ5 := Aside0.mk (show w3.heap.size ≤ w5.heap.size from B5.size)
  have y0 : ∀ q, (w5.drewN q).cell? ⟨w2.heap.size, 1, none⟩ = some (.slice A2 n2 c2) := fun q => blk_cell HX5.out 1
  have y1 : ∀ q, (w5.drewN q).cell? ⟨w4.heap.size, 1, none⟩ = some (.slice A4 n4 c4) := fun q => blk_cell b11 1
  have e1 := (Kd.R_reads' HR5.out).1
  have e2 := (Kd.R_reads' R5).1
  subst e1 e2
  have HEQ := Aside0.mk (fun q => equal_calls w1.heap.size g w3.heap.size g2 _ _ first st1 st2 (w5.drewN q) (HM5.out.frm ((Frm.refl w5 (fun _ => False)).drewN q) (fun h => h) (fun _ _ h => h)) (M5.frm ((Frm.refl w5 (fun _ => False)).drewN q) (fun h => h) (fun _ _ h => h)) hcl1)
  have HSQ := Aside0.mk (fun q => same_quiet (st1.length + 1) A2 c2 st1 A4 c4 st2 _ (w5.drewN q) (Kd.R_reads' (Kd.R_drewN HR5.out q)).2.2 (Kd.R_reads' HR5.out).2.1 (Kd.R_reads' (Kd.R_drewN R5 q)).2.2 (Kd.R_reads' R5).2.1 (same_f st1 st2 (by omega) _ (by omega)))
  have HW5 := Aside0.mk hw5
  obtain ⟨bq, hbq⟩ : ∃ b, decide (st1 = st2) = b := ⟨_, rfl⟩
  rw [hbq] at HEQ HSQ
  have HCL := Aside0.mk (fun q => clone_calls w1.heap.size g _ first st1 (w5.drewN q) (HM5.out.frm ((Frm.refl w5 (fun _ => False)).drewN q) (fun h => h) (fun _ _ h => h)) HWF1.out)
  clear hsl2 hfst b11 B4 B5 M4 R4 M5 R5 hwf2 hN2 hg2 x2 x3 x2' x3' HM3 HR3 HX3 HQ0b HQ1b HB3 hw5 hlt5 hbq
  go_wp2_with fail
  rw [HW5.out]
  go_quiet (first | (go_at_call 59; exact Calls.quiet_of (HEQ.out _)) | (go_at_call 55; exact Calls.quiet_of (HSQ.out _)))
  clear y0 y1 HEQ HSQ
  go_wp2_with fail
  refine (HCL.out _).mono ?_
  rintro e w6 ⟨gc, rfl, C6, hgc, B6⟩
  have B6' : Below w5.heap.size w5 w6 := (pw_below_drewN (Below.refl _ w5) _).trans B6
  have C6' : Mp w5.heap.size w6 gc (fun k => w5.heap.size ≤ k) first st1 := C6
  have hgc' : w5.heap.size ≤ gc := hgc
  have HC6 := Aside0.mk (C6'.tight.mono (P' := fun k => w5.heap.size ≤ k ∧ k < w6.heap.size) (fun k hk => ⟨hk.1, hk.2.2.2⟩))
  have HM6 := Aside0.mk (HM5.out.fresh B6')
  have HR6 := Aside0.mk (Kd.R_below HR5.out B6')
  have HX6 := Aside0.mk ((B6'.block _ (blk_lt HX5.out)).trans HX5.out)
  have HQ6 := Aside0.mk ((B6'.block _ (blk_lt HQ1c.out)).trans HQ1c.out)
  have HB6 := Aside0.mk (HB5.out.trans (B6'.mono HB5.out.size))
  have HZ6 := Aside0.mk (show (w5.heap.size ≤ w6.heap.size ∧ w5.heap.size ≤ gc ∧ gc < w6.heap.size) from ⟨B6'.size, hgc', C6'.lt⟩)
  have HL1w := Aside0.mk (fun W (hW : Below w.heap.size w W) => HL1.out.below hW)
  clear B6 B6' C6 C6' hgc hgc' HM5 HR5 HX5 HQ1c HB5 HCL HL1
  go_wp2_with fail
  refine (equal_calls w5.heap.size gc w1.heap.size g _ _ first st1 st1 w6 HC6.out HM6.out hcl1).mono ?_
  rintro e w7 ⟨rfl, m, rfl⟩
  have z0 : (w6.drewN m).cell? ⟨w2.heap.size, 0, none⟩ = some (.int .i64 first) := blk_cell HX6.out 0
  have z1 : (w6.drewN m).cell? ⟨w2.heap.size, 1, none⟩ = some (.slice A2 st1.length c2) := blk_cell HX6.out 1
  have hzb := blk_new (w6.drewN m) (.cells #[.int .i64 0, .slice none 0 0] 63)
  have z2 : ((w6.drewN m).alloc (.cells #[.int .i64 0, .slice none 0 0] 63)).cell? ⟨w6.heap.size, 0, none⟩ = some (.int .i64 0) := blk_cell hzb 0
  have z3 : ((w6.drewN m).alloc (.cells #[.int .i64 0, .slice none 0 0] 63)).cell? ⟨w6.heap.size, 1, none⟩ = some (.slice none 0 0) := blk_cell hzb 1
  have z4 : ((w6.drewN m).alloc (.cells #[.int .i64 0, .slice none 0 0] 63)).frozen? ⟨w6.heap.size, 0, none⟩ = false := blk_frozen hzb 0
  have z5 : ((w6.drewN m).alloc (.cells #[.int .i64 0, .slice none 0 0] 63)).frozen? ⟨w6.heap.size, 1, none⟩ = false := blk_frozen hzb 1
  go_wp2_with fail
  clear z0 z1 z2 z3 z4 z5
  obtain ⟨w8, hw8⟩ : ∃ w8, (((w6.drewN m).alloc (.cells #[.int .i64 0, .slice none 0 0] 63)).setCell ⟨w6.heap.size, 0, none⟩ (.int .i64 first)).setCell ⟨w6.heap.size, 1, none⟩ (.slice A2 st1.length c2) = w8 := ⟨_, rfl⟩
  have B8 : Below w6.heap.size w6 w8 := by rw [← hw8]; exact below_set (below_set (below_alloc (pw_below_drewN (Below.refl _ w6) m) _) (Nat.le_refl _)) (Nat.le_refl _)
  have b14 : w8.heap[w6.heap.size]? = some (.cells #[.int .i64 first, .slice A2 st1.length c2] 63 (0, 0)) := by rw [← hw8]; exact blk_put (cs := #[.int .i64 first, .slice none 0 0]) (blk_put (cs := #[.int .i64 0, .slice none 0 0]) hzb 0 _ rfl) 1 _ rfl
  rw [hw8]
  have HC8 := Aside0.mk (HC6.out.fresh B8)
  have HM8 := Aside0.mk (HM6.out.fresh B8)
  have HR8 := Aside0.mk (Kd.R_below HR6.out B8)
  have HX8 := Aside0.mk ((B8.block _ (blk_lt HX6.out)).trans HX6.out)
  have HQ8 := Aside0.mk ((B8.block _ (blk_lt HQ6.out)).trans HQ6.out)
  have HB8 := Aside0.mk (HB6.out.trans (B8.mono HB6.out.size))
  have HX14 := Aside0.mk b14
  clear hzb hw8 B8 b14 HC6 HM6 HR6 HX6 HQ6 HB6
  go_loopw [15] (fun i wr => ∃ (k : Nat) (st : List Int) (Ar : Option Addr) (nr cr : Nat), k ≤ n1 ∧ k ≤ 60 ∧ i = .int .i64 k ∧ WfM first st ∧ Mp w5.heap.size wr gc (fun k => w5.heap.size ≤ k ∧ k < w6.heap.size) first st ∧
      KI.R 3 wr w1.heap.size (fun k => (k < w5.heap.size ∨ w6.heap.size < k)) (.slice Ar nr cr) st ∧ wr.heap[w6.heap.size]? = some (.cells #[.int .i64 first, .slice Ar nr cr] 63 (0, 0)) ∧
      Mp w1.heap.size wr g (fun k => w1.heap.size ≤ k ∧ k < N) first st1 ∧ KI.R 3 wr w1.heap.size (fun k => N ≤ k ∧ k < w2.heap.size) (.slice A2 st1.length c2) st1 ∧ wr.heap[w2.heap.size]? = some (.cells #[.int .i64 first, .slice A2 st1.length c2] 63 (0, 0)) ∧
      wr.heap[w.heap.size + 1]? = some (.cells #[.slice A0 n0 c0, .slice A1 n1 c1] 90 (0, 0)) ∧ Below w.heap.size w wr) (fun i _ => 60 - (intOf i).toNat)
  case atStart =>
    have hz := HZ1.out
    have hz5 := HZ5.out
    exact ⟨0, st1, A2, st1.length, c2, Nat.zero_le _, Nat.zero_le _, rfl, HWF1.out, HC8.out, Kd.R_mono HR8.out (fun k hk => .inl (by omega)), HX14.out, HM8.out, HR8.out, HX8.out, HQ8.out, HB8.out⟩
  case round =>
    clear HC8 HM8 HR8 HX8 HQ8 HB8 HX14
    obtain ⟨k, st, Ar, nr, cr, hk, hk6, rfl, hwf, hC, hR, hX14, hM, hRw, hX, hQ, hB⟩ := hrel
    have x0 : wr.cell? ⟨w.heap.size + 1, 1, none⟩ = some (.slice A1 n1 c1) := blk_cell hQ 1
    have HWF := Aside0.mk hwf
    have HC := Aside0.mk hC
    have HR := Aside0.mk hR
    have HX14 := Aside0.mk hX14
    have HM := Aside0.mk hM
    have HRw := Aside0.mk hRw
    have HX := Aside0.mk hX
    have HQ := Aside0.mk hQ
    have HB := Aside0.mk hB
    clear hwf hC hR hX14 hM hRw hX hQ hB
    by_cases h1 : k < n1
    · by_cases h2 : k < 60
      · have d1 : decide ((k : Int) < (n1 : Int)) = true := decide_eq_true (by omega)
        have d2 : decide ((k : Int) < 60) = true := decide_eq_true (by omega)
        have hl1 := HL1w.out wr HB.out
        have hop := hl1.okAt k h1
        obtain ⟨ad, e, hcell⟩ := hl1.cells (by omega)
        subst e
        obtain ⟨o, ho⟩ : ∃ o, l1.getD k zOp = o := ⟨_, rfl⟩
        obtain ⟨y0, y1⟩ := hcell k h1
        rw [ho] at y0 y1 hop
        have z0 : wr.drew.cell? (ad.add (k * 2)) = some (.int .u8 o.kind) := y0
        have z1 : wr.drew.cell? ⟨(ad.add (k * 2)).block, (ad.add (k * 2)).off + 1, none⟩ = some (.int .i64 o.block) := y1
        have z2 : wr.drew.cell? ⟨w.heap.size + 1, 1, none⟩ = some (.slice (some ad) n1 c1) := x0
        have z3 : wr.drew.cell? ⟨w6.heap.size, 0, none⟩ = some (.int .i64 first) := blk_cell HX14.out 0
        have z4 : wr.drew.cell? ⟨w6.heap.size, 1, none⟩ = some (.slice Ar nr cr) := blk_cell HX14.out 1
        have hz := HZ1.out
        have hz5 := HZ5.out
        have hz6 := HZ6.out
        have hsw : w6.heap.size < wr.heap.size := blk_lt HX14.out
        have HDO := Aside0.mk (do_calls w5.heap.size gc w1.heap.size _ _ first st Ar nr cr o.kind o.block wr.drew (HC.out.frm (Frm.refl wr (fun _ => False)).drew (fun h => h) (fun _ _ h => h)) HWF.out (Kd.R_drew HR.out) (by show w1.heap.size ≤ wr.heap.size; omega) (fun k hk => (show k < wr.heap.size by omega)) (fun k hk hp => by omega) hop.1 hop.2.2)
        clear hl1 hcell ho y0 y1 hop
        go_wp2_with fail
        go_region_with (go_at_call 41; refine HDO.out.mono ?_; rintro e w9 ⟨v9, rfl, C9, R9, F9⟩; obtain ⟨A9, n9, c9, rfl⟩ := R_form' R9; have kz := F9.blk (blk_drew HX14.out) (fun hp => Nat.lt_irrefl _ hp.2); have t0 : w9.cell? ⟨w6.heap.size, 0, none⟩ = some (.int .i64 first) := blk_cell kz 0; have t1 : w9.cell? ⟨w6.heap.size, 1, none⟩ = some (.slice Ar nr cr) := blk_cell kz 1; have t2 := blk_frozen kz 0; have t3 := blk_frozen kz 1)
        all_goals
          have HC9 := Aside0.mk C9
          have HR9 := Aside0.mk R9
          have HF9 := Aside0.mk F9
          have HK9 := Aside0.mk kz
          clear C9 R9 F9 kz z0 z1 z2 z3 z4 x0 HDO t0 t1 t2 t3
          go_wp2
          go_roundw
          case rel =>
            have hnp : ∀ j, (j < w5.heap.size ∨ w6.heap.size ≤ j) → ¬ (w5.heap.size ≤ j ∧ j < w6.heap.size) := fun j h1 h2 => by omega
            have hSB : ∀ k, k = w6.heap.size → True := fun _ _ => trivial
            have hg9 : g < w5.heap.size := by omega
            refine ⟨k + 1, doM first st o.kind o.block, A9, n9, c9, by omega, by omega, by go_num, HWF.out.doM _ _, ?_, ?_, ?_, ?_, ?_, ?_, ?_, ?_⟩
            · exact (HC9.out.far (b := w6.heap.size) (by omega) (fun j hj => by omega) _ _).far (b := w6.heap.size) (by omega) (fun j hj => by omega) _ _
            · have R10 := Kd.R_mono (ok' := fun k => (k < w5.heap.size ∨ w6.heap.size < k)) HR9.out (fun j hj => hj.elim id (fun h => by have h' : wr.heap.size ≤ j := h; exact .inr (by omega)))
              exact Kd.R_far (Kd.R_far R10 (fun j hj e => by have : j = w6.heap.size := e; omega) _) (fun j hj e => by have : j = w6.heap.size := e; omega) _
            · exact blk_put (cs := #[.int .i64 first, .slice Ar nr cr]) (blk_put (cs := #[.int .i64 first, .slice Ar nr cr]) HK9.out 0 _ rfl) 1 _ rfl
            · have hM9 := HM.out.frm ((Frm.refl wr (fun _ => False)).drew) (fun h => h) (fun _ _ h => h)
              have hM10 := hM9.frm HF9.out (hnp _ (.inl (by omega))) (fun j hj => hnp _ (.inl (by omega)))
              exact (hM10.far (b := w6.heap.size) (by omega) (fun j hj => by omega) _ _).far (b := w6.heap.size) (by omega) (fun j hj => by omega) _ _
            · have hR10 := Kd.R_kept (Kd.R_drew HRw.out) HF9.out.kept (fun j hj => hnp _ (.inl (by omega)))
              exact Kd.R_far (Kd.R_far hR10 (fun j hj e => by have : j = w6.heap.size := e; omega) _) (fun j hj e => by have : j = w6.heap.size := e; omega) _
            · exact blk_far (blk_far (HF9.out.blk (blk_drew HX.out) (hnp _ (.inl (by omega)))) (by simp; omega) _) (by simp; omega) _
            · exact blk_far (blk_far (HF9.out.blk (blk_drew HQ.out) (hnp _ (.inl (by omega)))) (by simp; omega) _) (by simp; omega) _
            · have hB10 := (HB.out.drew).trans (HF9.out.below (B := w.heap.size) (fun j hj => by omega) (show w.heap.size ≤ wr.heap.size from HB.out.size))
              exact below_set (below_set hB10 (by omega)) (by omega)
          case measure => simp [intOf]; omega
      · have d1 : decide ((k : Int) < (n1 : Int)) = true := decide_eq_true (by omega)
        have d2 : decide ((k : Int) < 60) = false := decide_eq_false (by omega)
        clear x0
        have e1 := (Kd.R_reads' HR.out).1
        subst e1
        have hcr := (Kd.R_reads' HR.out).2.1
        have hcw := (Kd.R_reads' HRw.out).2.1
        have hls := HWF.out.2.2.2.1
        have HSA := Aside0.mk (same_calls w1.heap.size g w1.heap.size _ _ first st1 A2 st1.length c2 wr.drew (HM.out.frm (Frm.refl wr (fun _ => False)).drew (fun h => h) (fun _ _ h => h)) HWF1.out (Kd.R_drew HRw.out))
        have HSB := Aside0.mk (fun W (hW : Below wr.heap.size wr W) => same_calls w5.heap.size gc w1.heap.size _ _ first st Ar st.length cr W (HC.out.fresh hW) HWF.out (Kd.R_below HR.out hW))
        have HEQ := Aside0.mk (fun W (hW : Below wr.heap.size wr W) => equal_calls w5.heap.size gc w1.heap.size g _ _ first st st1 W (HC.out.fresh hW) (HM.out.fresh hW) hls)
        have HSQ := Aside0.mk (fun W (hW : Below wr.heap.size wr W) => same_quiet (st.length + 1) Ar cr st A2 c2 st1 _ W (Kd.R_reads' (Kd.R_below HR.out hW)).2.2 hcr (Kd.R_reads' (Kd.R_below HRw.out hW)).2.2 hcw (same_f st st1 (by omega) _ (by omega)))
        have HXa := Aside0.mk (fun W (hW : Below wr.heap.size wr W) => (hW.block _ (blk_lt HX14.out)).trans HX14.out)
        have HXb := Aside0.mk (fun W (hW : Below wr.heap.size wr W) => (hW.block _ (blk_lt HX.out)).trans HX.out)
        obtain ⟨bq, hbq⟩ : ∃ b, decide (st = st1) = b := ⟨_, rfl⟩
        rw [hbq] at HEQ HSQ
        have z0 : wr.drew.cell? ⟨w2.heap.size, 0, none⟩ = some (.int .i64 first) := blk_cell HX.out 0
        have z1 : wr.drew.cell? ⟨w2.heap.size, 1, none⟩ = some (.slice A2 st1.length c2) := blk_cell HX.out 1
        clear hbq
        have x0 : wr.cell? ⟨w.heap.size + 1, 1, none⟩ = some (.slice A1 n1 c1) := blk_cell HQ.out 1
        go_wp2_with fail
        refine wp_region_any (by kernel_rfl) ?_
        change wpAny _ _ _ _ _ _ _ (World.drew _)
        refine wpAny_take (i := 0) (v := .pointer (some ⟨g, 0, none⟩)) rfl (by kernel_rfl) (by kernel_rfl) (by kernel_rfl) (fun _ _ _ h => h) (Or.inl ⟨by kernel_rfl, ?_⟩) ?_
        · intro w; go_simp; try with_reducible rfl
        refine wpAny_ready (rs := [1]) (by kernel_rfl) (by simp) ?_
        refine AllReady.cons rfl (fun K hK => ?_) ?_
        · go_simp
          refine hK _ _ ?_; clear hK K
          refine wpAny_ready (rs := [2]) (by kernel_rfl) (by simp) ?_
          refine AllReady.cons rfl (fun K hK => ?_) ?_
          · go_simp
            with_reducible refine HSA.out.mono ?_
            rintro e wA ⟨rfl, BA⟩
            have HbA : Below wr.heap.size wr wA := (Below.refl wr.heap.size wr).drew.trans BA
            have a0 : wA.cell? ⟨w6.heap.size, 0, none⟩ = some (.int .i64 first) := blk_cell (HXa.out wA HbA) 0
            have a1 : wA.cell? ⟨w6.heap.size, 1, none⟩ = some (.slice Ar st.length cr) := blk_cell (HXa.out wA HbA) 1
            go_simp
            refine hK _ _ ?_; clear hK K
            refine wpAny_take (i := 3) (v := .bool true) rfl (by kernel_rfl) (by kernel_rfl) (by kernel_rfl) (fun _ _ _ h => h) (Or.inl ⟨by kernel_rfl, ?_⟩) ?_
            · intro w; go_simp; try with_reducible rfl
            refine wpAny_take (i := 4) (v := .pointer (some ⟨gc, 0, none⟩)) rfl (by kernel_rfl) (by kernel_rfl) (by kernel_rfl) (fun _ _ _ h => h) (Or.inl ⟨by kernel_rfl, ?_⟩) ?_
            · intro w; go_simp; try with_reducible rfl
            refine wpAny_ready (rs := [5]) (by kernel_rfl) (by simp) ?_
            refine AllReady.cons rfl (fun K hK => ?_) ?_
            · go_simp
              refine hK _ _ ?_; clear hK K
              refine wpAny_ready (rs := [6]) (by kernel_rfl) (by simp) ?_
              refine AllReady.cons rfl (fun K hK => ?_) ?_
              · go_simp
                with_reducible refine (HSB.out wA HbA).mono ?_
                rintro e wB ⟨rfl, BB⟩
                have HbB : Below wr.heap.size wr wB := HbA.trans (BB.mono HbA.size)
                have b0 : wB.cell? ⟨w6.heap.size, 1, none⟩ = some (.slice Ar st.length cr) := blk_cell (HXa.out wB HbB) 1
                have b1 : wB.cell? ⟨w2.heap.size, 1, none⟩ = some (.slice A2 st1.length c2) := blk_cell (HXb.out wB HbB) 1
                have b2 : ∀ q, (wB.drewN q).cell? ⟨w6.heap.size, 1, none⟩ = some (.slice Ar st.length cr) := fun q => b0
                have b3 : ∀ q, (wB.drewN q).cell? ⟨w2.heap.size, 1, none⟩ = some (.slice A2 st1.length c2) := fun q => b1
                go_simp
                refine hK _ _ ?_; clear hK K
                refine wpAny_take (i := 7) (v := .bool true) rfl (by kernel_rfl) (by kernel_rfl) (by kernel_rfl) (fun _ _ _ h => h) (Or.inl ⟨by kernel_rfl, ?_⟩) ?_
                · intro w; go_simp; try with_reducible rfl
                refine wpAny_take (i := 8) (v := .bool true) rfl (by kernel_rfl) (by kernel_rfl) (by kernel_rfl) (fun _ _ _ h => h) (Or.inl ⟨by kernel_rfl, ?_⟩) ?_
                · intro w; go_simp; try with_reducible rfl
                refine wpAny_take (i := 9) (v := .pointer (some ⟨gc, 0, none⟩)) rfl (by kernel_rfl) (by kernel_rfl) (by kernel_rfl) (fun _ _ _ h => h) (Or.inl ⟨by kernel_rfl, ?_⟩) ?_
                · intro w; go_simp; try with_reducible rfl
                refine wpAny_take (i := 10) (v := .pointer (some ⟨g, 0, none⟩)) rfl (by kernel_rfl) (by kernel_rfl) (by kernel_rfl) (fun _ _ _ h => h) (Or.inl ⟨by kernel_rfl, ?_⟩) ?_
                · intro w; go_simp; try with_reducible rfl
                refine wpAny_take (i := 12) (v := .pointer (some ⟨w6.heap.size, 1, none⟩)) rfl (by kernel_rfl) (by kernel_rfl) (by kernel_rfl) (fun _ _ _ h => h) (Or.inl ⟨by kernel_rfl, ?_⟩) ?_
                · intro w; go_simp; try with_reducible rfl
                refine wpAny_take (i := 14) (v := .pointer (some ⟨w2.heap.size, 1, none⟩)) rfl (by kernel_rfl) (by kernel_rfl) (by kernel_rfl) (fun _ _ _ h => h) (Or.inl ⟨by kernel_rfl, ?_⟩) ?_
                · intro w; go_simp; try with_reducible rfl
                refine wpAny_ready (rs := [11, 13, 15]) (by kernel_rfl) (by simp) ?_
                refine AllReady.cons rfl (fun K hK => ?_) ?_
                · go_simp
                  with_reducible refine (HEQ.out wB HbB).mono ?_
                  rintro e wE ⟨rfl, mE, rfl⟩
                  go_simp
                  refine hK _ _ ?_; clear hK K
                  refine wpAny_ready (rs := [13, 15]) (by kernel_rfl) (by simp) ?_
                  refine AllReady.cons rfl (fun K hK => ?_) ?_
                  · go_simp
                    refine hK _ _ ?_; clear hK K
                    refine wpAny_ready (rs := [15]) (by kernel_rfl) (by simp) ?_
                    refine AllReady.cons rfl (fun K hK => ?_) ?_
                    · go_simp
                      refine hK _ _ ?_; clear hK K
                      refine wpAny_ready (rs := [16]) (by kernel_rfl) (by simp) ?_
                      refine AllReady.cons rfl (fun K hK => ?_) ?_
                      · go_simp
                        with_reducible refine (HSQ.out _ (pw_below_drewN HbB mE)).mono ?_
                        rintro e wF ⟨rfl, mF, rfl⟩
                        go_simp
                        refine hK _ _ ?_; clear hK K
                        refine wpAny_take (i := 17) (v := .bool true) rfl (by kernel_rfl) (by kernel_rfl) (by kernel_rfl) (fun _ _ _ h => h) (Or.inl ⟨by kernel_rfl, ?_⟩) ?_
                        · intro w; go_simp; try with_reducible rfl
                        refine wpAny_take (i := 18) (v := .bool true) rfl (by kernel_rfl) (by kernel_rfl) (by kernel_rfl) (fun _ _ _ h => h) (Or.inl ⟨by kernel_rfl, ?_⟩) ?_
                        · intro w; go_simp; try with_reducible rfl
                        refine wpAny_ready (rs := [19]) (by kernel_rfl) (by simp) ?_
                        refine AllReady.cons rfl (fun K hK => ?_) ?_
                        · go_simp
                          refine hK _ _ ?_; clear hK K
                          refine wpAny_done (by kernel_rfl) ?_ _
                          go_simp
                          go_wp2
                          go_ret
                          exact ⟨rfl, pw_below_drewN (HB.out.trans (HbB.mono HB.out.size)) _⟩
                        exact AllReady.nil
                      exact AllReady.nil
                    exact AllReady.nil
                  refine AllReady.cons rfl (fun K hK => ?_) ?_
                  · go_simp
                    refine hK _ _ ?_; clear hK K
                    refine wpAny_ready (rs := [13]) (by kernel_rfl) (by simp) ?_
                    refine AllReady.cons rfl (fun K hK => ?_) ?_
                    · go_simp
                      refine hK _ _ ?_; clear hK K
                      refine wpAny_ready (rs := [16]) (by kernel_rfl) (by simp) ?_
                      refine AllReady.cons rfl (fun K hK => ?_) ?_
                      · go_simp
                        with_reducible refine (HSQ.out _ (pw_below_drewN HbB mE)).mono ?_
                        rintro e wF ⟨rfl, mF, rfl⟩
                        go_simp
                        refine hK _ _ ?_; clear hK K
                        refine wpAny_take (i := 17) (v := .bool true) rfl (by kernel_rfl) (by kernel_rfl) (by kernel_rfl) (fun _ _ _ h => h) (Or.inl ⟨by kernel_rfl, ?_⟩) ?_
                        · intro w; go_simp; try with_reducible rfl
                        refine wpAny_take (i := 18) (v := .bool true) rfl (by kernel_rfl) (by kernel_rfl) (by kernel_rfl) (fun _ _ _ h => h) (Or.inl ⟨by kernel_rfl, ?_⟩) ?_
                        · intro w; go_simp; try with_reducible rfl
                        refine wpAny_ready (rs := [19]) (by kernel_rfl) (by simp) ?_
                        refine AllReady.cons rfl (fun K hK => ?_) ?_
                        · go_simp
                          refine hK _ _ ?_; clear hK K
                          refine wpAny_done (by kernel_rfl) ?_ _
                          go_simp
                          go_wp2
                          go_ret
                          exact ⟨rfl, pw_below_drewN (HB.out.trans (HbB.mono HB.out.size)) _⟩
                        exact AllReady.nil
                      exact AllReady.nil
                    exact AllReady.nil
                  exact AllReady.nil
                refine AllReady.cons rfl (fun K hK => ?_) ?_
                · go_simp
                  refine hK _ _ ?_; clear hK K
                  refine wpAny_ready (rs := [11, 15]) (by kernel_rfl) (by simp) ?_
                  refine AllReady.cons rfl (fun K hK => ?_) ?_
                  · go_simp
                    with_reducible refine (HEQ.out wB HbB).mono ?_
                    rintro e wE ⟨rfl, mE, rfl⟩
                    go_simp
                    refine hK _ _ ?_; clear hK K
                    refine wpAny_ready (rs := [15]) (by kernel_rfl) (by simp) ?_
                    refine AllReady.cons rfl (fun K hK => ?_) ?_
                    · go_simp
                      refine hK _ _ ?_; clear hK K
                      refine wpAny_ready (rs := [16]) (by kernel_rfl) (by simp) ?_
                      refine AllReady.cons rfl (fun K hK => ?_) ?_
                      · go_simp
                        with_reducible refine (HSQ.out _ (pw_below_drewN HbB mE)).mono ?_
                        rintro e wF ⟨rfl, mF, rfl⟩
                        go_simp
                        refine hK _ _ ?_; clear hK K
                        refine wpAny_take (i := 17) (v := .bool true) rfl (by kernel_rfl) (by kernel_rfl) (by kernel_rfl) (fun _ _ _ h => h) (Or.inl ⟨by kernel_rfl, ?_⟩) ?_
                        · intro w; go_simp; try with_reducible rfl
                        refine wpAny_take (i := 18) (v := .bool true) rfl (by kernel_rfl) (by kernel_rfl) (by kernel_rfl) (fun _ _ _ h => h) (Or.inl ⟨by kernel_rfl, ?_⟩) ?_
                        · intro w; go_simp; try with_reducible rfl
                        refine wpAny_ready (rs := [19]) (by kernel_rfl) (by simp) ?_
                        refine AllReady.cons rfl (fun K hK => ?_) ?_
                        · go_simp
                          refine hK _ _ ?_; clear hK K
                          refine wpAny_done (by kernel_rfl) ?_ _
                          go_simp
                          go_wp2
                          go_ret
                          exact ⟨rfl, pw_below_drewN (HB.out.trans (HbB.mono HB.out.size)) _⟩
                        exact AllReady.nil
                      exact AllReady.nil
                    exact AllReady.nil
                  refine AllReady.cons rfl (fun K hK => ?_) ?_
                  · go_simp
                    refine hK _ _ ?_; clear hK K
                    refine wpAny_ready (rs := [11]) (by kernel_rfl) (by simp) ?_
                    refine AllReady.cons rfl (fun K hK => ?_) ?_
                    · go_simp
                      with_reducible refine (HEQ.out wB HbB).mono ?_
                      rintro e wE ⟨rfl, mE, rfl⟩
                      go_simp
                      refine hK _ _ ?_; clear hK K
                      refine wpAny_ready (rs := [16]) (by kernel_rfl) (by simp) ?_
                      refine AllReady.cons rfl (fun K hK => ?_) ?_
                      · go_simp
                        with_reducible refine (HSQ.out _ (pw_below_drewN HbB mE)).mono ?_
                        rintro e wF ⟨rfl, mF, rfl⟩
                        go_simp
                        refine hK _ _ ?_; clear hK K
                        refine wpAny_take (i := 17) (v := .bool true) rfl (by kernel_rfl) (by kernel_rfl) (by kernel_rfl) (fun _ _ _ h => h) (Or.inl ⟨by kernel_rfl, ?_⟩) ?_
                        · intro w; go_simp; try with_reducible rfl
                        refine wpAny_take (i := 18) (v := .bool true) rfl (by kernel_rfl) (by kernel_rfl) (by kernel_rfl) (fun _ _ _ h => h) (Or.inl ⟨by kernel_rfl, ?_⟩) ?_
                        · intro w; go_simp; try with_reducible rfl
                        refine wpAny_ready (rs := [19]) (by kernel_rfl) (by simp) ?_
                        refine AllReady.cons rfl (fun K hK => ?_) ?_
                        · go_simp
                          refine hK _ _ ?_; clear hK K
                          refine wpAny_done (by kernel_rfl) ?_ _
                          go_simp
                          go_wp2
                          go_ret
                          exact ⟨rfl, pw_below_drewN (HB.out.trans (HbB.mono HB.out.size)) _⟩
                        exact AllReady.nil
                      exact AllReady.nil
                    exact AllReady.nil
                  exact AllReady.nil
                refine AllReady.cons rfl (fun K hK => ?_) ?_
                · go_simp
                  refine hK _ _ ?_; clear hK K
                  refine wpAny_ready (rs := [11, 13]) (by kernel_rfl) (by simp) ?_
                  refine AllReady.cons rfl (fun K hK => ?_) ?_
                  · go_simp
                    with_reducible refine (HEQ.out wB HbB).mono ?_
                    rintro e wE ⟨rfl, mE, rfl⟩
                    go_simp
                    refine hK _ _ ?_; clear hK K
                    refine wpAny_ready (rs := [13]) (by kernel_rfl) (by simp) ?_
                    refine AllReady.cons rfl (fun K hK => ?_) ?_
                    · go_simp
                      refine hK _ _ ?_; clear hK K
                      refine wpAny_ready (rs := [16]) (by kernel_rfl) (by simp) ?_
                      refine AllReady.cons rfl (fun K hK => ?_) ?_
                      · go_simp
                        with_reducible refine (HSQ.out _ (pw_below_drewN HbB mE)).mono ?_
                        rintro e wF ⟨rfl, mF, rfl⟩
                        go_simp
                        refine hK _ _ ?_; clear hK K
                        refine wpAny_take (i := 17) (v := .bool true) rfl (by kernel_rfl) (by kernel_rfl) (by kernel_rfl) (fun _ _ _ h => h) (Or.inl ⟨by kernel_rfl, ?_⟩) ?_
                        · intro w; go_simp; try with_reducible rfl
                        refine wpAny_take (i := 18) (v := .bool true) rfl (by kernel_rfl) (by kernel_rfl) (by kernel_rfl) (fun _ _ _ h => h) (Or.inl ⟨by kernel_rfl, ?_⟩) ?_
                        · intro w; go_simp; try with_reducible rfl
                        refine wpAny_ready (rs := [19]) (by kernel_rfl) (by simp) ?_
                        refine AllReady.cons rfl (fun K hK => ?_) ?_
                        · go_simp
                          refine hK _ _ ?_; clear hK K
                          refine wpAny_done (by kernel_rfl) ?_ _
                          go_simp
                          go_wp2
                          go_ret
                          exact ⟨rfl, pw_below_drewN (HB.out.trans (HbB.mono HB.out.size)) _⟩
                        exact AllReady.nil
                      exact AllReady.nil
                    exact AllReady.nil
                  refine AllReady.cons rfl (fun K hK => ?_) ?_
                  · go_simp
                    refine hK _ _ ?_; clear hK K
                    refine wpAny_ready (rs := [11]) (by kernel_rfl) (by simp) ?_
                    refine AllReady.cons rfl (fun K hK => ?_) ?_
                    · go_simp
                      with_reducible refine (HEQ.out wB HbB).mono ?_
                      rintro e wE ⟨rfl, mE, rfl⟩
                      go_simp
                      refine hK _ _ ?_; clear hK K
                      refine wpAny_ready (rs := [16]) (by kernel_rfl) (by simp) ?_
                      refine AllReady.cons rfl (fun K hK => ?_) ?_
                      · go_simp
                        with_reducible refine (HSQ.out _ (pw_below_drewN HbB mE)).mono ?_
                        rintro e wF ⟨rfl, mF, rfl⟩
                        go_simp
                        refine hK _ _ ?_; clear hK K
                        refine wpAny_take (i := 17) (v := .bool true) rfl (by kernel_rfl) (by kernel_rfl) (by kernel_rfl) (fun _ _ _ h => h) (Or.inl ⟨by kernel_rfl, ?_⟩) ?_
                        · intro w; go_simp; try with_reducible rfl
                        refine wpAny_take (i := 18) (v := .bool true) rfl (by kernel_rfl) (by kernel_rfl) (by kernel_rfl) (fun _ _ _ h => h) (Or.inl ⟨by kernel_rfl, ?_⟩) ?_
                        · intro w; go_simp; try with_reducible rfl
                        refine wpAny_ready (rs := [19]) (by kernel_rfl) (by simp) ?_
                        refine AllReady.cons rfl (fun K hK => ?_) ?_
                        · go_simp
                          refine hK _ _ ?_; clear hK K
                          refine wpAny_done (by kernel_rfl) ?_ _
                          go_simp
                          go_wp2
                          go_ret
                          exact ⟨rfl, pw_below_drewN (HB.out.trans (HbB.mono HB.out.size)) _⟩
                        exact AllReady.nil
                      exact AllReady.nil
                    exact AllReady.nil
                  exact AllReady.nil
                exact AllReady.nil
              exact AllReady.nil
            exact AllReady.nil
          exact AllReady.nil
        exact AllReady.nil
    · have d1 : decide ((k : Int) < (n1 : Int)) = false := decide_eq_false (by omega)
      clear x0
      have e1 := (Kd.R_reads' HR.out).1
      subst e1
      have hcr := (Kd.R_reads' HR.out).2.1
      have hcw := (Kd.R_reads' HRw.out).2.1
      have hls := HWF.out.2.2.2.1
      have HSA := Aside0.mk (same_calls w1.heap.size g w1.heap.size _ _ first st1 A2 st1.length c2 wr.drew (HM.out.frm (Frm.refl wr (fun _ => False)).drew (fun h => h) (fun _ _ h => h)) HWF1.out (Kd.R_drew HRw.out))
      have HSB := Aside0.mk (fun W (hW : Below wr.heap.size wr W) => same_calls w5.heap.size gc w1.heap.size _ _ first st Ar st.length cr W (HC.out.fresh hW) HWF.out (Kd.R_below HR.out hW))
      have HEQ := Aside0.mk (fun W (hW : Below wr.heap.size wr W) => equal_calls w5.heap.size gc w1.heap.size g _ _ first st st1 W (HC.out.fresh hW) (HM.out.fresh hW) hls)
      have HSQ := Aside0.mk (fun W (hW : Below wr.heap.size wr W) => same_quiet (st.length + 1) Ar cr st A2 c2 st1 _ W (Kd.R_reads' (Kd.R_below HR.out hW)).2.2 hcr (Kd.R_reads' (Kd.R_below HRw.out hW)).2.2 hcw (same_f st st1 (by omega) _ (by omega)))
      have HXa := Aside0.mk (fun W (hW : Below wr.heap.size wr W) => (hW.block _ (blk_lt HX14.out)).trans HX14.out)
      have HXb := Aside0.mk (fun W (hW : Below wr.heap.size wr W) => (hW.block _ (blk_lt HX.out)).trans HX.out)
      obtain ⟨bq, hbq⟩ : ∃ b, decide (st = st1) = b := ⟨_, rfl⟩
      rw [hbq] at HEQ HSQ
      have z0 : wr.drew.cell? ⟨w2.heap.size, 0, none⟩ = some (.int .i64 first) := blk_cell HX.out 0
      have z1 : wr.drew.cell? ⟨w2.heap.size, 1, none⟩ = some (.slice A2 st1.length c2) := blk_cell HX.out 1
      clear hbq
      have x0 : wr.cell? ⟨w.heap.size + 1, 1, none⟩ = some (.slice A1 n1 c1) := blk_cell HQ.out 1
      go_wp2_with fail
      refine wp_region_any (by kernel_rfl) ?_
      change wpAny _ _ _ _ _ _ _ (World.drew _)
      refine wpAny_take (i := 0) (v := .pointer (some ⟨g, 0, none⟩)) rfl (by kernel_rfl) (by kernel_rfl) (by kernel_rfl) (fun _ _ _ h => h) (Or.inl ⟨by kernel_rfl, ?_⟩) ?_
      · intro w; go_simp; try with_reducible rfl
      refine wpAny_ready (rs := [1]) (by kernel_rfl) (by simp) ?_
      refine AllReady.cons rfl (fun K hK => ?_) ?_
      · go_simp
        refine hK _ _ ?_; clear hK K
        refine wpAny_ready (rs := [2]) (by kernel_rfl) (by simp) ?_
        refine AllReady.cons rfl (fun K hK => ?_) ?_
        · go_simp
          with_reducible refine HSA.out.mono ?_
          rintro e wA ⟨rfl, BA⟩
          have HbA : Below wr.heap.size wr wA := (Below.refl wr.heap.size wr).drew.trans BA
          have a0 : wA.cell? ⟨w6.heap.size, 0, none⟩ = some (.int .i64 first) := blk_cell (HXa.out wA HbA) 0
          have a1 : wA.cell? ⟨w6.heap.size, 1, none⟩ = some (.slice Ar st.length cr) := blk_cell (HXa.out wA HbA) 1
          go_simp
          refine hK _ _ ?_; clear hK K
          refine wpAny_take (i := 3) (v := .bool true) rfl (by kernel_rfl) (by kernel_rfl) (by kernel_rfl) (fun _ _ _ h => h) (Or.inl ⟨by kernel_rfl, ?_⟩) ?_
          · intro w; go_simp; try with_reducible rfl
          refine wpAny_take (i := 4) (v := .pointer (some ⟨gc, 0, none⟩)) rfl (by kernel_rfl) (by kernel_rfl) (by kernel_rfl) (fun _ _ _ h => h) (Or.inl ⟨by kernel_rfl, ?_⟩) ?_
          · intro w; go_simp; try with_reducible rfl
          refine wpAny_ready (rs := [5]) (by kernel_rfl) (by simp) ?_
          refine AllReady.cons rfl (fun K hK => ?_) ?_
          · go_simp
            refine hK _ _ ?_; clear hK K
            refine wpAny_ready (rs := [6]) (by kernel_rfl) (by simp) ?_
            refine AllReady.cons rfl (fun K hK => ?_) ?_
            · go_simp
              with_reducible refine (HSB.out wA HbA).mono ?_
              rintro e wB ⟨rfl, BB⟩
              have HbB : Below wr.heap.size wr wB := HbA.trans (BB.mono HbA.size)
              have b0 : wB.cell? ⟨w6.heap.size, 1, none⟩ = some (.slice Ar st.length cr) := blk_cell (HXa.out wB HbB) 1
              have b1 : wB.cell? ⟨w2.heap.size, 1, none⟩ = some (.slice A2 st1.length c2) := blk_cell (HXb.out wB HbB) 1
              have b2 : ∀ q, (wB.drewN q).cell? ⟨w6.heap.size, 1, none⟩ = some (.slice Ar st.length cr) := fun q => b0
              have b3 : ∀ q, (wB.drewN q).cell? ⟨w2.heap.size, 1, none⟩ = some (.slice A2 st1.length c2) := fun q => b1
              go_simp
              refine hK _ _ ?_; clear hK K
              refine wpAny_take (i := 7) (v := .bool true) rfl (by kernel_rfl) (by kernel_rfl) (by kernel_rfl) (fun _ _ _ h => h) (Or.inl ⟨by kernel_rfl, ?_⟩) ?_
              · intro w; go_simp; try with_reducible rfl
              refine wpAny_take (i := 8) (v := .bool true) rfl (by kernel_rfl) (by kernel_rfl) (by kernel_rfl) (fun _ _ _ h => h) (Or.inl ⟨by kernel_rfl, ?_⟩) ?_
              · intro w; go_simp; try with_reducible rfl
              refine wpAny_take (i := 9) (v := .pointer (some ⟨gc, 0, none⟩)) rfl (by kernel_rfl) (by kernel_rfl) (by kernel_rfl) (fun _ _ _ h => h) (Or.inl ⟨by kernel_rfl, ?_⟩) ?_
              · intro w; go_simp; try with_reducible rfl
              refine wpAny_take (i := 10) (v := .pointer (some ⟨g, 0, none⟩)) rfl (by kernel_rfl) (by kernel_rfl) (by kernel_rfl) (fun _ _ _ h => h) (Or.inl ⟨by kernel_rfl, ?_⟩) ?_
              · intro w; go_simp; try with_reducible rfl
              refine wpAny_take (i := 12) (v := .pointer (some ⟨w6.heap.size, 1, none⟩)) rfl (by kernel_rfl) (by kernel_rfl) (by kernel_rfl) (fun _ _ _ h => h) (Or.inl ⟨by kernel_rfl, ?_⟩) ?_
              · intro w; go_simp; try with_reducible rfl
              refine wpAny_take (i := 14) (v := .pointer (some ⟨w2.heap.size, 1, none⟩)) rfl (by kernel_rfl) (by kernel_rfl) (by kernel_rfl) (fun _ _ _ h => h) (Or.inl ⟨by kernel_rfl, ?_⟩) ?_
              · intro w; go_simp; try with_reducible rfl
              refine wpAny_ready (rs := [11, 13, 15]) (by kernel_rfl) (by simp) ?_
              refine AllReady.cons rfl (fun K hK => ?_) ?_
              · go_simp
                with_reducible refine (HEQ.out wB HbB).mono ?_
                rintro e wE ⟨rfl, mE, rfl⟩
                go_simp
                refine hK _ _ ?_; clear hK K
                refine wpAny_ready (rs := [13, 15]) (by kernel_rfl) (by simp) ?_
                refine AllReady.cons rfl (fun K hK => ?_) ?_
                · go_simp
                  refine hK _ _ ?_; clear hK K
                  refine wpAny_ready (rs := [15]) (by kernel_rfl) (by simp) ?_
                  refine AllReady.cons rfl (fun K hK => ?_) ?_
                  · go_simp
                    refine hK _ _ ?_; clear hK K
                    refine wpAny_ready (rs := [16]) (by kernel_rfl) (by simp) ?_
                    refine AllReady.cons rfl (fun K hK => ?_) ?_
                    · go_simp
                      with_reducible refine (HSQ.out _ (pw_below_drewN HbB mE)).mono ?_
                      rintro e wF ⟨rfl, mF, rfl⟩
                      go_simp
                      refine hK _ _ ?_; clear hK K
                      refine wpAny_take (i := 17) (v := .bool true) rfl (by kernel_rfl) (by kernel_rfl) (by kernel_rfl) (fun _ _ _ h => h) (Or.inl ⟨by kernel_rfl, ?_⟩) ?_
                      · intro w; go_simp; try with_reducible rfl
                      refine wpAny_take (i := 18) (v := .bool true) rfl (by kernel_rfl) (by kernel_rfl) (by kernel_rfl) (fun _ _ _ h => h) (Or.inl ⟨by kernel_rfl, ?_⟩) ?_
                      · intro w; go_simp; try with_reducible rfl
                      refine wpAny_ready (rs := [19]) (by kernel_rfl) (by simp) ?_
                      refine AllReady.cons rfl (fun K hK => ?_) ?_
                      · go_simp
                        refine hK _ _ ?_; clear hK K
                        refine wpAny_done (by kernel_rfl) ?_ _
                        go_simp
                        go_wp2
                        go_ret
                        exact ⟨rfl, pw_below_drewN (HB.out.trans (HbB.mono HB.out.size)) _⟩
                      exact AllReady.nil
                    exact AllReady.nil
                  exact AllReady.nil
                refine AllReady.cons rfl (fun K hK => ?_) ?_
                · go_simp
                  refine hK _ _ ?_; clear hK K
                  refine wpAny_ready (rs := [13]) (by kernel_rfl) (by simp) ?_
                  refine AllReady.cons rfl (fun K hK => ?_) ?_
                  · go_simp
                    refine hK _ _ ?_; clear hK K
                    refine wpAny_ready (rs := [16]) (by kernel_rfl) (by simp) ?_
                    refine AllReady.cons rfl (fun K hK => ?_) ?_
                    · go_simp
                      with_reducible refine (HSQ.out _ (pw_below_drewN HbB mE)).mono ?_
                      rintro e wF ⟨rfl, mF, rfl⟩
                      go_simp
                      refine hK _ _ ?_; clear hK K
                      refine wpAny_take (i := 17) (v := .bool true) rfl (by kernel_rfl) (by kernel_rfl) (by kernel_rfl) (fun _ _ _ h => h) (Or.inl ⟨by kernel_rfl, ?_⟩) ?_
                      · intro w; go_simp; try with_reducible rfl
                      refine wpAny_take (i := 18) (v := .bool true) rfl (by kernel_rfl) (by kernel_rfl) (by kernel_rfl) (fun _ _ _ h => h) (Or.inl ⟨by kernel_rfl, ?_⟩) ?_
                      · intro w; go_simp; try with_reducible rfl
                      refine wpAny_ready (rs := [19]) (by kernel_rfl) (by simp) ?_
                      refine AllReady.cons rfl (fun K hK => ?_) ?_
                      · go_simp
                        refine hK _ _ ?_; clear hK K
                        refine wpAny_done (by kernel_rfl) ?_ _
                        go_simp
                        go_wp2
                        go_ret
                        exact ⟨rfl, pw_below_drewN (HB.out.trans (HbB.mono HB.out.size)) _⟩
                      exact AllReady.nil
                    exact AllReady.nil
                  exact AllReady.nil
                exact AllReady.nil
              refine AllReady.cons rfl (fun K hK => ?_) ?_
              · go_simp
                refine hK _ _ ?_; clear hK K
                refine wpAny_ready (rs := [11, 15]) (by kernel_rfl) (by simp) ?_
                refine AllReady.cons rfl (fun K hK => ?_) ?_
                · go_simp
                  with_reducible refine (HEQ.out wB HbB).mono ?_
                  rintro e wE ⟨rfl, mE, rfl⟩
                  go_simp
                  refine hK _ _ ?_; clear hK K
                  refine wpAny_ready (rs := [15]) (by kernel_rfl) (by simp) ?_
                  refine AllReady.cons rfl (fun K hK => ?_) ?_
                  · go_simp
                    refine hK _ _ ?_; clear hK K
                    refine wpAny_ready (rs := [16]) (by kernel_rfl) (by simp) ?_
                    refine AllReady.cons rfl (fun K hK => ?_) ?_
                    · go_simp
                      with_reducible refine (HSQ.out _ (pw_below_drewN HbB mE)).mono ?_
                      rintro e wF ⟨rfl, mF, rfl⟩
                      go_simp
                      refine hK _ _ ?_; clear hK K
                      refine wpAny_take (i := 17) (v := .bool true) rfl (by kernel_rfl) (by kernel_rfl) (by kernel_rfl) (fun _ _ _ h => h) (Or.inl ⟨by kernel_rfl, ?_⟩) ?_
                      · intro w; go_simp; try with_reducible rfl
                      refine wpAny_take (i := 18) (v := .bool true) rfl (by kernel_rfl) (by kernel_rfl) (by kernel_rfl) (fun _ _ _ h => h) (Or.inl ⟨by kernel_rfl, ?_⟩) ?_
                      · intro w; go_simp; try with_reducible rfl
                      refine wpAny_ready (rs := [19]) (by kernel_rfl) (by simp) ?_
                      refine AllReady.cons rfl (fun K hK => ?_) ?_
                      · go_simp
                        refine hK _ _ ?_; clear hK K
                        refine wpAny_done (by kernel_rfl) ?_ _
                        go_simp
                        go_wp2
                        go_ret
                        exact ⟨rfl, pw_below_drewN (HB.out.trans (HbB.mono HB.out.size)) _⟩
                      exact AllReady.nil
                    exact AllReady.nil
                  exact AllReady.nil
                refine AllReady.cons rfl (fun K hK => ?_) ?_
                · go_simp
                  refine hK _ _ ?_; clear hK K
                  refine wpAny_ready (rs := [11]) (by kernel_rfl) (by simp) ?_
                  refine AllReady.cons rfl (fun K hK => ?_) ?_
                  · go_simp
                    with_reducible refine (HEQ.out wB HbB).mono ?_
                    rintro e wE ⟨rfl, mE, rfl⟩
                    go_simp
                    refine hK _ _ ?_; clear hK K
                    refine wpAny_ready (rs := [16]) (by kernel_rfl) (by simp) ?_
                    refine AllReady.cons rfl (fun K hK => ?_) ?_
                    · go_simp
                      with_reducible refine (HSQ.out _ (pw_below_drewN HbB mE)).mono ?_
                      rintro e wF ⟨rfl, mF, rfl⟩
                      go_simp
                      refine hK _ _ ?_; clear hK K
                      refine wpAny_take (i := 17) (v := .bool true) rfl (by kernel_rfl) (by kernel_rfl) (by kernel_rfl) (fun _ _ _ h => h) (Or.inl ⟨by kernel_rfl, ?_⟩) ?_
                      · intro w; go_simp; try with_reducible rfl
                      refine wpAny_take (i := 18) (v := .bool true) rfl (by kernel_rfl) (by kernel_rfl) (by kernel_rfl) (fun _ _ _ h => h) (Or.inl ⟨by kernel_rfl, ?_⟩) ?_
                      · intro w; go_simp; try with_reducible rfl
                      refine wpAny_ready (rs := [19]) (by kernel_rfl) (by simp) ?_
                      refine AllReady.cons rfl (fun K hK => ?_) ?_
                      · go_simp
                        refine hK _ _ ?_; clear hK K
                        refine wpAny_done (by kernel_rfl) ?_ _
                        go_simp
                        go_wp2
                        go_ret
                        exact ⟨rfl, pw_below_drewN (HB.out.trans (HbB.mono HB.out.size)) _⟩
                      exact AllReady.nil
                    exact AllReady.nil
                  exact AllReady.nil
                exact AllReady.nil
              refine AllReady.cons rfl (fun K hK => ?_) ?_
              · go_simp
                refine hK _ _ ?_; clear hK K
                refine wpAny_ready (rs := [11, 13]) (by kernel_rfl) (by simp) ?_
                refine AllReady.cons rfl (fun K hK => ?_) ?_
                · go_simp
                  with_reducible refine (HEQ.out wB HbB).mono ?_
                  rintro e wE ⟨rfl, mE, rfl⟩
                  go_simp
                  refine hK _ _ ?_; clear hK K
                  refine wpAny_ready (rs := [13]) (by kernel_rfl) (by simp) ?_
                  refine AllReady.cons rfl (fun K hK => ?_) ?_
                  · go_simp
                    refine hK _ _ ?_; clear hK K
                    refine wpAny_ready (rs := [16]) (by kernel_rfl) (by simp) ?_
                    refine AllReady.cons rfl (fun K hK => ?_) ?_
                    · go_simp
                      with_reducible refine (HSQ.out _ (pw_below_drewN HbB mE)).mono ?_
                      rintro e wF ⟨rfl, mF, rfl⟩
                      go_simp
                      refine hK _ _ ?_; clear hK K
                      refine wpAny_take (i := 17) (v := .bool true) rfl (by kernel_rfl) (by kernel_rfl) (by kernel_rfl) (fun _ _ _ h => h) (Or.inl ⟨by kernel_rfl, ?_⟩) ?_
                      · intro w; go_simp; try with_reducible rfl
                      refine wpAny_take (i := 18) (v := .bool true) rfl (by kernel_rfl) (by kernel_rfl) (by kernel_rfl) (fun _ _ _ h => h) (Or.inl ⟨by kernel_rfl, ?_⟩) ?_
                      · intro w; go_simp; try with_reducible rfl
                      refine wpAny_ready (rs := [19]) (by kernel_rfl) (by simp) ?_
                      refine AllReady.cons rfl (fun K hK => ?_) ?_
                      · go_simp
                        refine hK _ _ ?_; clear hK K
                        refine wpAny_done (by kernel_rfl) ?_ _
                        go_simp
                        go_wp2
                        go_ret
                        exact ⟨rfl, pw_below_drewN (HB.out.trans (HbB.mono HB.out.size)) _⟩
                      exact AllReady.nil
                    exact AllReady.nil
                  exact AllReady.nil
                refine AllReady.cons rfl (fun K hK => ?_) ?_
                · go_simp
                  refine hK _ _ ?_; clear hK K
                  refine wpAny_ready (rs := [11]) (by kernel_rfl) (by simp) ?_
                  refine AllReady.cons rfl (fun K hK => ?_) ?_
                  · go_simp
                    with_reducible refine (HEQ.out wB HbB).mono ?_
                    rintro e wE ⟨rfl, mE, rfl⟩
                    go_simp
                    refine hK _ _ ?_; clear hK K
                    refine wpAny_ready (rs := [16]) (by kernel_rfl) (by simp) ?_
                    refine AllReady.cons rfl (fun K hK => ?_) ?_
                    · go_simp
                      with_reducible refine (HSQ.out _ (pw_below_drewN HbB mE)).mono ?_
                      rintro e wF ⟨rfl, mF, rfl⟩
                      go_simp
                      refine hK _ _ ?_; clear hK K
                      refine wpAny_take (i := 17) (v := .bool true) rfl (by kernel_rfl) (by kernel_rfl) (by kernel_rfl) (fun _ _ _ h => h) (Or.inl ⟨by kernel_rfl, ?_⟩) ?_
                      · intro w; go_simp; try with_reducible rfl
                      refine wpAny_take (i := 18) (v := .bool true) rfl (by kernel_rfl) (by kernel_rfl) (by kernel_rfl) (fun _ _ _ h => h) (Or.inl ⟨by kernel_rfl, ?_⟩) ?_
                      · intro w; go_simp; try with_reducible rfl
                      refine wpAny_ready (rs := [19]) (by kernel_rfl) (by simp) ?_
                      refine AllReady.cons rfl (fun K hK => ?_) ?_
                      · go_simp
                        refine hK _ _ ?_; clear hK K
                        refine wpAny_done (by kernel_rfl) ?_ _
                        go_simp
                        go_wp2
                        go_ret
                        exact ⟨rfl, pw_below_drewN (HB.out.trans (HbB.mono HB.out.size)) _⟩
                      exact AllReady.nil
                    exact AllReady.nil
                  exact AllReady.nil
                exact AllReady.nil
              exact AllReady.nil
            exact AllReady.nil
          exact AllReady.nil
        exact AllReady.nil
      exact AllReady.nil
end Go.Proofs.Ytbddllklagiajaa
