/- The walk of BlocksReturns. -/
import Derived.Test.YtbddllklagiajaaX10
namespace Go.Proofs.Ytbddllklagiajaa
open PBlocksEncodes
open Go.RowKit Go.Proofs.YtbddllklagiajaaW.PrintWords Go.Proofs.YtbddllklagiajaaW.PrintLast Go.Proofs.YtbddllklagiajaaW.PrintMore
set_option linter.unusedVariables false
set_option linter.unusedSimpArgs false

theorem listM_le (first : Int) (st ss : List Int) : (listM first st ss).length ≤ st.length := by
  rw [listM_length]; exact List.countP_le_length
theorem abort_used {first : Int} {st : List Int} (h : ∀ s ∈ st, 0 ≤ s ∧ s ≤ 3) : listM first (st.map (nextM 0 1 0 1)) [1, 2] = listM first st [1, 3] := listM_next h _ _ _ _ _ _ (by rintro s (rfl | rfl | rfl | rfl) <;> decide)
theorem abort_old {first : Int} {st : List Int} (h : ∀ s ∈ st, 0 ≤ s ∧ s ≤ 3) : listM first (st.map (nextM 0 1 0 1)) [1, 3] = listM first st [1, 3] := listM_next h _ _ _ _ _ _ (by rintro s (rfl | rfl | rfl | rfl) <;> decide)
theorem commit_used {first : Int} {st : List Int} (h : ∀ s ∈ st, 0 ≤ s ∧ s ≤ 3) : listM first (st.map (nextM 0 1 1 0)) [1, 2] = listM first st [1, 2] := listM_next h _ _ _ _ _ _ (by rintro s (rfl | rfl | rfl | rfl) <;> decide)
theorem commit_old {first : Int} {st : List Int} (h : ∀ s ∈ st, 0 ≤ s ∧ s ≤ 3) : listM first (st.map (nextM 0 1 1 0)) [1, 3] = listM first st [1, 2] := listM_next h _ _ _ _ _ _ (by rintro s (rfl | rfl | rfl | rfl) <;> decide)

set_option maxRecDepth 100000 in
set_option maxHeartbeats 8000000 in
theorem blocksReturns_walk (a b : Int) (A : Option Addr) (n c : Nat) (l : List OpV) (w : World) (ha : 0 ≤ a ∧ a ≤ 65535) (hb : 0 ≤ b ∧ b ≤ 255) (hl : OpsIn w A n l) (hn : n ≤ 9223372036854775807) :
    Calls Try.prog 13 #[.int .u16 a, .int .u8 b, .slice A n c] w fun e w' => e = .returned (.bool true) ∧ Below w.heap.size w w' := by
  have HL := Aside0.mk hl
  clear hl
  go_enter Try.func13, Try.ntmps13
  go_wp2_with fail
  refine (known12_calls w).mono ?_
  rintro e w1 ⟨rfl, B1⟩
  have HB1 := Aside0.mk B1
  have HW1 := Aside0.mk B1.size
  clear B1
  go_wp2_with fail
  refine (play_calls a b A n c l w1 ha hb (HL.out.below HB1.out) hn).mono ?_
  rintro e w2 ⟨g, v, N, st, rfl, hwf, hsl, M2, R2, hN, hg, B2⟩
  obtain ⟨A2, n2, c2, rfl⟩ := R_form' R2
  obtain ⟨first, hfst⟩ : ∃ f, a % 1000 = f := ⟨_, rfl⟩
  rw [hfst] at M2 hwf ⊢
  have hfr : 0 ≤ first ∧ first < 1000 := by omega
  have hcl : st.length ≤ 40 := by rw [hsl]; unfold cntM; omega
  have HM2 := Aside0.mk (M2.fresh (below_alloc (Below.refl w2.heap.size w2) (.cells #[.int .i64 first, .slice A2 n2 c2] 63)))
  have HWF := Aside0.mk hwf
  have HN := Aside0.mk (And.intro hN (And.intro hg B2.size))
  have HB2 := Aside0.mk (below_alloc (below_step HB1.out B2) (.cells #[.int .i64 first, .slice A2 n2 c2] 63))
  clear M2 R2 hwf hsl hN B2 HB1 HL hfst
  go_wp2_with fail
  refine (old_calls w1.heap.size g _ first st _ HM2.out HWF.out).mono ?_
  rintro e w3 ⟨vo, rfl, RO, B3⟩
  obtain ⟨AO, nO, cO, rfl⟩ := R_form' RO
  obtain rfl := (Kd.R_reads' RO).1
  rw [World.size_alloc] at RO
  have HM3 := Aside0.mk (HM2.out.fresh B3)
  have HB3 := Aside0.mk (HB2.out.trans (B3.mono HB2.out.size))
  have HO3 := Aside0.mk (Kd.R_mono (ok' := fun k => w2.heap.size ≤ k ∧ k < w3.heap.size) (Kd.R_bound RO) (fun k hk => ⟨by have := hk.2.1; omega, hk.2.2.1⟩))
  have HS3 := Aside0.mk B3.size
  clear RO B3 HM2 HB2
  go_wp2_with fail
  refine (used_calls w1.heap.size g _ first st w3 HM3.out HWF.out).mono ?_
  rintro e w4 ⟨vu, rfl, RU, B4⟩
  obtain ⟨AU, nU, cU, rfl⟩ := R_form' RU
  obtain rfl := (Kd.R_reads' RU).1
  have HM4 := Aside0.mk (HM3.out.fresh B4)
  have HB4 := Aside0.mk (below_step HB3.out B4)
  have HO4 := Aside0.mk (Kd.R_below HO3.out B4)
  have HU4 := Aside0.mk (Kd.R_mono (ok' := fun k => w3.heap.size ≤ k ∧ k < w4.heap.size) (Kd.R_bound RU) (fun k hk => ⟨hk.2.1, hk.2.2.1⟩))
  have HS4 := Aside0.mk B4.size
  clear RU B4 HM3 HB3 HO3
  go_wp2_with fail
  refine (clone_calls w1.heap.size g _ first st w4 HM4.out HWF.out).mono ?_
  rintro e w5 ⟨g2, rfl, C5, hg2, B5⟩
  have HM5 := Aside0.mk (HM4.out.fresh B5)
  have HB5 := Aside0.mk (below_step HB4.out B5)
  have HO5 := Aside0.mk (Kd.R_below HO4.out B5)
  have HU5 := Aside0.mk (Kd.R_below HU4.out B5)
  have HC5 := Aside0.mk (C5.tight.mono (P' := fun k => w4.heap.size ≤ k ∧ k < w5.heap.size) (fun k hk => ⟨hk.1, hk.2.2.2⟩))
  have HG2 := Aside0.mk hg2
  have HN5 : Aside0 ((N ≤ w2.heap.size ∧ g < N ∧ w1.heap.size ≤ w2.heap.size) ∧ (w2.heap.size ≤ w3.heap.size ∧ w3.heap.size ≤ w4.heap.size ∧ w4.heap.size ≤ w5.heap.size) ∧ w.heap.size ≤ w1.heap.size) :=
    Aside0.mk ⟨HN.out, ⟨by have := HS3.out; simp at this; omega, HS4.out, B5.size⟩, HW1.out⟩
  clear C5 B5 HM4 HB4 HO4 HU4 HN HS3 HS4 HW1 hg
  go_wp2_with fail
  refine (abort_calls w1.heap.size g _ first st w5 HM5.out HWF.out.2.2.2.2 (by omega)).mono ?_
  rintro e w6 ⟨rfl, M6, F6⟩
  have HM6 := Aside0.mk M6
  have HB6 := Aside0.mk (HB5.out.trans (F6.below (B := w.heap.size) (fun k hk => by have := HN5.out; omega) HB5.out.size))
  have HO6 := Aside0.mk (Kd.R_kept HO5.out F6.kept (fun k hk hp => by have := HN5.out; omega))
  have HU6 := Aside0.mk (Kd.R_kept HU5.out F6.kept (fun k hk hp => by have := HN5.out; omega))
  have HC6 := Aside0.mk (HC5.out.frm F6 (fun hp => by have := HN5.out; have := HG2.out; omega) (fun k hk hp => by have := HN5.out; omega))
  clear M6 F6 HM5 HB5 HO5 HU5 HC5
  go_wp2_with fail
  refine (commit_calls w4.heap.size g2 _ first st w6 HC6.out HWF.out.2.2.2.2 (by omega)).mono ?_
  rintro e w7 ⟨rfl, C7, F7⟩
  have HC7 := Aside0.mk C7
  have HB7 := Aside0.mk (HB6.out.trans (F7.below (B := w.heap.size) (fun k hk => by have := HN5.out; omega) HB6.out.size))
  have HO7 := Aside0.mk (Kd.R_kept HO6.out F7.kept (fun k hk hp => by have := HN5.out; omega))
  have HU7 := Aside0.mk (Kd.R_kept HU6.out F7.kept (fun k hk hp => by have := HN5.out; omega))
  have HM7 := Aside0.mk (HM6.out.frm F7 (fun hp => by have := HN5.out; omega) (fun k hk hp => by have := HN5.out; omega))
  clear C7 F7 HM6 HB6 HO6 HU6 HC6
  have hwm := HWF.out.next (n0 := 0) (n1 := 1) (n2 := 0) (n3 := 1) (by decide)
  have hwc := HWF.out.next (n0 := 0) (n1 := 1) (n2 := 1) (n3 := 0) (by decide)
  have hlo : (listM first st [1, 3]).length ≤ 40 := Nat.le_trans (listM_le _ _ _) hcl
  have hlu : (listM first st [1, 2]).length ≤ 40 := Nat.le_trans (listM_le _ _ _) hcl
  have HWM := Aside0.mk hwm
  have HWC := Aside0.mk hwc
  clear hwm hwc
  go_wp2_with fail
  refine (used_calls w1.heap.size g _ first (st.map (nextM 0 1 0 1)) w7 HM7.out HWM.out).mono ?_
  rintro e w8 ⟨v, rfl, R, B⟩
  rw [abort_used HWF.out.2.2.2.2] at R
  obtain ⟨AX, nX, cX, rfl⟩ := R_form' R
  obtain rfl := (Kd.R_reads' R).1
  have HM8 := Aside0.mk (HM7.out.fresh B)
  have HC8 := Aside0.mk (HC7.out.fresh B)
  have HO8 := Aside0.mk (Kd.R_below HO7.out B)
  have HU8 := Aside0.mk (Kd.R_below HU7.out B)
  have HB8 := Aside0.mk (HB7.out.trans (B.mono HB7.out.size))
  have HX := Aside0.mk R
  clear R B
  clear HM7 HC7 HO7 HU7 HB7
  go_wp2_with fail
  refine (replevinref12_Same.calls 41 AX cX (listM first st [1, 3]) AO cO (listM first st [1, 3]) true w8 (Kd.R_reads' HX.out).2.2 (Kd.R_reads' HX.out).2.1 (Kd.R_reads' HO8.out).2.2 (Kd.R_reads' HO8.out).2.1 (by rw [same_f _ _ (by omega) _ (by omega)]; simp)).mono ?_
  rintro e w9 ⟨rfl, D⟩
  have B := D.below
  have HM9 := Aside0.mk (HM8.out.fresh B)
  have HC9 := Aside0.mk (HC8.out.fresh B)
  have HO9 := Aside0.mk (Kd.R_below HO8.out B)
  have HU9 := Aside0.mk (Kd.R_below HU8.out B)
  have HB9 := Aside0.mk (HB8.out.trans (B.mono HB8.out.size))
  clear D B HX
  clear HM8 HC8 HO8 HU8 HB8
  go_wp2_with fail
  refine (old_calls w1.heap.size g _ first (st.map (nextM 0 1 0 1)) w9 HM9.out HWM.out).mono ?_
  rintro e w10 ⟨v, rfl, R, B⟩
  rw [abort_old HWF.out.2.2.2.2] at R
  obtain ⟨AX, nX, cX, rfl⟩ := R_form' R
  obtain rfl := (Kd.R_reads' R).1
  have HM10 := Aside0.mk (HM9.out.fresh B)
  have HC10 := Aside0.mk (HC9.out.fresh B)
  have HO10 := Aside0.mk (Kd.R_below HO9.out B)
  have HU10 := Aside0.mk (Kd.R_below HU9.out B)
  have HB10 := Aside0.mk (HB9.out.trans (B.mono HB9.out.size))
  have HX := Aside0.mk R
  clear R B
  clear HM9 HC9 HO9 HU9 HB9
  go_wp2_with fail
  refine (replevinref12_Same.calls 41 AX cX (listM first st [1, 3]) AO cO (listM first st [1, 3]) true w10 (Kd.R_reads' HX.out).2.2 (Kd.R_reads' HX.out).2.1 (Kd.R_reads' HO10.out).2.2 (Kd.R_reads' HO10.out).2.1 (by rw [same_f _ _ (by omega) _ (by omega)]; simp)).mono ?_
  rintro e w11 ⟨rfl, D⟩
  have B := D.below
  have HM11 := Aside0.mk (HM10.out.fresh B)
  have HC11 := Aside0.mk (HC10.out.fresh B)
  have HO11 := Aside0.mk (Kd.R_below HO10.out B)
  have HU11 := Aside0.mk (Kd.R_below HU10.out B)
  have HB11 := Aside0.mk (HB10.out.trans (B.mono HB10.out.size))
  clear D B HX
  clear HM10 HC10 HO10 HU10 HB10
  go_wp2_with fail
  refine (used_calls w4.heap.size g2 _ first (st.map (nextM 0 1 1 0)) w11 HC11.out HWC.out).mono ?_
  rintro e w12 ⟨v, rfl, R, B⟩
  rw [commit_used HWF.out.2.2.2.2] at R
  obtain ⟨AX, nX, cX, rfl⟩ := R_form' R
  obtain rfl := (Kd.R_reads' R).1
  have HM12 := Aside0.mk (HM11.out.fresh B)
  have HC12 := Aside0.mk (HC11.out.fresh B)
  have HO12 := Aside0.mk (Kd.R_below HO11.out B)
  have HU12 := Aside0.mk (Kd.R_below HU11.out B)
  have HB12 := Aside0.mk (HB11.out.trans (B.mono HB11.out.size))
  have HX := Aside0.mk R
  clear R B
  clear HM11 HC11 HO11 HU11 HB11
  go_wp2_with fail
  refine (replevinref12_Same.calls 41 AX cX (listM first st [1, 2]) AU cU (listM first st [1, 2]) true w12 (Kd.R_reads' HX.out).2.2 (Kd.R_reads' HX.out).2.1 (Kd.R_reads' HU12.out).2.2 (Kd.R_reads' HU12.out).2.1 (by rw [same_f _ _ (by omega) _ (by omega)]; simp)).mono ?_
  rintro e w13 ⟨rfl, D⟩
  have B := D.below
  have HM13 := Aside0.mk (HM12.out.fresh B)
  have HC13 := Aside0.mk (HC12.out.fresh B)
  have HO13 := Aside0.mk (Kd.R_below HO12.out B)
  have HU13 := Aside0.mk (Kd.R_below HU12.out B)
  have HB13 := Aside0.mk (HB12.out.trans (B.mono HB12.out.size))
  clear D B HX
  clear HM12 HC12 HO12 HU12 HB12
  go_wp2_with fail
  refine (old_calls w4.heap.size g2 _ first (st.map (nextM 0 1 1 0)) w13 HC13.out HWC.out).mono ?_
  rintro e w14 ⟨v, rfl, R, B⟩
  rw [commit_old HWF.out.2.2.2.2] at R
  obtain ⟨AX, nX, cX, rfl⟩ := R_form' R
  obtain rfl := (Kd.R_reads' R).1
  have HM14 := Aside0.mk (HM13.out.fresh B)
  have HC14 := Aside0.mk (HC13.out.fresh B)
  have HO14 := Aside0.mk (Kd.R_below HO13.out B)
  have HU14 := Aside0.mk (Kd.R_below HU13.out B)
  have HB14 := Aside0.mk (HB13.out.trans (B.mono HB13.out.size))
  have HX := Aside0.mk R
  clear R B
  clear HM13 HC13 HO13 HU13 HB13
  go_wp2_with fail
  refine (replevinref12_Same.calls 41 AX cX (listM first st [1, 2]) AU cU (listM first st [1, 2]) true w14 (Kd.R_reads' HX.out).2.2 (Kd.R_reads' HX.out).2.1 (Kd.R_reads' HU14.out).2.2 (Kd.R_reads' HU14.out).2.1 (by rw [same_f _ _ (by omega) _ (by omega)]; simp)).mono ?_
  rintro e w15 ⟨rfl, D⟩
  have B := D.below
  have HM15 := Aside0.mk (HM14.out.fresh B)
  have HC15 := Aside0.mk (HC14.out.fresh B)
  have HO15 := Aside0.mk (Kd.R_below HO14.out B)
  have HU15 := Aside0.mk (Kd.R_below HU14.out B)
  have HB15 := Aside0.mk (HB14.out.trans (B.mono HB14.out.size))
  clear D B HX
  clear HM14 HC14 HO14 HU14 HB14
  have HNX := Aside0.mk (number_calls w1.heap.size g _ first (st.map (nextM 0 1 0 1)) w15 HM15.out HWM.out 2)
  rw [numM_next_zero (st := st) 0 1 0 1 2 (by decide) (by decide) (by decide) (by decide)] at HNX
  go_wp2_with fail
  refine HNX.out.mono ?_
  rintro e w16 ⟨rfl, B⟩
  have HM16 := Aside0.mk (HM15.out.fresh B)
  have HC16 := Aside0.mk (HC15.out.fresh B)
  have HO16 := Aside0.mk (Kd.R_below HO15.out B)
  have HU16 := Aside0.mk (Kd.R_below HU15.out B)
  have HB16 := Aside0.mk (HB15.out.trans (B.mono HB15.out.size))
  clear B HNX
  clear HM15 HC15 HO15 HU15 HB15
  have HNX := Aside0.mk (number_calls w1.heap.size g _ first (st.map (nextM 0 1 0 1)) w16 HM16.out HWM.out 3)
  rw [numM_next_zero (st := st) 0 1 0 1 3 (by decide) (by decide) (by decide) (by decide)] at HNX
  go_wp2_with fail
  refine HNX.out.mono ?_
  rintro e w17 ⟨rfl, B⟩
  have HM17 := Aside0.mk (HM16.out.fresh B)
  have HC17 := Aside0.mk (HC16.out.fresh B)
  have HO17 := Aside0.mk (Kd.R_below HO16.out B)
  have HU17 := Aside0.mk (Kd.R_below HU16.out B)
  have HB17 := Aside0.mk (HB16.out.trans (B.mono HB16.out.size))
  clear B HNX
  clear HM16 HC16 HO16 HU16 HB16
  have HNX := Aside0.mk (number_calls w4.heap.size g2 _ first (st.map (nextM 0 1 1 0)) w17 HC17.out HWC.out 2)
  rw [numM_next_zero (st := st) 0 1 1 0 2 (by decide) (by decide) (by decide) (by decide)] at HNX
  go_wp2_with fail
  refine HNX.out.mono ?_
  rintro e w18 ⟨rfl, B⟩
  have HM18 := Aside0.mk (HM17.out.fresh B)
  have HC18 := Aside0.mk (HC17.out.fresh B)
  have HO18 := Aside0.mk (Kd.R_below HO17.out B)
  have HU18 := Aside0.mk (Kd.R_below HU17.out B)
  have HB18 := Aside0.mk (HB17.out.trans (B.mono HB17.out.size))
  clear B HNX
  clear HM17 HC17 HO17 HU17 HB17
  have HNX := Aside0.mk (number_calls w4.heap.size g2 _ first (st.map (nextM 0 1 1 0)) w18 HC18.out HWC.out 3)
  rw [numM_next_zero (st := st) 0 1 1 0 3 (by decide) (by decide) (by decide) (by decide)] at HNX
  go_wp2_with fail
  refine HNX.out.mono ?_
  rintro e w19 ⟨rfl, B⟩
  have HM19 := Aside0.mk (HM18.out.fresh B)
  have HC19 := Aside0.mk (HC18.out.fresh B)
  have HO19 := Aside0.mk (Kd.R_below HO18.out B)
  have HU19 := Aside0.mk (Kd.R_below HU18.out B)
  have HB19 := Aside0.mk (HB18.out.trans (B.mono HB18.out.size))
  clear B HNX
  clear HM18 HC18 HO18 HU18 HB18
  go_wp2
  go_ret
  exact ⟨rfl, HB19.out⟩
end Go.Proofs.Ytbddllklagiajaa
