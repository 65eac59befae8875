/- The walk of BlocksEncodes. -/
import Derived.Test.YtbddllklagiajaaX21
import Derived.Test.YtbddllklagiajaaX8
namespace Go.Proofs.Ytbddllklagiajaa
open PBlocksEncodes
open Go.RowKit Go.Proofs.YtbddllklagiajaaW.PrintWords Go.Proofs.YtbddllklagiajaaW.PrintLast Go.Proofs.YtbddllklagiajaaW.PrintMore
set_option linter.unusedVariables false
set_option linter.unusedSimpArgs false

theorem encM_bytes (f : Int) (st : List Int) : Bytes (encM f st) := by
  unfold encM
  intro x hx
  simp only [List.mem_append] at hx
  rcases hx with h | h | h | h
  · exact enc_bytes _ x h
  · exact enc_bytes _ x h
  · exact enc_bytes _ x h
  · exact bitsP_bytes _ _ x h
theorem encM_len (f : Int) (st : List Int) (h : WfM f st) (h40 : st.length ≤ 65536) : (encM f st).length ≤ 27 + (st.length + 7) / 8 := by
  obtain ⟨h1, h2, _⟩ := h
  have e1 := enc_len9 (show f.toNat < 9223372036854775808 by omega)
  have e2 := enc_len9 (show st.length < 9223372036854775808 by omega)
  have e3 := enc_len9 (show (st.length + 7) / 8 < 9223372036854775808 by omega)
  have e4 := bitsM_length st
  unfold encM
  simp only [List.length_append]
  omega
theorem kept_chg {st : List Int} (h : ∀ s ∈ st, 0 ≤ s ∧ s ≤ 3) : st.map (chgM 1 0) = kept st := by
  unfold kept
  apply List.map_congr_left
  intro s hs
  have h4 : s = 0 ∨ s = 1 ∨ s = 2 ∨ s = 3 := by have := h s hs; omega
  rcases h4 with rfl | rfl | rfl | rfl <;> decide
theorem kept_wf {f : Int} {st : List Int} (h : WfM f st) : WfM f (kept st) := by
  obtain ⟨h1, h2, h3, h4, h5⟩ := h
  refine ⟨h1, h2, by simpa [kept] using h3, by simpa [kept] using h4, fun s hs => ?_⟩
  unfold kept at hs
  obtain ⟨x, _, rfl⟩ := List.mem_map.1 hs
  split <;> decide
theorem encM_kept (f : Int) (st : List Int) : encM f (kept st) = encM f st := by
  have hl : (kept st).length = st.length := by simp [kept]
  unfold encM
  rw [hl]
  congr 3
  unfold bitsM
  rw [hl]
  refine bitsP_congr _ fun m _ => ?_
  by_cases hm : m < st.length
  · have e1 : st.getD m 0 = st[m] := by simp [hm]
    have e2 : (kept st).getD m 0 = if st[m] = 1 ∨ st[m] = 2 then 1 else 0 := by simp [kept, hm]
    rw [e1, e2]
    by_cases h : st[m] = 1 ∨ st[m] = 2
    · rw [if_pos h]
      have : st[m] ∈ [(1 : Int), 2] := by simpa using h
      simp [h]
    · rw [if_neg h]
      simp [h]
  · rw [List.getD_eq_getElem?_getD, List.getD_eq_getElem?_getD, List.getElem?_eq_none (by omega), List.getElem?_eq_none (by omega)]

set_option maxRecDepth 100000 in
set_option maxHeartbeats 8000000 in
theorem blocksEncodes_walk (a b : Int) (A : Option Addr) (n c : Nat) (l : List OpV) (w : World) (ha : 0 ≤ a ∧ a ≤ 65535) (hb : 0 ≤ b ∧ b ≤ 255) (hl : OpsIn w A n l) (hn : n ≤ 9223372036854775807) :
    Calls Try.prog 18 #[.int .u16 a, .int .u8 b, .slice A n c] w fun e w' => e = .returned (.bool true) ∧ Below w.heap.size w w' := by
  have HL := Aside0.mk hl
  clear hl
  go_enter Try.func18, Try.ntmps18
  go_wp2_with fail
  refine (known12_calls w).mono ?_
  rintro e w1 ⟨rfl, B1⟩
  have HB1 := Aside0.mk B1
  clear B1
  go_wp2_with fail
  refine (play_calls a b A n c l w1 ha hb (HL.out.below HB1.out) hn).mono ?_
  rintro e w2 ⟨g, v, N, st, rfl, hwf, hsl, M2, R2, hN, hg, B2⟩
  obtain ⟨A2, n2, c2, rfl⟩ := R_form' R2
  obtain ⟨first, hfst⟩ : ∃ f, a % 1000 = f := ⟨_, rfl⟩
  rw [hfst] at M2 hwf ⊢
  have hcl : st.length ≤ 40 := by rw [hsl]; unfold cntM; omega
  have b8 := blk_new w2 (.cells #[.int .i64 first, .slice A2 n2 c2] 63)
  have HM2 := Aside0.mk (M2.fresh (below_alloc (Below.refl w2.heap.size w2) (.cells #[.int .i64 first, .slice A2 n2 c2] 63)))
  have HR2 := Aside0.mk (Kd.R_alloc R2 (.cells #[.int .i64 first, .slice A2 n2 c2] 63))
  have HX2 := Aside0.mk b8
  have HWF := Aside0.mk hwf
  have HB2 := Aside0.mk (below_alloc (below_step HB1.out B2) (.cells #[.int .i64 first, .slice A2 n2 c2] 63))
  clear M2 R2 b8 hwf hsl hN hg B2 HB1 HL hfst
  obtain ⟨s, hs⟩ : ∃ s, strOfNums (encM first st) = s := ⟨_, rfl⟩
  have hsb : bytesOf s = encM first st := by
    rw [← hs]
    exact bytesOf_nums' _ (encM_bytes _ _)
  have hss : s.size ≤ 1000000 := by
    have h1 := bytesOf_length s
    have h2 := encM_len first st HWF.out (by omega)
    rw [hsb] at h1
    omega
  have hdec := dec_enc first st HWF.out
  rw [← hsb] at hdec
  have HD := Aside0.mk hdec
  have HS := Aside0.mk hs
  have HRF := Aside0.mk (refEncode_f first st ⟨HWF.out.1, HWF.out.2.1⟩ HWF.out.2.2.2.1)
  clear hdec hsb
  go_wp2_with fail
  refine (encode_calls w1.heap.size g _ first st _ HM2.out HWF.out).mono ?_
  rintro e w3 ⟨rfl, B3⟩
  rw [HS.out]
  have HM3 := Aside0.mk (HM2.out.fresh B3)
  have HR3 := Aside0.mk (Kd.R_below HR2.out B3)
  have HX3 := Aside0.mk ((B3.block _ (blk_lt HX2.out)).trans HX2.out)
  have HB3 := Aside0.mk (HB2.out.trans (B3.mono HB2.out.size))
  clear B3 HM2 HR2 HX2 HB2
  go_wp2_with fail
  refine (decode_calls s w3 hss).mono ?_
  rintro e w4 ⟨hd | hd, B4⟩
  · obtain ⟨_, g2, Bb, rfl, hBb, C4⟩ := hd
    rw [HD.out.1, HD.out.2.2] at C4
    have HC4 := Aside0.mk C4
    have HM4 := Aside0.mk (HM3.out.fresh B4)
    have HR4 := Aside0.mk (Kd.R_below HR3.out B4)
    have hx4 := (B4.block _ (blk_lt HX3.out)).trans HX3.out
    have x0 : w4.cell? ⟨w2.heap.size, 0, none⟩ = some (.int .i64 first) := blk_cell hx4 0
    have x1 : w4.cell? ⟨w2.heap.size, 1, none⟩ = some (.slice A2 n2 c2) := blk_cell hx4 1
    have HX4 := Aside0.mk hx4
    have HB4 := Aside0.mk (below_step HB3.out B4)
    clear C4 B4 hx4 HM3 HR3 HX3 HB3
    go_wp2_with fail
    obtain ⟨rfl, hn2c, hC2⟩ := Kd.R_reads' HR4.out
    have HRF2 := HRF.out
    refine (replevinref12_Encode.calls 100000 first A2 c2 st _ w4 hC2 hn2c HRF2).mono ?_
    rintro e w5 ⟨rfl, B5⟩
    rw [HS.out]
    have hx5 := (B5.block _ (blk_lt HX4.out)).trans HX4.out
    have y0 : w5.cell? ⟨w2.heap.size, 0, none⟩ = some (.int .i64 first) := blk_cell hx5 0
    have y1 : w5.cell? ⟨w2.heap.size, 1, none⟩ = some (.slice A2 st.length c2) := blk_cell hx5 1
    have HX5 := Aside0.mk hx5
    have HC5 := Aside0.mk (HC4.out.fresh B5)
    have HM5 := Aside0.mk (HM4.out.fresh B5)
    have HR5 := Aside0.mk (Kd.R_below HR4.out B5)
    have HB5 := Aside0.mk (below_step HB4.out B5)
    clear B5 hx5 x0 x1 hC2 HRF2 HC4 HM4 HR4 HX4 HB4
    go_wp2_with fail
    refine (replevinref12_Commit.calls (st.length + 1) first A2 c2 st _ _ w5 (Kd.R_reads' HR5.out).2.2 hn2c (commit_f st first (by omega) _ (by omega))).mono ?_
    rintro e w6 ⟨v, rfl, R6, B6⟩
    rw [kept_chg HWF.out.2.2.2.2] at R6
    obtain ⟨A6, n6, c6, rfl⟩ := R_form' R6
    have HX6 := Aside0.mk ((B6.block _ (blk_lt HX5.out)).trans HX5.out)
    have HC6 := Aside0.mk (HC5.out.fresh B6)
    have HM6 := Aside0.mk (HM5.out.fresh B6)
    have HR6 := Aside0.mk (Kd.R_below HR5.out B6)
    have HQ6 := Aside0.mk R6
    have HB6 := Aside0.mk (below_step HB5.out B6)
    clear R6 B6 y0 y1 HC5 HM5 HR5 HX5 HB5
    go_wp2_with fail
    refine (same_calls _ g2 _ _ _ first (kept st) A6 n6 c6 w6 HC6.out (kept_wf HWF.out) HQ6.out).mono ?_
    rintro e w7 ⟨rfl, B7⟩
    have HX7 := Aside0.mk ((B7.block _ (blk_lt HX6.out)).trans HX6.out)
    have HC7 := Aside0.mk (HC6.out.fresh B7)
    have HM7 := Aside0.mk (HM6.out.fresh B7)
    have HR7 := Aside0.mk (Kd.R_below HR6.out B7)
    have HB7 := Aside0.mk (below_step HB6.out B7)
    clear B7 HC6 HM6 HR6 HX6 HB6 HQ6
    go_wp2_with fail
    refine (encode_calls _ g2 _ first (kept st) w7 HC7.out (kept_wf HWF.out)).mono ?_
    rintro e w8 ⟨rfl, B8⟩
    rw [encM_kept, HS.out]
    have hx8 := (B8.block _ (blk_lt HX7.out)).trans HX7.out
    have y0 : w8.cell? ⟨w2.heap.size, 0, none⟩ = some (.int .i64 first) := blk_cell hx8 0
    have y1 : w8.cell? ⟨w2.heap.size, 1, none⟩ = some (.slice A2 st.length c2) := blk_cell hx8 1
    have HM8 := Aside0.mk (HM7.out.fresh B8)
    have HR8 := Aside0.mk (Kd.R_below HR7.out B8)
    have HB8 := Aside0.mk (below_step HB7.out B8)
    clear B8 hx8 HC7 HM7 HR7 HX7 HB7
    go_wp2_with fail
    refine (same_calls _ g _ _ _ first st A2 st.length c2 w8 HM8.out HWF.out HR8.out).mono ?_
    rintro e w9 ⟨rfl, B9⟩
    have HB9 := Aside0.mk (below_step HB8.out B9)
    clear B9
    go_wp2
    go_ret
    exact ⟨rfl, HB9.out⟩
  · exact absurd HD.out.2.1 hd.1
end Go.Proofs.Ytbddllklagiajaa
