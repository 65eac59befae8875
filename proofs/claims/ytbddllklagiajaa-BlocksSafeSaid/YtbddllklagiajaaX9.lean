/- The walk of BlocksSafe. -/
import Derived.Test.YtbddllklagiajaaX8
namespace Go.Proofs.Ytbddllklagiajaa
open PBlocksEncodes
open Go.RowKit Go.Proofs.YtbddllklagiajaaW.PrintWords Go.Proofs.YtbddllklagiajaaW.PrintLast Go.Proofs.YtbddllklagiajaaW.PrintMore
set_option linter.unusedVariables false
set_option linter.unusedSimpArgs false

set_option maxRecDepth 100000 in
set_option maxHeartbeats 8000000 in
theorem blocksSafe_walk (a b : Int) (A : Option Addr) (n c : Nat) (l : List OpV) (w : World) (ha : 0 ≤ a ∧ a ≤ 65535) (hb : 0 ≤ b ∧ b ≤ 255) (hl : OpsIn w A n l) (hn : n ≤ 9223372036854775807) :
    Calls Try.prog 10 #[.int .u16 a, .int .u8 b, .slice A n c] w fun e w' => e = .returned (.bool true) ∧ Below w.heap.size w w' := by
  have HL := Aside0.mk hl
  clear hl
  go_enter Try.func10, Try.ntmps10
  go_wp2_with fail
  refine (known12_calls w).mono ?_
  rintro e w1 ⟨rfl, B1⟩
  have HB1 := Aside0.mk B1
  have HW1 := Aside0.mk B1.size
  clear B1
  go_wp2_with fail
  refine (play_calls a b A n c l w1 ha hb (HL.out.below HB1.out) hn).mono ?_
  rintro e w2 ⟨g, v, N, st, rfl, hwf, hsl, M2, R2, hN, hg, B2⟩
  obtain ⟨A2, n2, c2, rfl⟩ := R_form' R2
  obtain ⟨first, hfst⟩ : ∃ f, a % 1000 = f := ⟨_, rfl⟩
  rw [hfst] at M2 hwf ⊢
  have hfr : 0 ≤ first ∧ first < 1000 := by omega
  have hcl : st.length ≤ 40 := by rw [hsl]; unfold cntM; omega
  have HM2 := Aside0.mk (M2.fresh (below_alloc (Below.refl w2.heap.size w2) (.cells #[.int .i64 first, .slice A2 n2 c2] 63)))
  have HWF := Aside0.mk hwf
  have HN := Aside0.mk (And.intro hN B2.size)
  have HB2 := Aside0.mk (below_alloc (below_step HB1.out B2) (.cells #[.int .i64 first, .slice A2 n2 c2] 63))
  clear M2 R2 hwf hsl hN B2 HB1 HL hfst
  go_wp2_with fail
  refine (old_calls w1.heap.size g _ first st _ HM2.out HWF.out).mono ?_
  rintro e w3 ⟨vo, rfl, RO, B3⟩
  obtain ⟨AO, nO, cO, rfl⟩ := R_form' RO
  obtain rfl := (Kd.R_reads' RO).1
  rw [World.size_alloc] at RO
  have HM3 := Aside0.mk (HM2.out.fresh B3)
  have HB3 := Aside0.mk (HB2.out.trans (B3.mono HB2.out.size))
  have HRO := Aside0.mk RO
  have HS3 := Aside0.mk B3.size
  clear RO B3 HM2 HB2
  go_wp2_with fail
  refine (used_calls w1.heap.size g _ first st w3 HM3.out HWF.out).mono ?_
  rintro e w4 ⟨vu, rfl, RU, B4⟩
  obtain ⟨AU, nU, cU, rfl⟩ := R_form' RU
  obtain rfl := (Kd.R_reads' RU).1
  have HM4 := Aside0.mk (HM3.out.fresh B4)
  have HB4 := Aside0.mk (below_step HB3.out B4)
  have HRO4 := Aside0.mk (Kd.R_below HRO.out B4)
  have HRU := Aside0.mk RU
  clear RU B4 HM3 HB3 HRO
  go_wp2_with fail
  refine (take_calls w1.heap.size g _ first st w4 HM4.out HWF.out).mono ?_
  rintro e w5 ⟨rfl, M5, F5⟩
  have hw1 : w.heap.size ≤ w1.heap.size := by have := HN.out; have := HW1.out; omega
  have HB5 := Aside0.mk (HB4.out.trans (F5.below (B := w.heap.size) (fun k hk => by omega) HB4.out.size))
  have HM5 := Aside0.mk M5
  have HRO5 := Aside0.mk (Kd.R_reads' (Kd.R_kept (Kd.R_mono (Kd.R_bound HRO4.out) (fun k hk => hk.2.1)) F5.kept (fun k hk hp => by have := HN.out; omega))).2.2
  have HRU5 := Aside0.mk (Kd.R_reads' (Kd.R_kept (Kd.R_mono (Kd.R_bound HRU.out) (fun k hk => hk.2.1)) F5.kept (fun k hk hp => by have := HN.out; have := HS3.out; simp at this; omega))).2.2
  clear M5 F5 HM4 HB4 HRO4 HRU
  by_cases h0 : (0 : Int) ∈ st
  · have ht : takeM first st = (st.set (st.idxOf 0) 2, first + (st.idxOf 0 : Int), 0) := by unfold takeM; rw [if_pos h0]
    rw [ht] at HM5 ⊢
    have hno := take_not_in (first := first) (ss := [1, 3]) h0 (by decide)
    have hnu := take_not_in (first := first) (ss := [1, 2]) h0 (by decide)
    have hlu := take_used (first := first) (ss := [1, 2]) h0 (by decide) (by decide)
    have hix := (take_free (first := first) h0).1
    have hlo : (listM first st [1, 3]).length ≤ 40 := by rw [listM_length]; exact Nat.le_trans List.countP_le_length hcl
    have hlu2 : (listM first st [1, 2]).length ≤ 40 := by rw [listM_length]; exact Nat.le_trans List.countP_le_length hcl
    have hwf5 : WfM first (st.set (st.idxOf 0) 2) := HWF.out.set _ _ (by decide)
    obtain ⟨st5, hst5⟩ : ∃ s, st.set (st.idxOf 0) 2 = s := ⟨_, rfl⟩
    have hl5 : st5.length = st.length := by rw [← hst5]; simp
    obtain ⟨j, hj⟩ : ∃ j, st.idxOf 0 = j := ⟨_, rfl⟩
    rw [hst5] at HM5 hlu hwf5
    rw [hj] at hno hnu hix ⊢
    obtain ⟨lo, hlo2⟩ : ∃ x, listM first st [1, 3] = x := ⟨_, rfl⟩
    obtain ⟨lu, hlu3⟩ : ∃ x, listM first st [1, 2] = x := ⟨_, rfl⟩
    rw [hlo2] at hno hlo HRO5 ⊢
    rw [hlu3] at hnu hlu2 hlu HRU5 ⊢
    clear ht h0 hst5 hj hlo2 hlu3
    have HNO := Aside0.mk hno
    have HNU := Aside0.mk hnu
    have HLU := Aside0.mk hlu
    have HL5 := Aside0.mk hl5
    have HW5 := Aside0.mk hwf5
    clear hno hnu hlu hl5 hwf5
    go_wp2
    go_loopw [14] (fun i wr => ∃ k : Nat, k ≤ lo.length ∧ i = .int .i64 k ∧ wr = w5) (fun i _ => lo.length - (intOf i).toNat)
    case atStart => exact ⟨0, Nat.zero_le _, rfl, rfl⟩
    case round =>
      obtain ⟨k, hk, rfl, rfl⟩ := hrel
      by_cases hlt : k < lo.length
      · obtain ⟨ad, e, hx⟩ := Kd.at_int HRO5.out k (by omega) (by omega)
        subst e
        rw [mg_rd, Int.toNat_natCast] at hx
        have hne : lo.getD k 0 ≠ first + (j : Int) := by
          intro e
          refine HNO.out ?_
          rw [← e, List.getD_eq_getElem?_getD, List.getElem?_eq_getElem hlt]
          exact List.getElem_mem _
        have hbn : (lo.getD k 0 == first + (j : Int)) = false := beq_eq_false_iff_ne.mpr hne
        obtain ⟨x, hxx⟩ : ∃ x, lo.getD k 0 = x := ⟨_, rfl⟩
        rw [hxx] at hx hbn
        clear hne hxx
        go_wp2
        go_roundw
        case rel => exact ⟨k + 1, by omega, by go_num, by trivial⟩
        case measure => simp [intOf]; omega
      · obtain rfl : k = lo.length := by omega
        clear hlt hk
        go_wp2
        go_loopw [15] (fun i wq => ∃ k : Nat, k ≤ lu.length ∧ i = .int .i64 k ∧ wq = wr) (fun i _ => lu.length - (intOf i).toNat)
        case atStart => exact ⟨0, Nat.zero_le _, rfl, rfl⟩
        case round =>
          obtain ⟨k, hk, rfl, rfl⟩ := hrel
          by_cases hlt : k < lu.length
          · obtain ⟨ad, e, hx⟩ := Kd.at_int HRU5.out k (by omega) (by omega)
            subst e
            rw [mg_rd, Int.toNat_natCast] at hx
            have hne : lu.getD k 0 ≠ first + (j : Int) := by
              intro e
              refine HNU.out ?_
              rw [← e, List.getD_eq_getElem?_getD, List.getElem?_eq_getElem hlt]
              exact List.getElem_mem _
            have hbn : (lu.getD k 0 == first + (j : Int)) = false := beq_eq_false_iff_ne.mpr hne
            obtain ⟨x, hxx⟩ : ∃ x, lu.getD k 0 = x := ⟨_, rfl⟩
            rw [hxx] at hx hbn
            clear hne hxx
            go_wp2
            go_roundw
            case rel => exact ⟨k + 1, by omega, by go_num, by trivial⟩
            case measure => simp [intOf]; omega
          · obtain rfl : k = lu.length := by omega
            clear hlt hk
            have hj5 : j < st5.length := by have := HL5.out; omega
            have d1 : decide (first ≤ first + (j : Int)) = true := decide_eq_true (by omega)
            have hws : IntKind.i64.wrap (first + (st5.length : Int)) = first + (st5.length : Int) := by have := HL5.out; rw [IntKind.wrap_i64]; omega
            have d2 : decide (first + (j : Int) < first + (st5.length : Int)) = true := decide_eq_true (by have := HL5.out; omega)
            have hle : ((listM first st5 [1, 2]).length : Int) = (lu.length : Int) + 1 := by have := HLU.out; omega
            have hwl : IntKind.i64.wrap ((lu.length : Int) + 1) = (lu.length : Int) + 1 := by rw [IntKind.wrap_i64]; omega
            go_wp2_with fail
            refine (first_calls w1.heap.size g _ first st5 _ HM5.out).mono ?_
            rintro e w6 ⟨rfl, rfl⟩
            go_wp2_with fail
            refine (first_calls w1.heap.size g _ first st5 _ HM5.out).mono ?_
            rintro e w6 ⟨rfl, rfl⟩
            go_wp2_with fail
            refine (count_calls w1.heap.size g _ first st5 _ HM5.out).mono ?_
            rintro e w6 ⟨rfl, rfl⟩
            go_wp2_with fail
            refine (used_calls w1.heap.size g _ first st5 _ HM5.out HW5.out).mono ?_
            rintro e w6 ⟨v6, rfl, R6, B6⟩
            obtain ⟨A6, n6, c6, rfl⟩ := R_form' R6
            obtain rfl := (Kd.R_reads' R6).1
            have HB6 := Aside0.mk (below_step HB5.out B6)
            clear R6 B6
            go_wp2
            go_ret
            exact ⟨rfl, HB6.out⟩
  · have ht : takeM first st = (st, 0, 26) := by unfold takeM; rw [if_neg h0]
    rw [ht] at HM5 ⊢
    have hz : numM st 0 = 0 := numM_zero h0
    have HNB := Aside0.mk (number_calls w1.heap.size g _ first st w5 HM5.out HWF.out 0)
    rw [hz] at HNB
    clear ht h0 hz
    go_wp2_with fail
    refine HNB.out.mono ?_
    rintro e w6 ⟨rfl, B6⟩
    have HB6 := Aside0.mk (below_step HB5.out B6)
    clear B6
    go_wp2
    go_ret
    exact ⟨rfl, HB6.out⟩
end Go.Proofs.Ytbddllklagiajaa
