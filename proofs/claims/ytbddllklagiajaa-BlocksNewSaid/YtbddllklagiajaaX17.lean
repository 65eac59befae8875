/- The walk of BlocksNew. -/
import Derived.Test.YtbddllklagiajaaX16
namespace Go.Proofs.Ytbddllklagiajaa
open Go.RowKit Go.Proofs.YtbddllklagiajaaW.PrintWords Go.Proofs.YtbddllklagiajaaW.PrintLast Go.Proofs.YtbddllklagiajaaW.PrintMore
set_option linter.unusedVariables false
set_option linter.unusedSimpArgs false

set_option maxRecDepth 100000 in
set_option maxHeartbeats 8000000 in
theorem blocksNew_walk (first count : Int) (A : Option Addr) (n c : Nat) (us : List Int) (w : World) (hl : us.length = n) (hC : KI.C w A n us) (hc : n ≤ c) (hus : ∀ b ∈ us, b ≤ 9223372036854775807) :
    Calls Try.prog 14 #[.int .i64 first, .int .i64 count, .slice A n c] w fun e w' => e = .returned (.bool true) ∧ Below w.heap.size w w' := by
  have HC := Aside0.mk (fun W (hW : Below w.heap.size w W) => Kd.C_below hC hW)
  have HU := Aside0.mk hus
  subst hl
  clear hC hus
  by_cases h50 : 50 < us.length
  · go_enter Try.func14, Try.ntmps14
    go_wp2_with fail
    refine (known12_calls w).mono ?_
    rintro e w1 ⟨rfl, B1⟩
    have HB1 := Aside0.mk B1
    clear B1
    go_wp2_with fail
    refine (known12_calls _).mono ?_
    rintro e w2 ⟨rfl, B2⟩
    have HB2 := Aside0.mk (below_step HB1.out B2)
    clear B2
    go_wp2
    go_ret
    exact ⟨rfl, HB2.out⟩
  · by_cases hcb : 300 < count ∧ count ≤ 65536
    · obtain ⟨hc1, hc2⟩ := hcb
      go_enter Try.func14, Try.ntmps14
      go_wp2_with fail
      refine (known12_calls w).mono ?_
      rintro e w1 ⟨rfl, B1⟩
      have HB1 := Aside0.mk B1
      clear B1
      go_wp2_with fail
      refine (known12_calls _).mono ?_
      rintro e w2 ⟨rfl, B2⟩
      have HB2 := Aside0.mk (below_step HB1.out B2)
      clear B2
      go_wp2
      go_ret
      exact ⟨rfl, HB2.out⟩
    · have hc3 : count ≤ 300 ∨ 65536 < count := by omega
      by_cases hok : okRange first count
      · have hc4 : count ≤ 300 := by have := hok.2.2.2; omega
        obtain ⟨cnt, hcnt⟩ : ∃ cnt : Nat, count = cnt := ⟨count.toNat, by have := hok.2.2.1; omega⟩
        subst hcnt
        have hf1 : 0 ≤ first ∧ first ≤ 1073741824 := ⟨hok.1, hok.2.1⟩
        have hcn : 1 ≤ cnt ∧ cnt ≤ 300 := by have := hok.2.2.1; omega
        have hwf : WfM first (List.replicate cnt 0) := ⟨hf1.1, hf1.2, by rw [List.length_replicate]; omega, by rw [List.length_replicate]; omega, fun s hs => by rw [List.eq_of_mem_replicate hs]; decide⟩
        have HRL := Aside0.mk (refLoad_ok first cnt us hok (by omega) HU.out)
        have HNF := Aside0.mk (new_f first cnt ⟨hf1.1, hf1.2, by omega, by omega⟩)
        have hwl := hwf.loadS (us := us)
        have HOK := Aside0.mk hok
        have HWF := Aside0.mk hwf
        have HLD := Aside0.mk (fun W (hW : Below w.heap.size w W) => load_calls first cnt A us.length c us W HOK.out rfl (HC.out W hW) (by omega) HU.out)
        obtain ⟨⟨st, er⟩, hres⟩ : ∃ r, loadS first (List.replicate cnt 0) us = r := ⟨_, rfl⟩
        rw [hres] at HLD HRL hwl
        have HWL := Aside0.mk hwl
        clear hc3 hcb hok hwf hres hwl
        dsimp only at HLD HWL
        go_enter Try.func14, Try.ntmps14
        go_wp2_with fail
        refine (known12_calls w).mono ?_
        rintro e w1 ⟨rfl, B1⟩
        have HB1 := Aside0.mk B1
        clear B1
        go_wp2_with fail
        refine (new_ok first cnt w1 HOK.out).mono ?_
        rintro e w2 ⟨g, rfl, M2, hg, B2⟩
        have HM2 := Aside0.mk M2
        have HB2 := Aside0.mk (below_step HB1.out B2)
        clear M2 B2 HB1
        go_wp2_with fail
        refine (PBlocksEncodes.replevinref12_New.calls first (cnt : Int) _ _ _ w2 HNF.out).mono ?_
        rintro e w3 ⟨v3, rfl, R3, B3⟩
        obtain ⟨A3, n3, c3, rfl⟩ := R_form' R3
        have b9 := blk_new w3 (.cells #[.int .i64 first, .slice A3 n3 c3] 63)
        have B4 := below_alloc B3 (.cells #[.int .i64 first, .slice A3 n3 c3] 63)
        have HM4 := Aside0.mk (HM2.out.fresh B4)
        have HR4 := Aside0.mk (Kd.R_alloc R3 (.cells #[.int .i64 first, .slice A3 n3 c3] 63))
        have HB4 := Aside0.mk (below_step HB2.out B4)
        have HX4 := Aside0.mk b9
        clear R3 B3 B4 b9 HM2 HB2
        go_wp2_with fail
        refine (HLD.out _ HB4.out).mono ?_
        rintro e w5 ⟨hld, B5⟩
        have HM5 := Aside0.mk (HM4.out.fresh B5)
        have HR5 := Aside0.mk (Kd.R_below HR4.out B5)
        have HX5 := Aside0.mk ((B5.block _ (blk_lt HX4.out)).trans HX4.out)
        have HB5 := Aside0.mk (HB4.out.trans (B5.mono HB4.out.size))
        clear B5 HM4 HR4 HX4 HB4
        rcases hld with ⟨he, g2, rfl, M5⟩ | ⟨he, rfl⟩
        · subst he
          have HRS : Aside0 (PBlocksNew.replevinref12_Load.f (us.length + 1) first cnt us = some (first, st, 0)) := Aside0.mk (by have := HRL.out; simpa [outS] using this)
          have HN5 := Aside0.mk M5
          clear M5
          go_wp2_with fail
          refine (PBlocksNew.replevinref12_Load.calls (us.length + 1) first cnt A c us _ _ _ w5 (HC.out w5 HB5.out) hc HRS.out).mono ?_
          rintro e w6 ⟨v6, rfl, R6, B6⟩
          obtain ⟨A6, n6, c6, rfl⟩ := R_form' R6
          have B7 := below_alloc B6 (.cells #[.int .i64 first, .slice A6 n6 c6] 63)
          have b13 := blk_new w6 (.cells #[.int .i64 first, .slice A6 n6 c6] 63)
          have HM7 := Aside0.mk (HM5.out.fresh B7)
          have HR7 := Aside0.mk (Kd.R_below HR5.out B7)
          have k9 := (B7.block _ (blk_lt HX5.out)).trans HX5.out
          have HB7 := Aside0.mk (below_step HB5.out B7)
          have HY7 := Aside0.mk b13
          have x0 : (w6.alloc (.cells #[.int .i64 first, .slice A6 n6 c6] 63)).cell? ⟨w3.heap.size, 0, none⟩ = some (.int .i64 first) := blk_cell k9 0
          have x1 : (w6.alloc (.cells #[.int .i64 first, .slice A6 n6 c6] 63)).cell? ⟨w3.heap.size, 1, none⟩ = some (.slice A3 n3 c3) := blk_cell k9 1
          clear k9
          have HN7 := Aside0.mk (HN5.out.fresh B7)
          have HR8 := Aside0.mk (Kd.R_alloc R6 (.cells #[.int .i64 first, .slice A6 n6 c6] 63))
          clear R6 B6 B7 b13 HM5 HR5 HX5 HB5 HN5
          go_wp2_with fail
          refine (same_calls _ g _ _ _ first _ A3 n3 c3 _ HM7.out HWF.out HR7.out).mono ?_
          rintro e w8 ⟨rfl, B8⟩
          have k13 := (B8.block _ (blk_lt HY7.out)).trans HY7.out
          have y0 : w8.cell? ⟨w6.heap.size, 0, none⟩ = some (.int .i64 first) := blk_cell k13 0
          have y1 : w8.cell? ⟨w6.heap.size, 1, none⟩ = some (.slice A6 n6 c6) := blk_cell k13 1
          have HSM := Aside0.mk (same_calls _ g2 _ _ _ first st A6 n6 c6 w8 (HN7.out.fresh B8) HWL.out (Kd.R_below HR8.out B8))
          have HB8 := Aside0.mk (HB7.out.trans (B8.mono HB7.out.size))
          clear k13 B8 x0 x1
          go_wp2_with fail
          refine HSM.out.mono ?_
          rintro e w9 ⟨rfl, B9⟩
          have HB9 := Aside0.mk (below_step HB8.out B9)
          clear B9
          go_wp2
          go_ret
          exact ⟨rfl, HB9.out⟩
        · have hbe : (er == 0) = false := beq_eq_false_iff_ne.mpr he
          have hbf : (er != 0) = true := by simp [bne, hbe]
          have HRS : Aside0 (PBlocksNew.replevinref12_Load.f (us.length + 1) first cnt us = some (0, [], er)) := Aside0.mk (by have := HRL.out; simpa [outS, he] using this)
          go_wp2_with fail
          refine (PBlocksNew.replevinref12_Load.calls (us.length + 1) first cnt A c us _ _ _ w5 (HC.out w5 HB5.out) hc HRS.out).mono ?_
          rintro e w6 ⟨v6, rfl, R6, B6⟩
          obtain ⟨A6, n6, c6, rfl⟩ := R_form' R6
          have B7 := below_alloc B6 (.cells #[.int .i64 0, .slice A6 n6 c6] 63)
          have b13 := blk_new w6 (.cells #[.int .i64 0, .slice A6 n6 c6] 63)
          have HM7 := Aside0.mk (HM5.out.fresh B7)
          have HR7 := Aside0.mk (Kd.R_below HR5.out B7)
          have k9 := (B7.block _ (blk_lt HX5.out)).trans HX5.out
          have HB7 := Aside0.mk (below_step HB5.out B7)
          have HY7 := Aside0.mk b13
          have x0 : (w6.alloc (.cells #[.int .i64 0, .slice A6 n6 c6] 63)).cell? ⟨w3.heap.size, 0, none⟩ = some (.int .i64 first) := blk_cell k9 0
          have x1 : (w6.alloc (.cells #[.int .i64 0, .slice A6 n6 c6] 63)).cell? ⟨w3.heap.size, 1, none⟩ = some (.slice A3 n3 c3) := blk_cell k9 1
          clear k9
          clear R6 B6 B7 b13 HM5 HR5 HX5 HB5
          go_wp2_with fail
          refine (same_calls _ g _ _ _ first _ A3 n3 c3 _ HM7.out HWF.out HR7.out).mono ?_
          rintro e w8 ⟨rfl, B8⟩
          have HB8 := Aside0.mk (HB7.out.trans (B8.mono HB7.out.size))
          clear B8 x0 x1
          go_wp2
          go_ret
          exact ⟨rfl, HB8.out⟩
      · have hnf := new_f_bad first count (fun hh => hok hh)
        have HNF := Aside0.mk hnf
        have HRL := Aside0.mk (refLoad_bad first count us hok)
        have HNB := Aside0.mk (fun W => new_bad first count W hok)
        have HLB := Aside0.mk (fun v W => load_bad first count v W hok)
        clear hnf hok
        rcases hc3 with hc3 | hc3
        all_goals
          clear hcb
          go_enter Try.func14, Try.ntmps14
          go_wp2_with fail
          refine (known12_calls w).mono ?_
          rintro e w1 ⟨rfl, B1⟩
          have HB1 := Aside0.mk B1
          clear B1
          go_wp2_with fail
          refine (HNB.out w1).mono ?_
          rintro e w2 ⟨rfl, rfl⟩
          go_wp2_with fail
          refine (PBlocksEncodes.replevinref12_New.calls first count _ _ _ w2 HNF.out).mono ?_
          rintro e w3 ⟨v3, rfl, R3, B3⟩
          obtain ⟨A3, n3, c3, rfl⟩ := R_form' R3
          have HB4 := Aside0.mk (below_step HB1.out (below_alloc B3 (.cells #[.int .i64 0, .slice A3 n3 c3] 63)))
          clear R3 B3 HB1
          go_wp2_with fail
          refine (HLB.out _ _).mono ?_
          rintro e w5 ⟨rfl, rfl⟩
          go_wp2_with fail
          refine (PBlocksNew.replevinref12_Load.calls (us.length + 1) first count A c us _ _ _ _ (HC.out _ HB4.out) hc HRL.out).mono ?_
          rintro e w6 ⟨v6, rfl, R6, B6⟩
          obtain ⟨A6, n6, c6, rfl⟩ := R_form' R6
          have HB6 := Aside0.mk (below_alloc (HB4.out.trans (B6.mono HB4.out.size)) (.cells #[.int .i64 0, .slice A6 n6 c6] 63))
          clear R6 B6
          go_wp2
          go_ret
          exact ⟨rfl, HB6.out⟩
end Go.Proofs.Ytbddllklagiajaa
