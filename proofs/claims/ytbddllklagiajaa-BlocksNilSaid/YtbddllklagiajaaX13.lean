/- The walk of BlocksNil. -/
import Derived.Test.YtbddllklagiajaaX12
namespace Go.Proofs.Ytbddllklagiajaa
open PBlocksEncodes
open Go.RowKit Go.Proofs.YtbddllklagiajaaW.PrintWords Go.Proofs.YtbddllklagiajaaW.PrintLast Go.Proofs.YtbddllklagiajaaW.PrintMore
set_option linter.unusedVariables false
set_option linter.unusedSimpArgs false

set_option maxRecDepth 100000 in
set_option maxHeartbeats 8000000 in
theorem blocksNil_walk (a b x : Int) (w : World) (ha : 0 ≤ a ∧ a ≤ 65535) (hb : 0 ≤ b ∧ b ≤ 255) (hx : -9223372036854775808 ≤ x ∧ x ≤ 9223372036854775807) :
    Calls Try.prog 16 #[.int .u16 a, .int .u8 b, .int .i64 x] w fun e w' => e = .returned (.bool true) ∧ Below w.heap.size w w' := by
  go_enter Try.func16, Try.ntmps16
  go_wp2_with fail
  refine (known12_calls w).mono ?_
  rintro e w1 ⟨rfl, B1⟩
  have HB1 := Aside0.mk B1
  clear B1
  go_wp2_with fail
  refine (begin_calls a b w1 ha hb).mono ?_
  rintro e w2 ⟨g, v, N, rfl, M2, R2, hN, hg, B2⟩
  obtain ⟨A2, n2, c2, rfl⟩ := R_form' R2
  have hwf := begin_ok a b ha hb
  have hcn : 1 ≤ cntM b ∧ cntM b ≤ 40 := by unfold cntM; omega
  have hn2 : n2 = cntM b := by have := (Kd.R_reads' R2).1; rw [List.length_replicate] at this; exact this
  subst hn2
  obtain ⟨first, hfst⟩ : ∃ f, a % 1000 = f := ⟨_, rfl⟩
  obtain ⟨n, hnn⟩ : ∃ n, cntM b = n := ⟨_, rfl⟩
  rw [hfst, hnn] at M2 hwf
  rw [hnn] at hcn
  rw [hfst, hnn]
  have hfr : 0 ≤ first ∧ first < 1000 := by omega
  have HM2 := Aside0.mk (M2.fresh (below_alloc (Below.refl w2.heap.size w2) (.cells #[.int .i64 first, .slice A2 n c2] 63)))
  have HWF := Aside0.mk hwf
  have HB2 := Aside0.mk (below_alloc (below_step HB1.out B2) (.cells #[.int .i64 first, .slice A2 n c2] 63))
  have HP := Aside0.mk (show w.heap.size ≤ w1.heap.size from HB1.out.size)
  clear M2 R2 hwf hN B2 HB1 hfst hnn
  obtain ⟨w3, hw3⟩ : ∃ w3, w2.alloc (.cells #[.int .i64 first, .slice A2 n c2] 63) = w3 := ⟨_, rfl⟩
  have x0 : w3.cell? ⟨w2.heap.size, 0, none⟩ = some (.int .i64 first) := by rw [← hw3]; exact blk_cell (blk_new w2 _) 0
  have x1 : w3.cell? ⟨w2.heap.size, 1, none⟩ = some (.slice A2 n c2) := by rw [← hw3]; exact blk_cell (blk_new w2 _) 1
  rw [hw3] at HM2 HB2
  have HW3 := Aside0.mk hw3
  clear hw3 x0 x1
  have hwl : IntKind.i64.wrap (first + (n : Int)) = first + (n : Int) := by rw [IntKind.wrap_i64]; omega
  have HST := Aside0.mk (state_calls w1.heap.size g _ first _ w3 HM2.out x hfr.1 hx.2 HWF.out.2.2.2.2)
  have HGI := Aside0.mk (fun m => give_calls w1.heap.size g _ first _ (w3.drewN m) (HM2.out.frm ((Frm.refl w3 (fun _ => False)).drewN m) (fun h => h) (fun _ _ h => h)) x hfr.1 hx.2 HWF.out.2.2.2.2)
  by_cases hin : inM first n x
  · have p1 : first ≤ x := hin.1
    have p2 : x < first + (n : Int) := by have := hin.2; omega
    have hsm : stateM first (List.replicate n 0) x = (0, 0) := by
      unfold stateM
      rw [if_pos (by rw [List.length_replicate]; exact hin), List.getD_eq_getElem?_getD, List.getElem?_replicate]
      split <;> rfl
    have hgm : giveM first (List.replicate n 0) x = (List.replicate n 0, 10) := by
      have h0 : (List.replicate n (0 : Int)).getD (x - first).toNat 0 = 0 := by rw [List.getD_eq_getElem?_getD, List.getElem?_replicate]; split <;> rfl
      unfold giveM
      rw [if_pos (by rw [List.length_replicate]; exact hin), h0, if_neg (by decide), if_neg (by decide)]
    rw [hsm] at HST
    rw [hgm] at HGI
    clear hsm hgm hin
    go_wp2_with fail
    rw [HW3.out]
    refine HST.out.mono ?_
    rintro e w4 ⟨rfl, m, rfl⟩
    go_wp2_with fail
    refine (HGI.out m).mono ?_
    rintro e w5 ⟨rfl, M5, F5⟩
    have HB5 := Aside0.mk ((pw_below_drewN HB2.out m).trans (F5.below (B := w.heap.size) (fun k hk => Nat.le_trans HP.out hk.1) HB2.out.size))
    clear M5 F5
    go_wp2_with fail
    refine (state_nil x _).mono ?_
    rintro e wz ⟨rfl, rfl⟩
    go_wp2_with fail
    refine (take_nil _).mono ?_
    rintro e w6 ⟨rfl, B⟩
    have HB6 := Aside0.mk (below_step HB5.out B)
    clear B HB5
    go_wp2_with fail
    refine (give_nil x _).mono ?_
    rintro e wz ⟨rfl, rfl⟩
    go_wp2_with fail
    refine (commit_nil _).mono ?_
    rintro e w7 ⟨rfl, B⟩
    have HB7 := Aside0.mk (below_step HB6.out B)
    clear B HB6
    go_wp2_with fail
    refine (abort_nil _).mono ?_
    rintro e w8 ⟨rfl, B⟩
    have HB8 := Aside0.mk (below_step HB7.out B)
    clear B HB7
    go_wp2_with fail
    refine (first_nil _).mono ?_
    rintro e wz ⟨rfl, rfl⟩
    go_wp2_with fail
    refine (count_nil _).mono ?_
    rintro e wz ⟨rfl, rfl⟩
    go_wp2_with fail
    refine (number_nil 0 _).mono ?_
    rintro e w9 ⟨rfl, B⟩
    have HB9 := Aside0.mk (below_step HB8.out B)
    clear B HB8
    go_wp2_with fail
    refine (used_nil _).mono ?_
    rintro e w10 ⟨rfl, B⟩
    have HB10 := Aside0.mk (below_step HB9.out B)
    clear B HB9
    go_wp2_with fail
    refine (old_nil _).mono ?_
    rintro e w11 ⟨rfl, B⟩
    have HB11 := Aside0.mk (below_step HB10.out B)
    clear B HB10
    go_wp2_with fail
    refine (encode_nil _).mono ?_
    rintro e w12 ⟨rfl, B⟩
    have HB12 := Aside0.mk (below_step HB11.out B)
    clear B HB11
    go_wp2_with fail
    refine (clone_nil _).mono ?_
    rintro e wz ⟨rfl, rfl⟩
    go_wp2_with fail
    refine (equal_nil2 _).mono ?_
    rintro e wz ⟨rfl, rfl⟩
    go_wp2_with fail
    refine (equal_nil_l g _).mono ?_
    rintro e wz ⟨rfl, rfl⟩
    go_wp2_with fail
    refine (equal_nil_r g _).mono ?_
    rintro e wz ⟨rfl, rfl⟩
    go_wp2
    go_ret
    exact ⟨rfl, HB12.out⟩
  · have hsm : stateM first (List.replicate n 0) x = (0, 2) := by
      unfold stateM
      rw [if_neg (by rw [List.length_replicate]; exact hin)]
    have hgm : giveM first (List.replicate n 0) x = (List.replicate n 0, 2) := by
      unfold giveM
      rw [if_neg (by rw [List.length_replicate]; exact hin)]
    rw [hsm] at HST
    rw [hgm] at HGI
    clear hsm hgm
    by_cases q1 : first ≤ x
    · have q2 : first + (n : Int) ≤ x := by unfold inM at hin; omega
      clear hin
      go_wp2_with fail
      rw [HW3.out]
      refine HST.out.mono ?_
      rintro e w4 ⟨rfl, m, rfl⟩
      go_wp2_with fail
      refine (HGI.out m).mono ?_
      rintro e w5 ⟨rfl, M5, F5⟩
      have HB5 := Aside0.mk ((pw_below_drewN HB2.out m).trans (F5.below (B := w.heap.size) (fun k hk => Nat.le_trans HP.out hk.1) HB2.out.size))
      clear M5 F5
      go_wp2_with fail
      refine (state_nil x _).mono ?_
      rintro e wz ⟨rfl, rfl⟩
      go_wp2_with fail
      refine (take_nil _).mono ?_
      rintro e w6 ⟨rfl, B⟩
      have HB6 := Aside0.mk (below_step HB5.out B)
      clear B HB5
      go_wp2_with fail
      refine (give_nil x _).mono ?_
      rintro e wz ⟨rfl, rfl⟩
      go_wp2_with fail
      refine (commit_nil _).mono ?_
      rintro e w7 ⟨rfl, B⟩
      have HB7 := Aside0.mk (below_step HB6.out B)
      clear B HB6
      go_wp2_with fail
      refine (abort_nil _).mono ?_
      rintro e w8 ⟨rfl, B⟩
      have HB8 := Aside0.mk (below_step HB7.out B)
      clear B HB7
      go_wp2_with fail
      refine (first_nil _).mono ?_
      rintro e wz ⟨rfl, rfl⟩
      go_wp2_with fail
      refine (count_nil _).mono ?_
      rintro e wz ⟨rfl, rfl⟩
      go_wp2_with fail
      refine (number_nil 0 _).mono ?_
      rintro e w9 ⟨rfl, B⟩
      have HB9 := Aside0.mk (below_step HB8.out B)
      clear B HB8
      go_wp2_with fail
      refine (used_nil _).mono ?_
      rintro e w10 ⟨rfl, B⟩
      have HB10 := Aside0.mk (below_step HB9.out B)
      clear B HB9
      go_wp2_with fail
      refine (old_nil _).mono ?_
      rintro e w11 ⟨rfl, B⟩
      have HB11 := Aside0.mk (below_step HB10.out B)
      clear B HB10
      go_wp2_with fail
      refine (encode_nil _).mono ?_
      rintro e w12 ⟨rfl, B⟩
      have HB12 := Aside0.mk (below_step HB11.out B)
      clear B HB11
      go_wp2_with fail
      refine (clone_nil _).mono ?_
      rintro e wz ⟨rfl, rfl⟩
      go_wp2_with fail
      refine (equal_nil2 _).mono ?_
      rintro e wz ⟨rfl, rfl⟩
      go_wp2_with fail
      refine (equal_nil_l g _).mono ?_
      rintro e wz ⟨rfl, rfl⟩
      go_wp2_with fail
      refine (equal_nil_r g _).mono ?_
      rintro e wz ⟨rfl, rfl⟩
      go_wp2
      go_ret
      exact ⟨rfl, HB12.out⟩
    · have q3 : x < first := by omega
      clear hin
      go_wp2_with fail
      rw [HW3.out]
      refine HST.out.mono ?_
      rintro e w4 ⟨rfl, m, rfl⟩
      go_wp2_with fail
      refine (HGI.out m).mono ?_
      rintro e w5 ⟨rfl, M5, F5⟩
      have HB5 := Aside0.mk ((pw_below_drewN HB2.out m).trans (F5.below (B := w.heap.size) (fun k hk => Nat.le_trans HP.out hk.1) HB2.out.size))
      clear M5 F5
      go_wp2_with fail
      refine (state_nil x _).mono ?_
      rintro e wz ⟨rfl, rfl⟩
      go_wp2_with fail
      refine (take_nil _).mono ?_
      rintro e w6 ⟨rfl, B⟩
      have HB6 := Aside0.mk (below_step HB5.out B)
      clear B HB5
      go_wp2_with fail
      refine (give_nil x _).mono ?_
      rintro e wz ⟨rfl, rfl⟩
      go_wp2_with fail
      refine (commit_nil _).mono ?_
      rintro e w7 ⟨rfl, B⟩
      have HB7 := Aside0.mk (below_step HB6.out B)
      clear B HB6
      go_wp2_with fail
      refine (abort_nil _).mono ?_
      rintro e w8 ⟨rfl, B⟩
      have HB8 := Aside0.mk (below_step HB7.out B)
      clear B HB7
      go_wp2_with fail
      refine (first_nil _).mono ?_
      rintro e wz ⟨rfl, rfl⟩
      go_wp2_with fail
      refine (count_nil _).mono ?_
      rintro e wz ⟨rfl, rfl⟩
      go_wp2_with fail
      refine (number_nil 0 _).mono ?_
      rintro e w9 ⟨rfl, B⟩
      have HB9 := Aside0.mk (below_step HB8.out B)
      clear B HB8
      go_wp2_with fail
      refine (used_nil _).mono ?_
      rintro e w10 ⟨rfl, B⟩
      have HB10 := Aside0.mk (below_step HB9.out B)
      clear B HB9
      go_wp2_with fail
      refine (old_nil _).mono ?_
      rintro e w11 ⟨rfl, B⟩
      have HB11 := Aside0.mk (below_step HB10.out B)
      clear B HB10
      go_wp2_with fail
      refine (encode_nil _).mono ?_
      rintro e w12 ⟨rfl, B⟩
      have HB12 := Aside0.mk (below_step HB11.out B)
      clear B HB11
      go_wp2_with fail
      refine (clone_nil _).mono ?_
      rintro e wz ⟨rfl, rfl⟩
      go_wp2_with fail
      refine (equal_nil2 _).mono ?_
      rintro e wz ⟨rfl, rfl⟩
      go_wp2_with fail
      refine (equal_nil_l g _).mono ?_
      rintro e wz ⟨rfl, rfl⟩
      go_wp2_with fail
      refine (equal_nil_r g _).mono ?_
      rintro e wz ⟨rfl, rfl⟩
      go_wp2
      go_ret
      exact ⟨rfl, HB12.out⟩
end Go.Proofs.Ytbddllklagiajaa
