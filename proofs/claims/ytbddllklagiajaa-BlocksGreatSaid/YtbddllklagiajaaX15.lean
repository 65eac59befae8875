/- The walk of BlocksGreat. -/
import Derived.Test.YtbddllklagiajaaX14
namespace Go.Proofs.Ytbddllklagiajaa
open Go.RowKit Go.Proofs.YtbddllklagiajaaW.PrintWords Go.Proofs.YtbddllklagiajaaW.PrintLast Go.Proofs.YtbddllklagiajaaW.PrintMore
set_option linter.unusedVariables false
set_option linter.unusedSimpArgs false

theorem rep0 (n i : Nat) : (List.replicate n (0 : Int)).getD i 0 = 0 := by
  rw [List.getD_eq_getElem?_getD, List.getElem?_replicate]
  split <;> rfl
theorem great_load (f : Int) (n : Nat) (hn : 1 ≤ n) : loadS f (List.replicate n 0) [f + ((n - 1 : Nat) : Int)] = ((List.replicate n 0).set (n - 1) 1, 0) := by
  have e : (f + ((n - 1 : Nat) : Int) - f).toNat = n - 1 := by omega
  unfold loadS
  rw [if_pos (by unfold inM; rw [List.length_replicate]; omega), e, if_pos (rep0 _ _)]
  unfold loadS
  rfl
theorem getD_set_same (l : List Int) (i : Nat) (v : Int) (h : i < l.length) : (l.set i v).getD i 0 = v := by
  rw [List.getD_eq_getElem?_getD, List.getElem?_set_self h]; rfl
theorem getD_set_other (l : List Int) (i j : Nat) (v : Int) (h : i ≠ j) : (l.set i v).getD j 0 = l.getD j 0 := by
  rw [List.getD_eq_getElem?_getD, List.getElem?_set_ne h, ← List.getD_eq_getElem?_getD]
theorem great_take (f : Int) (n : Nat) (hn : 2 ≤ n) : takeM f ((List.replicate n 0).set (n - 1) 1) = (((List.replicate n 0).set (n - 1) 1).set 0 2, f, 0) := by
  have h0 : ((List.replicate n (0 : Int)).set (n - 1) 1).getD 0 0 = 0 := by rw [getD_set_other _ _ _ _ (by omega)]; exact rep0 _ _
  obtain ⟨hm, hi⟩ := idx_of_notin (l := (List.replicate n (0 : Int)).set (n - 1) 1) (v := 0) (k := 0) (by rw [List.length_set, List.length_replicate]; omega) (by simp) h0
  unfold takeM
  rw [if_pos hm, hi]
  simp
theorem great_num (n : Nat) (hn : 2 ≤ n) : numM (((List.replicate n 0).set (n - 1) 1).set 0 2) 0 = n - 2 := by
  have h1 : (List.replicate n (0 : Int)).countP (fun s => decide (s ≠ 0)) = 0 := by
    rw [List.countP_eq_zero]
    intro x hx
    rw [List.eq_of_mem_replicate hx]
    decide
  have h2 := countP_set (fun s => decide (s ≠ 0)) (List.replicate n 0) (n - 1) 1 (by rw [List.length_replicate]; omega) (by rw [rep0]; rfl) (by decide)
  have h3 := countP_set (fun s => decide (s ≠ 0)) ((List.replicate n 0).set (n - 1) 1) 0 2 (by rw [List.length_set, List.length_replicate]; omega) (by rw [getD_set_other _ _ _ _ (by omega), rep0]; rfl) (by decide)
  have h4 := List.length_eq_countP_add_countP (fun s : Int => decide (s ≠ 0)) (l := ((List.replicate n 0).set (n - 1) 1).set 0 2)
  have h5 : (((List.replicate n (0 : Int)).set (n - 1) 1).set 0 2).countP (fun a => decide (¬ (decide (a ≠ 0)) = true)) = numM (((List.replicate n 0).set (n - 1) 1).set 0 2) 0 := by
    unfold numM List.count
    congr 1
    funext x
    rw [Bool.eq_iff_iff]
    simp
  rw [h5] at h4
  simp only [List.length_set, List.length_replicate] at h4
  omega

set_option maxRecDepth 100000 in
set_option maxHeartbeats 8000000 in
theorem blocksGreat_walk (a : Int) (w : World) (ha : 0 ≤ a ∧ a ≤ 65535) :
    Calls Try.prog 12 #[.int .u16 a] w fun e w' => e = .returned (.bool true) ∧ Below w.heap.size w w' := by
  obtain ⟨n, hn⟩ : ∃ n : Nat, n = 65536 := ⟨_, rfl⟩
  have hni : (65536 : Int) = (n : Int) := by rw [hn]; rfl
  have hn65 : (65534 : Int) = ((n - 2 : Nat) : Int) := by rw [hn]; rfl
  have h2 : 2 ≤ n := by omega
  have w1 : IntKind.i64.wrap a = a := by rw [IntKind.wrap_i64]; omega
  have w2 : IntKind.i64.wrap (a + 65536) = a + 65536 := by rw [IntKind.wrap_i64]; omega
  have w3 : IntKind.i64.wrap (a + 65536 - 1) = a + 65535 := by rw [IntKind.wrap_i64]; omega
  have e1 : a + 65535 = a + ((n - 1 : Nat) : Int) := by omega
  have HLD := Aside0.mk (fun W b => fun (hb : W.heap[b]? = some (.cells #[.int .i64 (a + 65535)] 3 (0, 0))) => load_calls a n (some ⟨b, 0, none⟩) 1 1 [a + 65535] W ⟨ha.1, by omega, by omega, by omega⟩ rfl (blk_reads hb rfl (by simp)) (by omega) (by intro x hx; simp at hx; omega))
  rw [e1, great_load a n (by omega), ← e1, ← hni] at HLD
  have HT := Aside0.mk (great_take a n h2)
  have HNU := Aside0.mk (great_num n h2)
  have hlen : ((List.replicate n (0 : Int)).set (n - 1) 1).length = n := by rw [List.length_set, List.length_replicate]
  have hlast : (((List.replicate n (0 : Int)).set (n - 1) 1).set 0 2).getD (n - 1) 0 = 1 := by
    rw [getD_set_other _ _ _ _ (by omega), getD_set_same _ _ _ (by rw [List.length_replicate]; omega)]
  have hwf : WfM a ((List.replicate n 0).set (n - 1) 1) := by
    have h0 : WfM a (List.replicate n 0) := ⟨ha.1, by omega, by rw [List.length_replicate]; omega, by rw [List.length_replicate]; omega, fun s hs => by rw [List.eq_of_mem_replicate hs]; decide⟩
    exact h0.set _ _ (by decide)
  obtain ⟨st, hst⟩ : ∃ st, (List.replicate n (0 : Int)).set (n - 1) 1 = st := ⟨_, rfl⟩
  rw [hst] at HLD HT HNU hlen hlast hwf
  have hwf2 : WfM a (st.set 0 2) := hwf.set _ _ (by decide)
  have hl2 : (st.set 0 2).length = n := by rw [List.length_set]; exact hlen
  obtain ⟨st2, hst2⟩ : ∃ s, st.set 0 2 = s := ⟨_, rfl⟩
  rw [hst2] at HT HNU hlast hwf2 hl2
  have HS1 := Aside0.mk (show stateM a st2 (a + 65535) = (1, 0) by unfold stateM; rw [if_pos (by unfold inM; omega), show (a + 65535 - a).toNat = n - 1 by omega, hlast])
  have HS2 := Aside0.mk (show stateM a st2 (a + 65536) = (0, 2) by unfold stateM; rw [if_neg (by unfold inM; omega)])
  have HN := Aside0.mk hn65
  have HWF := Aside0.mk hwf
  have HWF2 := Aside0.mk hwf2
  clear hst hst2 hlen hlast hni hn65 e1 h2 hn hl2 hwf hwf2
  go_enter Try.func12, Try.ntmps12
  go_wp2_with fail
  refine (known12_calls w).mono ?_
  rintro e v1 ⟨rfl, B1⟩
  have HB1 := Aside0.mk B1
  clear B1
  go_wp2_with fail
  refine (HLD.out _ v1.heap.size (blk_new v1 _)).mono ?_
  rintro e v2 ⟨(⟨_, g, rfl, M2⟩ | ⟨h, _⟩), B2⟩
  · have HM2 := Aside0.mk M2
    have HB2 := Aside0.mk ((below_alloc HB1.out (.cells #[.int .i64 (a + 65535)] 3)).trans (B2.mono (below_alloc HB1.out _).size))
    have HLE := Aside0.mk (show w.heap.size ≤ (v1.alloc (.cells #[.int .i64 (a + 65535)] 3)).heap.size from (below_alloc HB1.out _).size)
    clear M2 B2 HB1
    go_wp2_with fail
    refine (take_calls _ g _ a st v2 HM2.out HWF.out).mono ?_
    rintro e v3 ⟨rfl, M3, F3⟩
    rw [HT.out] at M3 ⊢
    have HM3 := Aside0.mk M3
    have HB3 := Aside0.mk (HB2.out.trans (F3.below (B := w.heap.size) (fun k hk => Nat.le_trans HLE.out hk) HB2.out.size))
    clear M3 F3 HM2 HB2
    go_wp2_with fail
    refine (state_calls _ g _ a st2 v3 HM3.out (a + 65535) ha.1 (by omega) HWF2.out.2.2.2.2).mono ?_
    rintro e v4 ⟨rfl, m, rfl⟩
    rw [HS1.out]
    have HM4 := Aside0.mk (HM3.out.frm ((Frm.refl v3 (fun _ => False)).drewN m) (fun h => h) (fun _ _ h => h))
    go_wp2_with fail
    refine (state_calls _ g _ a st2 _ HM4.out (a + 65536) ha.1 (by omega) HWF2.out.2.2.2.2).mono ?_
    rintro e v5 ⟨rfl, m2, rfl⟩
    rw [HS2.out]
    have HM5 := Aside0.mk (HM3.out.frm ((Frm.refl v3 (fun _ => False)).drewN (m + m2)) (fun h => h) (fun _ _ h => h))
    have HNX := Aside0.mk (number_calls _ g _ a st2 (v3.drewN (m + m2)) HM5.out HWF2.out 0)
    rw [HNU.out, ← HN.out] at HNX
    go_wp2_with fail
    refine HNX.out.mono ?_
    rintro e v6 ⟨rfl, B6⟩
    have HB6 := Aside0.mk ((pw_below_drewN HB3.out (m + m2)).trans (B6.mono (show w.heap.size ≤ (v3.drewN (m + m2)).heap.size from HB3.out.size)))
    clear B6
    go_wp2
    go_ret
    exact ⟨rfl, HB6.out⟩
  · exact absurd rfl h
end Go.Proofs.Ytbddllklagiajaa
