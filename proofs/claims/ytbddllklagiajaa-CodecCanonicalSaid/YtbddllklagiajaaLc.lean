/- The walk of CodecWrites. -/
import Derived.Test.YtbddllklagiajaaVf
import Derived.ProofKit
namespace Go.Proofs.Ytbddllklagiajaa
open PCodecKeeps (info5 info51 S51 k51 z51)
open Go.RowKit Go.Proofs.YtbddllklagiajaaW.PrintWords Go.Proofs.YtbddllklagiajaaW.PrintLast Go.Proofs.YtbddllklagiajaaW.PrintMore
set_option linter.unusedVariables false
set_option linter.unusedSimpArgs false

/-- Bytes of a Writer in whatever state. -/
theorem bytes_any (base g : Nat) (P : Nat → Prop) (st : St) (w : World) (h : Wr base w g P st.1 st.2) (hlen : st.1.length ≤ 140737488355328) :
    Calls Try.prog 28 #[.pointer (some ⟨g, 0, none⟩)] w fun e w' => ∃ v, e = .returned (.tuple #[v, .int .i64 st.2]) ∧ KB.R 5 w' w.heap.size (fun _ => True) v (resW st) ∧ Below w.heap.size w w' := by
  obtain ⟨out, f⟩ := st
  unfold resW
  dsimp only at *
  by_cases hf : f = 0
  · subst hf
    rw [if_pos rfl]
    exact bytes_ok base g P out w h hlen
  · rw [if_neg hf]
    refine (bytes_failed base g P out f w h hf).mono ?_
    rintro e w' ⟨rfl, hb⟩
    exact ⟨_, rfl, Kd.R_nil _ _ _ _ _, hb⟩

theorem cutV_ok {v : S51} (h : OkV v) : OkV (cutV v) ∧ (cutV v).f3.size ≤ 200 := by
  have h2 : (cutV v).f3.size ≤ 200 := by simp [cutV, ByteArray.size_extract]; omega
  exact ⟨⟨h.1, h.2.1, h.2.2.1, by omega⟩, h2⟩
theorem shortV_ok {l : List S51} (h : ∀ v ∈ l, OkV v) : ∀ v ∈ shortV l, OkV v ∧ v.f3.size ≤ 200 := by
  intro v hv
  obtain ⟨u, hu, rfl⟩ := List.mem_map.1 hv
  exact cutV_ok (h u (List.mem_of_mem_take hu))

set_option maxHeartbeats 4000000 in
set_option maxRecDepth 100000 in
theorem codecWrites_walk (A : Option Addr) (n c : Nat) (l : List S51) (w : World) (hl : l.length = n) (hC : k51.C w A n l) (hok : ∀ v ∈ l, OkV v) (hn : n ≤ 9223372036854775807) :
    Calls Try.prog 5 #[.slice A n c] w fun e w' => e = .returned (.bool true) ∧ Below w.heap.size w w' := by
  have hso := shortV_ok hok
  have hsl := shortV_len l
  obtain ⟨sl, hsl0⟩ : ∃ sl, shortV l = sl := ⟨_, rfl⟩
  have hwl := writeV_len sl ([], 0) (by rw [← hsl0]; exact fun v hv => ⟨(hso v hv).1, by have := (hso v hv).2; omega⟩)
  obtain ⟨st, hst⟩ : ∃ st, writeV sl ([], 0) = st := ⟨_, rfl⟩
  rw [hst] at hwl
  rw [hsl0] at hso hsl
  have hsl2 : sl.length ≤ 40 := by omega
  have HSO := Aside0.mk hso
  have HST := Aside0.mk hst
  have hwl2 : st.1.length ≤ 1000000000 := by simp at hwl; omega
  have HWL := Aside0.mk hwl2
  have HC := Aside0.mk hC
  have HL := Aside0.mk hl
  have HO := Aside0.mk hok
  have HS0 := Aside0.mk hsl0
  clear hso hst hwl hwl2 hC hl hok hsl0 hsl
  go_enter Try.func5, Try.ntmps5
  go_wp2_with fail
  refine (short_calls A n c l w HL.out HC.out HO.out hn).mono ?_
  rintro e w1 ⟨v1, rfl, R1, B1⟩
  rw [HS0.out] at R1
  have S1 : Stab k51 w1 (fun k => w1.heap.size ≤ k) v1 sl := Stab.of_R R1 (fun k _ _ h1 h2 => by omega)
  obtain ⟨A1, c1, rfl, hc1, hC1⟩ := S1
  obtain ⟨n1, hn1⟩ : ∃ n1, sl.length = n1 := ⟨_, rfl⟩
  rw [hn1] at hC1 hc1 hsl2 ⊢
  have HN1 := Aside0.mk hn1
  have HC1 := Aside0.mk hC1
  have HB1 := Aside0.mk B1
  clear R1 B1 hC1 hn1 HC HL HO HS0
  go_wp2_with fail
  refine (newWriter_calls w1.heap.size w1 (Nat.le_refl _)).mono ?_
  rintro e w2 ⟨rfl, W2, B2, s2⟩
  have HW1 := Aside0.mk (W2.frm ((Frm.refl w2 (fun _ => False)).alloc (.cells #[.slice none 0 0, .int .i64 0] 41)) (fun h => h) (fun _ h => h.elim))
  have HW2 : Wr w1.heap.size (w2.alloc (.cells #[.slice none 0 0, .int .i64 0] 41)) w2.heap.size (fun _ => False) [] 0 := ⟨_, blk_new w2 _, B2.size, Kd.R_nil _ _ _ _ _⟩
  have HW2 := Aside0.mk HW2
  have HF := Aside0.mk ((Frm.of_fresh B2 (fun k => w1.heap.size ≤ k)).alloc (.cells #[.slice none 0 0, .int .i64 0] 41))
  have HZ := Aside0.mk s2
  clear W2 B2 s2
  go_wp2_with fail
  refine (write_law w1.heap.size w1.heap.size (fun _ => False) ([], 0) A1 n1 c1 sl _ HW1.out (fun _ h => h.elim) HF.out.size HN1.out (fun W hk => HC1.out W (HF.out.kept.then_ hk (fun b hb => .inl (by rcases hb with rfl | hb; exact Nat.le_refl _; exact hb.elim)))) (fun v hv => ⟨(HSO.out v hv).1, by have := (HSO.out v hv).2; omega⟩) (by omega) (by simp)).mono ?_
  rintro e w3 ⟨rfl, W3, F3⟩
  rw [HST.out] at W3
  have hs2 : w2.heap.size = w1.heap.size + 1 := HZ.out
  have HF3 := Aside0.mk (HF.out.then_ F3 (fun b hb => .inl (by rcases hb with rfl | hb; exact Nat.le_refl _; exact hb.elim)))
  have HW1' := Aside0.mk (W3.tight)
  have HW2' := Aside0.mk (HW2.out.frm F3 (by rintro (h | h); omega; exact h) (fun _ h => h.elim))
  have HG := Aside0.mk F3.size
  clear W3 F3 HW1 HW2 HF hs2
  go_wp2_with fail
  refine (write_law w1.heap.size w2.heap.size (fun _ => False) ([], 0) A1 n1 c1 sl _ HW2'.out (fun _ h => h.elim) HF3.out.size HN1.out (fun W hk => HC1.out W (HF3.out.kept.then_ hk (fun b hb => .inl (by rcases hb with rfl | hb; have := HZ.out; omega; exact hb.elim)))) (fun v hv => ⟨(HSO.out v hv).1, by have := (HSO.out v hv).2; omega⟩) (by omega) (by simp)).mono ?_
  rintro e w4 ⟨rfl, W4, F4⟩
  rw [HST.out] at W4
  have HF4 := Aside0.mk (HF3.out.then_ F4 (fun b hb => .inl (by rcases hb with rfl | hb; have := HZ.out; omega; exact hb.elim)))
  have HX1 := Aside0.mk (HW1'.out.frm F4 (by rintro (h | h); have := HZ.out; omega; exact h) (fun b hb h => by
    have h1 := HZ.out
    have h2 := HG.out
    rw [World.size_alloc] at h2
    rcases h with h | h
    · rcases hb.1 with h3 | h3
      · exact h3
      · rw [World.size_alloc] at h3; omega
    · exact h))
  have HX2 := Aside0.mk W4
  clear W4 F4 HW1' HW2' HF3 HG
  go_wp2_with fail
  refine (bytes_any w1.heap.size _ _ st w4 HX1.out (by have := HWL.out; omega)).mono ?_
  rintro e w5 ⟨v5, rfl, R5, B5⟩
  obtain ⟨A5, n5, c5, rfl⟩ := R_form' R5
  have HR5 := Aside0.mk R5
  have HY1 := Aside0.mk (HX1.out.frm (Frm.of_fresh B5 (fun _ => False)) (fun h => h) (fun _ _ h => h))
  have HY2 := Aside0.mk (HX2.out.frm (Frm.of_fresh B5 (fun _ => False)) (fun h => h) (fun _ _ h => h))
  have HF5 := Aside0.mk (HF4.out.fresh B5)
  clear R5 B5 HX1 HX2 HF4
  go_wp2_with fail
  refine (bytes_any w1.heap.size _ _ st w5 HY2.out (by have := HWL.out; omega)).mono ?_
  rintro e w6 ⟨v6, rfl, R6, B6⟩
  obtain ⟨A6, n6, c6, rfl⟩ := R_form' R6
  have HR6 := Aside0.mk R6
  have HR5' := Aside0.mk (Kd.R_below HR5.out B6)
  have HZ1 := Aside0.mk (HY1.out.frm (Frm.of_fresh B6 (fun _ => False)) (fun h => h) (fun _ _ h => h))
  have HF6 := Aside0.mk (HF5.out.fresh B6)
  clear R6 B6 HY1 HY2 HF5 HR5
  go_wp2_with fail
  refine (refWrite_calls A1 n1 c1 sl w6 HN1.out (HC1.out _ HF6.out.kept) (fun v hv => ⟨(HSO.out v hv).1, by have := (HSO.out v hv).2; omega⟩) (by omega)).mono ?_
  rintro e w7 ⟨v7, rfl, R7, B7⟩
  rw [HST.out] at R7 ⊢
  obtain ⟨A7, n7, c7, rfl⟩ := R_form' R7
  have HF7 := Aside0.mk (HF6.out.fresh B7)
  obtain ⟨sx, hsx⟩ : ∃ sx, strOfNums (resW st) = sx := ⟨_, rfl⟩
  have r5 := Kd.R_reads' (Kd.R_below HR5'.out B7)
  have r6 := Kd.R_reads' (Kd.R_below HR6.out B7)
  have r7 := Kd.R_reads' R7
  have hcv5 := Kd.C_string (P := Try.prog) (c := c5) Try.underlying22 Try.underlying5 Try.underlying9 r5.2.2
  rw [← r5.1, hsx] at hcv5
  have hcv6 := Kd.C_string (P := Try.prog) (c := c6) Try.underlying22 Try.underlying5 Try.underlying9 r6.2.2
  rw [← r6.1, hsx] at hcv6
  have hcv7 := Kd.C_string (P := Try.prog) (c := c7) Try.underlying22 Try.underlying5 Try.underlying9 r7.2.2
  rw [← r7.1, hsx] at hcv7
  have HN7 := Aside0.mk r7.1
  have HZ2 := Aside0.mk (HZ1.out.frm (Frm.of_fresh B7 (fun _ => False)) (fun h => h) (fun _ _ h => h))
  obtain ⟨out, f⟩ := st
  have HST' := Aside0.mk HST.out
  clear R7 B7 HR5' HR6 HZ1 HF6 r5 r6 r7 hsx HST
  dsimp only at *
  by_cases hf : f = 0
  · subst hf
    go_wp2_with fail
    refine (known_calls w7).mono ?_
    rintro e w8 ⟨rfl, B8⟩
    have HZ3 := Aside0.mk (HZ2.out.frm (Frm.of_fresh B8 (fun _ => False)) (fun h => h) (fun _ _ h => h))
    have HF8 := Aside0.mk (HF7.out.fresh B8)
    clear B8 HZ2 HF7 hcv5 hcv6 hcv7
    have hn7 : n7 = out.length := HN7.out
    clear HN7
    subst hn7
    go_wp2_with fail
    refine (len_calls _ _ _ _ _ w8 HZ3.out).mono ?_
    rintro e w9 ⟨rfl, rfl⟩
    go_wp2
    go_ret
    exact ⟨rfl, HB1.out.trans (HF8.out.below (fun _ h => Nat.le_trans HB1.out.size h) HB1.out.size)⟩
  · have hf1 : (f != 0) = true := bne_iff_ne.mpr hf
    have hf2 : (f == 0) = false := beq_eq_false_iff_ne.mpr hf
    go_wp2_with fail
    refine (known_calls w7).mono ?_
    rintro e w8 ⟨rfl, B8⟩
    have HF8 := Aside0.mk (HF7.out.fresh B8)
    clear B8 HZ2 HF7 hcv5 hcv6 hcv7
    go_wp2
    go_ret
    exact ⟨rfl, HB1.out.trans (HF8.out.below (fun _ h => Nat.le_trans HB1.out.size h) HB1.out.size)⟩

end Go.Proofs.Ytbddllklagiajaa
