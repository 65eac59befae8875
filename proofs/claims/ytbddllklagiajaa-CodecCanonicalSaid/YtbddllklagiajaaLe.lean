/- The walk of CodecRoundTrip. -/
import Derived.Test.YtbddllklagiajaaLc
import Derived.Test.YtbddllklagiajaaMf
namespace Go.Proofs.Ytbddllklagiajaa
open PCodecKeeps (info5 info51 S51 k51 z51)
open Go.RowKit Go.Proofs.YtbddllklagiajaaW.PrintWords Go.Proofs.YtbddllklagiajaaW.PrintLast Go.Proofs.YtbddllklagiajaaW.PrintMore
set_option linter.unusedVariables false
set_option linter.unusedSimpArgs false

/-- The law's values with limits. -/
theorem mostL_ok {sl : List S51} (h : ∀ v ∈ sl, OkV v ∧ v.f3.size ≤ 200) : ∀ v ∈ mostL sl, OkV v ∧ Lim v ∧ v.f3.size ≤ 200 := by
  intro v hv
  obtain ⟨u, hu, rfl⟩ := List.mem_map.1 hv
  have := mostV_lim (h u hu).1 (by have := (h u hu).2; omega)
  exact ⟨this.1, this.2, (h u hu).2⟩

/-- Two rows of values at one place: the second holds what was read of the first. -/
theorem backV_cases (x : S51) (h : 0 ≤ x.f0) : (x.f0 % 4 = 0 ∧ backV x = ⟨x.f0, x.f1, false, ⟨#[]⟩, x.f4⟩) ∨ (x.f0 % 4 = 1 ∧ backV x = ⟨x.f0, x.f1, false, ⟨#[]⟩, x.f4⟩) ∨
    (x.f0 % 4 = 2 ∧ backV x = ⟨x.f0, 0, x.f2, ⟨#[]⟩, x.f4⟩) ∨ (x.f0 % 4 = 3 ∧ backV x = ⟨x.f0, 0, false, x.f3, x.f4⟩) := by
  have h4 : x.f0 % 4 = 0 ∨ x.f0 % 4 = 1 ∨ x.f0 % 4 = 2 ∨ x.f0 % 4 = 3 := by omega
  unfold backV
  rcases h4 with h4 | h4 | h4 | h4 <;> simp [h4]

set_option maxHeartbeats 4000000 in
set_option maxRecDepth 100000 in
theorem codecRoundTrip_walk (A : Option Addr) (n c : Nat) (l : List S51) (w : World) (hl : l.length = n) (hC : k51.C w A n l) (hok : ∀ v ∈ l, OkV v) (hn : n ≤ 9223372036854775807) :
    Calls Try.prog 7 #[.slice A n c] w fun e w' => e = .returned (.bool true) ∧ Below w.heap.size w w' := by
  have hso := shortV_ok hok
  have hsl := shortV_len l
  obtain ⟨sl, hsl0⟩ : ∃ sl, shortV l = sl := ⟨_, rfl⟩
  rw [hsl0] at hso hsl
  have hmo := mostL_ok hso
  have hml := mostL_len sl
  obtain ⟨lm, hlm0⟩ : ∃ lm, mostL sl = lm := ⟨_, rfl⟩
  rw [hlm0] at hmo hml
  have hwl := writeV_len lm ([], 0) (fun v hv => ⟨(hmo v hv).1, by have := (hmo v hv).2.2; omega⟩)
  obtain ⟨st, hst⟩ : ∃ st, writeV lm ([], 0) = st := ⟨_, rfl⟩
  rw [hst] at hwl
  have hml2 : lm.length ≤ 40 := by omega
  have hwl2 : st.1.length ≤ 1000000000 := by simp at hwl; omega
  have hby : st.2 = 0 → (∀ v ∈ lm, okN v) ∧ st = ((lm.map encV).flatten, 0) := by
    intro h0
    have := writeV_good lm [] (by rw [hst]; exact h0)
    rw [hst] at this
    simpa using this
  have HSO := Aside0.mk hso
  have HMO := Aside0.mk hmo
  have HST := Aside0.mk hst
  have HWL := Aside0.mk hwl2
  have HC := Aside0.mk hC
  have HL := Aside0.mk hl
  have HO := Aside0.mk hok
  have HS0 := Aside0.mk hsl0
  have HS1 := Aside0.mk hsl
  have HM0 := Aside0.mk hlm0
  have HBy := Aside0.mk hby
  clear hso hst hwl hwl2 hC hl hok hsl0 hsl hmo hml hlm0 hby
  go_enter Try.func7, Try.ntmps7
  go_wp2_with fail
  refine (short_calls A n c l w HL.out HC.out HO.out hn).mono ?_
  rintro e w1 ⟨v1, rfl, R1, B1⟩
  rw [HS0.out] at R1
  obtain ⟨A1, n1, c1, rfl⟩ := R_form' R1
  have hc1 := (Kd.R_reads' R1).2.2
  rw [← (Kd.R_reads' R1).1] at hc1
  have HR1 := Aside0.mk hc1
  have HN1 := Aside0.mk (Kd.R_reads' R1).1
  have HB1 := Aside0.mk B1
  clear R1 B1 hc1
  go_wp2_with fail
  refine (most_calls A1 n1 c1 sl w1 HN1.out.symm HR1.out (fun v hv => (HSO.out v hv).1) (by have := HN1.out; have := HS1.out; omega)).mono ?_
  rintro e w2 ⟨v2, rfl, R2, B2⟩
  rw [HM0.out] at R2
  have S2 : Stab k51 w2 (fun k => w2.heap.size ≤ k) v2 lm := Stab.of_R R2 (fun k _ _ h1 h2 => by omega)
  obtain ⟨A2, c2, rfl, hc2, hC2⟩ := S2
  obtain ⟨n2, hn2⟩ : ∃ n2, lm.length = n2 := ⟨_, rfl⟩
  rw [hn2] at hC2 hc2 hml2 ⊢
  have HN2 := Aside0.mk hn2
  have HC2 := Aside0.mk hC2
  have HF2 : Aside0 (Frm w w2 (fun _ => False)) := Aside0.mk ((Frm.of_fresh HB1.out _).fresh B2)
  clear R2 B2 hC2 hn2 HC HL HO HS0 HR1 HN1 HB1 HM0 HS1
  go_wp2_with fail
  refine (newWriter_calls w2.heap.size w2 (Nat.le_refl _)).mono ?_
  rintro e w4 ⟨rfl, W4, B4, s4⟩
  have HW4 := Aside0.mk W4
  have HF4 := Aside0.mk (HF2.out.fresh B4)
  have HK4 := Aside0.mk (Frm.of_fresh B4 (fun k => w2.heap.size ≤ k))
  have B0 := Aside0.mk HF2.out.size
  clear W4 B4 s4 HF2
  go_wp2_with fail
  refine (write_law w2.heap.size w2.heap.size (fun _ => False) ([], 0) A2 n2 c2 lm _ HW4.out (fun _ h => h.elim) HK4.out.size HN2.out (fun W hk => HC2.out W (HK4.out.kept.then_ hk (fun b hb => .inl (by rcases hb with rfl | hb; exact Nat.le_refl _; exact hb.elim)))) (fun v hv => ⟨(HMO.out v hv).1, by have := (HMO.out v hv).2.2; omega⟩) (by omega) (by simp)).mono ?_
  rintro e w5 ⟨rfl, W5, F5⟩
  rw [HST.out] at W5
  have F5' : Frm w4 w5 (fun k => w2.heap.size ≤ k) := F5.mono (fun k hk => by rcases hk with rfl | hk; exact Nat.le_refl _; exact hk.elim)
  have HK5 := Aside0.mk (HK4.out.then_ F5' (fun _ h => .inl h))
  have HF5 := Aside0.mk (HF4.out.then_ F5' (fun k h => .inr (Nat.le_trans B0.out h)))
  have HW5 := Aside0.mk W5
  clear W5 F5 F5' HW4 HF4 HK4
  go_wp2_with fail
  refine (bytes_any w2.heap.size _ _ st w5 HW5.out (by have := HWL.out; omega)).mono ?_
  rintro e w6 ⟨v6, rfl, R6, B6⟩
  have HF6 := Aside0.mk (HF5.out.fresh B6)
  have HK6 := Aside0.mk (HK5.out.fresh B6)
  by_cases hf : st.2 = 0
  · obtain ⟨hoN, hst2⟩ := HBy.out hf
    have hres : resW st = st.1 := by unfold resW; rw [if_pos hf]
    rw [hres] at R6
    obtain ⟨b, hb⟩ : ∃ b, st.1 = b := ⟨_, rfl⟩
    have hbf : b = (lm.map encV).flatten := by rw [← hb, hst2]
    rw [hb] at R6
    obtain ⟨A6, n6, c6, rfl⟩ := R_form' R6
    have hc6 := (Kd.R_reads' R6).2.2
    rw [← (Kd.R_reads' R6).1] at hc6
    have HC6 := Aside0.mk hc6
    have HN6 := Aside0.mk (Kd.R_reads' R6).1
    have HBF := Aside0.mk hbf
    have HON := Aside0.mk hoN
    have HBL : Aside0 (b.length ≤ 1000000000) := Aside0.mk (by rw [← hb]; exact HWL.out)
    have hrv := readV_good b lm 0 [] (by rw [List.drop_zero, hbf, List.append_nil]) (fun v hv => ⟨hoN v hv, (HMO.out v hv).1, (HMO.out v hv).2.1⟩)
    rw [← hbf, Nat.zero_add] at hrv
    have HRV := Aside0.mk hrv
    have hbb : Bytes b := by
      rw [hbf]
      intro x hx
      obtain ⟨e, he, hxe⟩ := List.mem_flatten.1 hx
      obtain ⟨v, hv, rfl⟩ := List.mem_map.1 he
      unfold encV at hxe
      split at hxe
      · exact enc_bytes _ x hxe
      split at hxe
      · exact enc_bytes _ x hxe
      split at hxe
      · simp at hxe; subst hxe; rcases flagB_cases v.f2 with ⟨_, e⟩ | ⟨_, e⟩ <;> rw [e] <;> omega
      · rcases List.mem_append.1 hxe with h | h
        · exact enc_bytes _ x h
        · exact bytesOf_bytes _ x h
    have HBB := Aside0.mk hbb
    clear R6 B6 HF5 HK5 HW5 hoN hst2 hres hb hbf hc6 hrv hbb HBy
    go_wp2_with fail
    refine (newReader_calls w2.heap.size A6 n6 c6 b w6 HK6.out.size HN6.out.symm HC6.out (by have := HN6.out; have := HBL.out; omega)).mono ?_
    rintro e w7 ⟨g, rfl, RD7, hg7, B7⟩
    have HRD7 := Aside0.mk RD7.tight
    have HF7 := Aside0.mk (HF6.out.fresh B7)
    have HK7 := Aside0.mk (HK6.out.fresh B7)
    have HG7 := Aside0.mk (Nat.le_trans HK6.out.size hg7)
    clear RD7 hg7 B7 HF6 HK6
    go_wp2_with fail
    refine (read_law w2.heap.size g _ b (0, 0) A2 n2 c2 lm w7 HRD7.out (fun k hk => hk.2.2.2) HBB.out (by have := HBL.out; omega) HN2.out (fun W hk => HC2.out W (HK7.out.kept.then_ hk (fun k h => .inl (by subst h; exact HG7.out)))) (fun v hv => (HMO.out v hv).1) (by omega)).mono ?_
    rintro e w8 ⟨v8, rfl, R8, RD8, F8⟩
    rw [HRV.out] at R8 RD8
    obtain ⟨A8, n8, c8, rfl⟩ := R_form' R8
    have hc8 := (Kd.R_reads' R8).2.2
    rw [← (Kd.R_reads' R8).1] at hc8
    have hn8 : n8 = n2 := by rw [(Kd.R_reads' R8).1, List.length_map, HN2.out]
    subst hn8
    have HC8 := Aside0.mk (fun W (hk : Kept w8 W (fun _ => False)) => show k51.C W A8 n8 (lm.map backV) from (by
      obtain ⟨A', c', e, _, h⟩ := Stab.of_R R8 (S := fun _ => False) (fun _ _ _ _ h => h)
      injection e with e1 e2 e3
      subst e1
      have := h W hk
      rwa [← e2] at this))
    have HD8 := Aside0.mk RD8
    have HF8 := Aside0.mk (HF7.out.then_ F8 (fun k h => .inr (by subst h; exact Nat.le_trans B0.out HG7.out)))
    have HV8 := Aside0.mk (fun W (hk : Kept w8 W (fun _ => False)) => HC2.out W ((HK7.out.kept.then_ F8.kept (fun k h => .inl (by subst h; exact HG7.out))).then_ hk (fun _ h => h.elim)))
    clear R8 RD8 F8 hc8 HRD7 HF7 HK7
    go_wp2
    go_loopw [8] (fun i wr => ∃ k : Nat, k ≤ n8 ∧ i = .int .i64 k ∧ Frm w8 wr (fun _ => False)) (fun i _ => n8 - (intOf i).toNat)
    case atStart => exact ⟨0, Nat.zero_le _, rfl, Frm.refl _ _⟩
    case round =>
      obtain ⟨k, hk, rfl, hfr⟩ := hrel
      have HFR := Aside0.mk hfr
      clear hfr
      by_cases hlt : k < n8
      · obtain ⟨ad, e, h0, h1, h2, h3, h4⟩ := at_V (HV8.out wr HFR.out.kept) k hlt
        subst e
        obtain ⟨ad2, e, g0, g1, g2, g3, g4⟩ := at_V (HC8.out wr HFR.out.kept) k hlt
        subst e
        have hget : (lm.map backV).getD k z51 = backV (lm.getD k z51) := by
          have : k < lm.length := by rw [HN2.out]; exact hlt
          simp [List.getD, this]
        have hv : lm.getD k z51 ∈ lm := by
          have : k < lm.length := by rw [HN2.out]; exact hlt
          rw [List.getD_eq_getElem?_getD, List.getElem?_eq_getElem this]
          exact List.getElem_mem _
        rw [hget] at g0 g1 g2 g3 g4
        obtain ⟨x, hx⟩ : ∃ x, lm.getD k z51 = x := ⟨_, rfl⟩
        rw [hx] at h0 h1 h2 h3 h4 g0 g1 g2 g3 g4 hv
        have hf0 := (HMO.out x hv).1.1.1
        clear hget hx hv h4 g4
        rcases backV_cases x hf0 with ⟨h5, hb⟩ | ⟨h5, hb⟩ | ⟨h5, hb⟩ | ⟨h5, hb⟩
        all_goals
          rw [hb] at g0 g1 g2 g3
          dsimp only at g0 g1 g2 g3
          clear hb
        all_goals (go_wp2_with fail)
        all_goals
          simp only [List.append_eq, List.cons_append, List.nil_append]
          go_region
          go_wp2
          go_roundw
          case rel => exact ⟨k + 1, by omega, by go_num, HFR.out.drew⟩
          case measure => simp [intOf]; omega
      · have hkn : k = n8 := by omega
        subst hkn
        clear hlt hk
        have hcl : closeR b (b.length, 0) = 0 := by unfold closeR; simp
        have HCE := Aside0.mk hcl
        have HD8' := Aside0.mk (Rd.frm HD8.out HFR.out (fun h => h) (fun _ _ h => h))
        have HF8' := Aside0.mk (HF8.out.then_ HFR.out (fun _ h => h.elim))
        clear hcl HFR
        go_wp2_with fail
        refine (known_calls _).mono ?_
        rintro e w9 ⟨rfl, B9⟩
        have HD9 := Aside0.mk (Rd.frm HD8'.out (Frm.of_fresh B9 (fun _ => False)) (fun h => h) (fun _ _ h => h))
        have HF9 := Aside0.mk (HF8'.out.fresh B9)
        clear B9 HD8' HF8'
        go_wp2_with fail
        have HCL := Aside0.mk (close_calls w2.heap.size g _ b (b.length, 0) w9 HD9.out (by have := HBL.out; omega))
        rw [HCE.out] at HCL
        refine HCL.out.mono ?_
        rintro e w10 ⟨rfl, m, rfl⟩
        have HR := Aside0.mk (rest_calls w2.heap.size g _ b b.length 0 (w9.drewN m) (Rd.frm HD9.out ((Frm.refl w9 (fun _ => False)).drewN m) (fun h => h) (fun _ _ h => h)) (by have := HBL.out; omega))
        rw [Nat.sub_self] at HR
        go_wp2_with fail
        refine HR.out.mono ?_
        rintro e w11 ⟨rfl, m2, rfl⟩
        go_wp2
        go_ret
        exact ⟨rfl, (HF9.out.drewN (m + m2)).below (fun _ h => h.elim) (Nat.le_refl _)⟩
  · have hf1 : (st.2 != 0) = true := bne_iff_ne.mpr hf
    have hres : resW st = [] := by unfold resW; rw [if_neg hf]
    rw [hres] at R6
    obtain ⟨A6, n6, c6, rfl⟩ := R_form' R6
    obtain rfl : n6 = 0 := (Kd.R_reads' R6).1
    clear R6 B6 HF5 HK5 HW5 hres HBy
    go_wp2_with fail
    refine (known_calls _).mono ?_
    rintro e w9 ⟨rfl, B9⟩
    have HF9 := Aside0.mk (HF6.out.fresh B9)
    clear B9
    go_wp2
    go_ret
    exact ⟨rfl, HF9.out.below (fun _ h => h.elim) (Nat.le_refl _)⟩
end Go.Proofs.Ytbddllklagiajaa
