/- The walk of CodecCanonical. -/
import Derived.Test.YtbddllklagiajaaLe
namespace Go.Proofs.Ytbddllklagiajaa
open PCodecKeeps (info5 info51 S51 k51 z51)
open Go.RowKit Go.Proofs.YtbddllklagiajaaW.PrintWords Go.Proofs.YtbddllklagiajaaW.PrintLast Go.Proofs.YtbddllklagiajaaW.PrintMore
set_option linter.unusedVariables false
set_option linter.unusedSimpArgs false

theorem min_1000 (n : Nat) : (if (1000 : Int) < (n : Int) then (1000 : Int) else (n : Int)) = ((min n 1000 : Nat) : Int) := by
  split <;> omega

attribute [local go_sem] min2_int
set_option maxHeartbeats 4000000 in
set_option maxRecDepth 100000 in
theorem codecCanonical_walk (A0 : Option Addr) (n0 c0 : Nat) (l0 : List Int) (A : Option Addr) (n c : Nat) (l : List S51) (w : World) (hl : l.length = n) (hC : k51.C w A n l) (hok : ∀ v ∈ l, OkV v) (hn : n ≤ 9223372036854775807)
    (hl0 : l0.length = min n0 1000) (hC0 : KB.C w A0 (min n0 1000) l0) (hby : Bytes l0) (hc0 : n0 ≤ c0) (hn0 : n0 ≤ 9223372036854775807) :
    Calls Try.prog 8 #[.slice A0 n0 c0, .slice A n c] w fun e w' => e = .returned (.bool true) ∧ Below w.heap.size w w' := by
  have hso := shortV_ok hok
  have hsl := shortV_len l
  obtain ⟨sl, hsl0⟩ : ∃ sl, shortV l = sl := ⟨_, rfl⟩
  rw [hsl0] at hso hsl
  have hm := min_1000 n0
  obtain ⟨m, hmm⟩ : ∃ m, min n0 1000 = m := ⟨_, rfl⟩
  rw [hmm] at hl0 hC0 hm
  have hmn : m ≤ n0 := by omega
  have hmc : m ≤ c0 := by omega
  have hm2 : m ≤ 1000 := by omega
  have hsl2 : sl.length ≤ 40 := by omega
  have HSO := Aside0.mk hso
  have HC := Aside0.mk hC
  have HL := Aside0.mk hl
  have HO := Aside0.mk hok
  have HC0 := Aside0.mk hC0
  have HL0 := Aside0.mk hl0
  have HBy := Aside0.mk hby
  have HS0 := Aside0.mk hsl0
  clear hso hC hl hok hsl hC0 hl0 hmm hby hsl0
  go_enter Try.func8, Try.ntmps8
  go_wp2_with fail
  refine start_ (n := 9) (S := fun _ => True) (ds := []) #[false, false, false, false, false, false, false, false, false] (by kernel_rfl) rfl rfl trivial (fun hHeld => ?_)
  refine pure_ (i := 0) (N := some 10) (v := ?_) (a' := ?_) #[true, false, false, false, false, false, false, false, false] rfl rfl (by kernel_rfl) (fun _ _ _ h => h) (Or.inl ⟨by rfl, ?_⟩) ?_ ?_
  rotate_left
  · intro w'
    go_simp
    with_reducible rfl
  rotate_left
  · simp only [Act.put, List.setIfInBounds_toArray, List.set_cons_zero, List.set_cons_succ, i64_w, i32_w]
    rfl
  refine pure_ (i := 1) (N := some 11) (v := ?_) (a' := ?_) #[true, true, false, false, false, false, false, false, false] rfl rfl (by kernel_rfl) (fun _ _ _ h => h) (Or.inl ⟨by rfl, ?_⟩) ?_ ?_
  rotate_left
  · intro w'
    go_simp
    with_reducible rfl
  rotate_left
  · simp only [Act.put, List.setIfInBounds_toArray, List.set_cons_zero, List.set_cons_succ, i64_w, i32_w]
    rfl
  refine pure_ (i := 2) (N := some 12) (v := ?_) (a' := ?_) #[true, true, true, false, false, false, false, false, false] rfl rfl (by kernel_rfl) (fun _ _ _ h => h) (Or.inl ⟨by rfl, ?_⟩) ?_ ?_
  rotate_left
  · intro w'
    go_simp
    with_reducible rfl
  rotate_left
  · simp only [Act.put, List.setIfInBounds_toArray, List.set_cons_zero, List.set_cons_succ, i64_w, i32_w]
    rfl
  refine pure_ (i := 3) (N := some 13) (v := ?_) (a' := ?_) #[true, true, true, true, false, false, false, false, false] rfl rfl (by kernel_rfl) (fun _ _ _ h => h) (Or.inl ⟨by rfl, ?_⟩) ?_ ?_
  rotate_left
  · intro w'
    go_simp
    with_reducible rfl
  rotate_left
  · simp only [Act.put, List.setIfInBounds_toArray, List.set_cons_zero, List.set_cons_succ, i64_w, i32_w]
    rfl
  refine pure_ (i := 4) (N := some 14) (v := ?_) (a' := ?_) #[true, true, true, true, true, false, false, false, false] rfl rfl (by kernel_rfl) (fun _ _ _ h => h) (Or.inl ⟨by rfl, ?_⟩) ?_ ?_
  rotate_left
  · intro w'
    go_simp
    with_reducible rfl
  rotate_left
  · simp only [Act.put, List.setIfInBounds_toArray, List.set_cons_zero, List.set_cons_succ, i64_w, i32_w]
    rfl
  refine pure_ (i := 5) (N := some 15) (v := ?_) (a' := ?_) #[true, true, true, true, true, true, false, false, false] rfl rfl (by kernel_rfl) (fun _ _ _ h => h) (Or.inl ⟨by rfl, ?_⟩) ?_ ?_
  rotate_left
  · intro w'
    go_simp
    with_reducible rfl
  rotate_left
  · simp only [Act.put, List.setIfInBounds_toArray, List.set_cons_zero, List.set_cons_succ, i64_w, i32_w]
    rfl
  refine one_ (i := 6) (N := some 16) #[true, true, true, true, true, true, true, false, false] rfl rfl (by kernel_rfl) (by decide) (fun K hK => ?_)
  refine call_ 25 #[.slice A n c] (by rfl) rfl ?hrun0 ?_
  case hrun0 => go_simp
  refine (short_calls A n c l w.drew HL.out HC.out HO.out hn).mono ?_
  rintro e w1 ⟨v1, rfl, R1, B1⟩
  refine ⟨_, rfl, hK.out _ _ trivial (fun _ => ?_)⟩
  clear hK K
  have hB1 : Below w.heap.size w w1 := below_step (Below.refl _ _).drew B1
  rw [HS0.out] at R1
  have S1 : Stab k51 w1 (fun k => w1.heap.size ≤ k) v1 sl := Stab.of_R R1 (fun k _ _ h1 h2 => by omega)
  obtain ⟨A1, c1, rfl, hc1, hC1⟩ := S1
  refine pure_ (i := 7) (N := some 0) (v := ?_) (a' := ?_) #[true, true, true, true, true, true, true, true, false] rfl rfl (by kernel_rfl) (fun _ _ _ h => h) (Or.inl ⟨by rfl, ?_⟩) ?_ ?_
  rotate_left
  · intro w'
    go_simp
    with_reducible rfl
  rotate_left
  · simp only [Act.put, List.setIfInBounds_toArray, List.set_cons_zero, List.set_cons_succ, i64_w, i32_w]
    rfl
  refine pure_ (i := 8) (N := some 1) (v := ?_) (a' := ?_) #[true, true, true, true, true, true, true, true, true] rfl rfl (by kernel_rfl) (fun _ _ _ h => h) (Or.inl ⟨by rfl, ?_⟩) ?_ ?_
  rotate_left
  · intro w'
    go_simp
    with_reducible rfl
  rotate_left
  · simp only [Act.put, List.setIfInBounds_toArray, List.set_cons_zero, List.set_cons_succ, i64_w, i32_w]
    rfl
  refine done_ (by kernel_rfl) ?_
  obtain ⟨n1, hn1⟩ : ∃ n1, sl.length = n1 := ⟨_, rfl⟩
  rw [hn1] at hC1 hc1 hsl2 ⊢
  have HN1 := Aside0.mk hn1
  have HC1 := Aside0.mk hC1
  have HC0' := Aside0.mk (Kd.C_below HC0.out hB1)
  have HF1 : Aside0 (Frm w w1 (fun _ => False)) := Aside0.mk (Frm.of_fresh hB1 _)
  clear R1 B1 hC1 hn1 HC HL HO HS0 HC0 hB1 hHeld
  go_wp2_with fail
  refine (newReader_calls w1.heap.size A0 m c0 l0 w1 (Nat.le_refl _) HL0.out HC0'.out (by omega)).mono ?_
  rintro e w2 ⟨g, rfl, RD2, hg2, B2⟩
  have HRD2 := Aside0.mk RD2.tight
  have HF2 := Aside0.mk (HF1.out.fresh B2)
  have HK2 := Aside0.mk (Frm.of_fresh B2 (fun k => w1.heap.size ≤ k))
  have HG2 := Aside0.mk hg2
  have B0 := Aside0.mk HF1.out.size
  clear RD2 hg2 B2 HF1
  go_wp2_with fail
  refine (read_law w1.heap.size g _ l0 (0, 0) A1 n1 c1 sl w2 HRD2.out (fun k hk => hk.2.2.2) HBy.out (by have := HL0.out; omega) HN1.out (fun W hk => HC1.out W (HK2.out.kept.then_ hk (fun k h => .inl (by subst h; exact HG2.out)))) (fun v hv => (HSO.out v hv).1) (by omega)).mono ?_
  rintro e w3 ⟨v3, rfl, R3, RD3, F3⟩
  obtain ⟨⟨got, s⟩, hrv⟩ : ∃ r, readV l0 sl (0, 0) = r := ⟨_, rfl⟩
  rw [hrv] at R3 RD3
  have hglen : got.length ≤ 40 := by
    have := readV_len l0 sl (0, 0)
    rw [hrv] at this
    dsimp only at this
    have := HN1.out
    omega
  have hat : s.1 ≤ l0.length := RD3.len
  have S3 : Stab k51 w3 (fun k => w3.heap.size ≤ k) v3 got := Stab.of_R R3 (fun k _ _ h1 h2 => by omega)
  obtain ⟨A3, c3, rfl, hc3, hC3⟩ := S3
  have HC3 := Aside0.mk hC3
  have HD3 := Aside0.mk RD3
  have HF3 := Aside0.mk (HF2.out.then_ F3 (fun k h => .inr (by subst h; exact Nat.le_trans B0.out HG2.out)))
  have HC03 := Aside0.mk (Kd.C_below (Kd.C_below HC0'.out (HK2.out.below (B := w1.heap.size) (fun _ h => h) (Nat.le_refl _))) (Below.refl _ _))
  have HRV := Aside0.mk hrv
  have F13 := Aside0.mk (HK2.out.then_ F3 (fun k h => .inl (by subst h; exact HG2.out)))
  obtain ⟨n3, hn3⟩ : ∃ n3, got.length = n3 := ⟨_, rfl⟩
  rw [hn3] at HC3 hc3 hglen ⊢
  have HN3 := Aside0.mk hn3
  have HCL := Aside0.mk (close_calls w1.heap.size g _ l0 s w3 HD3.out (by have := HL0.out; omega))
  obtain ⟨cl, hcl⟩ : ∃ cl, closeR l0 s = cl := ⟨_, rfl⟩
  rw [hcl] at HCL
  have HCLE := Aside0.mk hcl
  have HAT := Aside0.mk hat
  clear R3 RD3 F3 HRD2 HF2 hC3 hrv hn3 hcl hat HC1 HK2 HC03 HD3
  go_wp2_with fail
  refine HCL.out.mono ?_
  rintro e w4 ⟨rfl, q, rfl⟩
  clear HCL
  by_cases hz : cl = 0
  · subst hz
    have hs : s = (l0.length, 0) := by
      have h1 := HCLE.out
      unfold closeR at h1
      obtain ⟨at_, f⟩ := s
      dsimp only at h1
      have h2 := HAT.out
      dsimp only at h2
      by_cases hh : f = 0 ∧ 0 < l0.length - at_
      · rw [if_pos hh] at h1; simp at h1
      · rw [if_neg hh] at h1
        subst h1
        have : at_ = l0.length := by omega
        rw [this]
    have hback := readV_back l0 sl 0 HBy.out (by have := HL0.out; omega) (Nat.zero_le _) (fun v hv => (HSO.out v hv).1) (by rw [HRV.out, hs])
    rw [HRV.out, hs] at hback
    obtain ⟨k, hk1, hk2, hk3, hk4⟩ := hback
    dsimp only at hk1 hk3 hk4
    have hkl : k = l0.length := by
      have := congrArg Prod.fst hk1
      dsimp only at this
      omega
    rw [hkl, List.drop_zero, List.take_length] at hk4
    have hst := writeV_ok got [] (fun v hv => (hk3 v hv).1)
    rw [hk4, List.nil_append] at hst
    have HGO := Aside0.mk hk3
    have HST := Aside0.mk hst
    have HF4 := Aside0.mk (HF3.out.drewN q)
    have F14 := Aside0.mk (F13.out.drewN q)
    have HK4 := Aside0.mk ((Frm.refl w3 (fun k => w3.heap.size ≤ k)).drewN q)
    have HB3 := Aside0.mk (And.intro HF3.out.size F13.out.size)
    clear hk1 hk2 hk3 hk4 hkl hs hst HF3 F13 HCLE HAT HRV
    go_wp2_with fail
    refine (newWriter_calls w3.heap.size (w3.drewN q) (Nat.le_refl _)).mono ?_
    rintro e w5 ⟨rfl, W5, B5, s5⟩
    have HW5 := Aside0.mk W5
    have HF5 := Aside0.mk (HF4.out.fresh B5)
    have HK5 := Aside0.mk (HK4.out.fresh B5)
    have F15 := Aside0.mk (F14.out.fresh B5)
    clear W5 B5 s5 HF4 HK4 F14
    go_wp2_with fail
    refine (write_law w3.heap.size w3.heap.size (fun _ => False) ([], 0) A3 n3 c3 got _ HW5.out (fun _ h => h.elim) HK5.out.size HN3.out (fun W hk => HC3.out W (HK5.out.kept.then_ hk (fun b hb => .inl (by rcases hb with rfl | hb; exact Nat.le_refl _; exact hb.elim)))) (fun v hv => ⟨(HGO.out v hv).2.1, by have := (HGO.out v hv).2.2; have := HL0.out; omega⟩) (by omega) (by simp)).mono ?_
    rintro e w6 ⟨rfl, W6, F6⟩
    rw [HST.out] at W6
    have F6' : Frm w5 w6 (fun k => w3.heap.size ≤ k) := F6.mono (fun k hk => by rcases hk with rfl | hk; exact Nat.le_refl _; exact hk.elim)
    have B03 : w.heap.size ≤ w3.heap.size ∧ w1.heap.size ≤ w3.heap.size := HB3.out
    have HF6 := Aside0.mk (HF5.out.then_ F6' (fun k h => .inr (Nat.le_trans B03.1 h)))
    have F16 := Aside0.mk (F15.out.then_ F6' (fun k h => .inl (Nat.le_trans B03.2 h)))
    have HW6 := Aside0.mk W6
    clear W6 F6 F6' HW5 HF5 HK5 F15 B03
    go_wp2_with fail
    refine (bytes_any w3.heap.size _ _ (l0, 0) w6 HW6.out (by have := HL0.out; dsimp only; omega)).mono ?_
    rintro e w7 ⟨v7, rfl, R7, B7⟩
    have hres : resW (l0, 0) = l0 := rfl
    rw [hres] at R7
    obtain ⟨A7, n7, c7, rfl⟩ := R_form' R7
    have HF7 := Aside0.mk (HF6.out.fresh B7)
    have F17 := Aside0.mk (F16.out.fresh B7)
    have HR7 := Aside0.mk R7
    clear R7 B7 HF6 F16 HW6
    go_wp2_with fail
    refine (known_calls _).mono ?_
    rintro e w8 ⟨rfl, B8⟩
    have HF8 := Aside0.mk (HF7.out.fresh B8)
    have r7 := Kd.R_reads' (Kd.R_below HR7.out B8)
    have hcv7 := Kd.C_string (P := Try.prog) (c := c7) Try.underlying22 Try.underlying5 Try.underlying9 r7.2.2
    obtain ⟨sx, hsx⟩ : ∃ sx, strOfNums l0 = sx := ⟨_, rfl⟩
    rw [← r7.1, hsx] at hcv7
    have hc08 := Kd.C_below HC0'.out ((F17.out.fresh B8).below (B := w1.heap.size) (fun _ h => h) (Nat.le_refl _))
    rw [← HL0.out] at hc08
    have hcv0 := Kd.C_string (P := Try.prog) (c := c0) Try.underlying22 Try.underlying5 Try.underlying9 hc08
    rw [HL0.out, hsx] at hcv0
    clear r7 hsx hc08 B8
    go_wp2
    go_ret
    exact ⟨rfl, HF8.out.below (fun _ h => h.elim) (Nat.le_refl _)⟩
  · have hz1 : (cl != 0) = true := bne_iff_ne.mpr hz
    go_wp2_with fail
    refine (known_calls _).mono ?_
    rintro e w9 ⟨rfl, B9⟩
    have HF9 := Aside0.mk ((HF3.out.drewN q).fresh B9)
    clear B9
    go_wp2
    go_ret
    exact ⟨rfl, HF9.out.below (fun _ h => h.elim) (Nat.le_refl _)⟩
end Go.Proofs.Ytbddllklagiajaa
