/- The walk of CodecKeeps. -/
import Derived.Test.YtbddllklagiajaaLc
import Derived.Test.YtbddllklagiajaaVj
namespace Go.Proofs.Ytbddllklagiajaa
open PCodecKeeps (info5 info51 S51 k51 z51)
open Go.RowKit Go.Proofs.YtbddllklagiajaaW.PrintWords Go.Proofs.YtbddllklagiajaaW.PrintLast Go.Proofs.YtbddllklagiajaaW.PrintMore
set_option linter.unusedVariables false
set_option linter.unusedSimpArgs false

/-- A byte of a row of the call's own. -/
theorem row_at {w : World} {base n c : Nat} {ok : Nat → Prop} {A : Option Addr} {xs : List Int} (h : KB.R 5 w base ok (.slice A n c) xs) (k : Nat) (hk : k < n) :
    ∃ g, A = some ⟨g, 0, none⟩ ∧ base ≤ g ∧ ok g ∧ g < w.heap.size ∧ w.cell? ⟨g, k, none⟩ = some (.int .u8 (xs.getD k 0)) ∧ w.frozen? ⟨g, k, none⟩ = false := by
  obtain ⟨rfl, hc, hC⟩ := Kd.R_reads' h
  have ho := Kd.own_of_R h
  rcases ho.2 with ⟨he, hn⟩ | ⟨g, cap, cur, he, hg, hb, _⟩
  · omega
  · injection he with h1 h2 h3
    subst h1
    obtain ⟨ad, e, hx⟩ := Kd.at_int hC k (by omega) (by omega)
    injection e with e
    subst e
    refine ⟨g, rfl, hg, h.1 g rfl, blk_lt hb, ?_, blk_frozen hb k⟩
    rw [show (Addr.add ⟨g, 0, none⟩ ((k : Int).toNat)) = ⟨g, k, none⟩ by rw [add_plain]; simp, rd_nat] at hx
    exact hx

theorem takeBytes {l : List Int} (h : Bytes l) (m : Nat) : Bytes (l.take m) := fun x hx => h x (List.mem_of_mem_take hx)

attribute [local go_sem] min2_int
set_option maxHeartbeats 4000000 in
set_option maxRecDepth 100000 in
theorem codecKeeps_walk (A : Option Addr) (n c : Nat) (l : List S51) (A0 : Option Addr) (n0 c0 : Nat) (l0 : List Int) (w : World) (hl : l.length = n) (hC : k51.C w A n l) (hok : ∀ v ∈ l, OkV v) (hn : n ≤ 9223372036854775807)
    (hl0 : l0.length = min n0 200) (hC0 : KB.C w A0 (min n0 200) l0) (hby : Bytes l0) (hc0 : n0 ≤ c0) (hn0 : n0 ≤ 9223372036854775807) :
    Calls Try.prog 6 #[.slice A n c, .slice A0 n0 c0] w fun e w' => e = .returned (.bool true) ∧ Below w.heap.size w w' := by
  have hso := shortV_ok hok
  have hsl := shortV_len l
  have hm := min_200 n0
  obtain ⟨m, hmm⟩ : ∃ m, min n0 200 = m := ⟨_, rfl⟩
  rw [hmm] at hl0 hC0 hm
  have hmn : m ≤ n0 := by omega
  have hmc : m ≤ c0 := by omega
  have hm2 : m ≤ 200 := by omega
  have HSO := Aside0.mk hso
  have HC := Aside0.mk hC
  have HL := Aside0.mk hl
  have HO := Aside0.mk hok
  have HC0 := Aside0.mk hC0
  have HL0 := Aside0.mk hl0
  have HBy := Aside0.mk hby
  have HSL := Aside0.mk hsl
  clear hso hC hl hok hsl hC0 hl0 hmm hby
  go_enter Try.func6, Try.ntmps6
  go_wp2_with fail
  refine start_ (n := 11) (S := fun _ => True) (ds := []) #[false, false, false, false, false, false, false, false, false, false, false] (by kernel_rfl) rfl rfl trivial (fun hHeld => ?_)
  refine pure_ (i := 0) (N := some 18) (v := ?_) (a' := ?_) #[true, false, false, false, false, false, false, false, false, false, false] rfl rfl (by kernel_rfl) (fun _ _ _ h => h) (Or.inl ⟨by rfl, ?_⟩) ?_ ?_
  rotate_left
  · intro w'
    go_simp
    with_reducible rfl
  rotate_left
  · simp only [Act.put, List.setIfInBounds_toArray, List.set_cons_zero, List.set_cons_succ, i64_w, i32_w]
    rfl
  refine pure_ (i := 3) (N := some 21) (v := ?_) (a' := ?_) #[true, false, false, true, false, false, false, false, false, false, false] rfl rfl (by kernel_rfl) (fun _ _ _ h => h) (Or.inl ⟨by rfl, ?_⟩) ?_ ?_
  rotate_left
  · intro w'
    go_simp
    with_reducible rfl
  rotate_left
  · simp only [Act.put, List.setIfInBounds_toArray, List.set_cons_zero, List.set_cons_succ, i64_w, i32_w]
    rfl
  refine pure_ (i := 4) (N := some 22) (v := ?_) (a' := ?_) #[true, false, false, true, true, false, false, false, false, false, false] rfl rfl (by kernel_rfl) (fun _ _ _ h => h) (Or.inl ⟨by rfl, ?_⟩) ?_ ?_
  rotate_left
  · intro w'
    go_simp
    with_reducible rfl
  rotate_left
  · simp only [Act.put, List.setIfInBounds_toArray, List.set_cons_zero, List.set_cons_succ, i64_w, i32_w]
    rfl
  refine pure_ (i := 5) (N := some 23) (v := ?_) (a' := ?_) #[true, false, false, true, true, true, false, false, false, false, false] rfl rfl (by kernel_rfl) (fun _ _ _ h => h) (Or.inl ⟨by rfl, ?_⟩) ?_ ?_
  rotate_left
  · intro w'
    go_simp
    with_reducible rfl
  rotate_left
  · simp only [Act.put, List.setIfInBounds_toArray, List.set_cons_zero, List.set_cons_succ, i64_w, i32_w]
    rfl
  refine pure_ (i := 6) (N := some 24) (v := ?_) (a' := ?_) #[true, false, false, true, true, true, true, false, false, false, false] rfl rfl (by kernel_rfl) (fun _ _ _ h => h) (Or.inl ⟨by rfl, ?_⟩) ?_ ?_
  rotate_left
  · intro w'
    go_simp
    with_reducible rfl
  rotate_left
  · simp only [Act.put, List.setIfInBounds_toArray, List.set_cons_zero, List.set_cons_succ, i64_w, i32_w]
    rfl
  refine pure_ (i := 7) (N := some 25) (v := ?_) (a' := ?_) #[true, false, false, true, true, true, true, true, false, false, false] rfl rfl (by kernel_rfl) (fun _ _ _ h => h) (Or.inl ⟨by rfl, ?_⟩) ?_ ?_
  rotate_left
  · intro w'
    go_simp
    with_reducible rfl
  rotate_left
  · simp only [Act.put, List.setIfInBounds_toArray, List.set_cons_zero, List.set_cons_succ, i64_w, i32_w]
    rfl
  refine join_ (σ := Value × Value) 3 #[true, true, true, true, true, true, true, true, false, false, false] (fun s => [(19, s.1), (20, s.2)]) (fun s W => Stab k51 W (fun k => some k = s.2.ownBlock ∨ W.heap.size ≤ k) s.1 (shortV l) ∧ KB.R 5 W w.heap.size (fun _ => True) s.2 [] ∧ Below w.heap.size w W) ?_ (fun hj => ?_)
  rotate_left
  refine two_ (i := 1) (j := 2) (Ni := some 19) (Nj := some 20) #[true, true, false, true, true, true, true, true, false, false, false] #[true, false, true, true, true, true, true, true, false, false, false] rfl rfl rfl rfl (by kernel_rfl) (by decide) (by decide) (fun K hK => ?_) (fun K hK => ?_)
  · skip
    refine call_ 25 #[.slice A n c] (by rfl) rfl ?hrun0 ?_
    case hrun0 => go_simp
    refine (short_calls A n c l w.drew HL.out HC.out HO.out hn).mono ?_
    rintro e w1 ⟨v1, rfl, R1, B1⟩
    refine ⟨_, rfl, hK.out _ _ trivial (fun _ => ?_)⟩
    clear hK K
    have hB1 : Below w.heap.size w w1 := below_step (Below.refl _ _).drew B1
    refine one_ (i := 2) (N := some 20) #[true, true, true, true, true, true, true, true, false, false, false] rfl rfl (by kernel_rfl) (by decide) (fun K hK => ?_)
    refine Kd.R_lit_step KB (w0 := w) w.heap.size 5 rfl (N := 20) rfl (xs := []) (inner := []) (ok := fun _ => True) (okp := fun _ => True) ?hrun (Reps.none _ _) (fun _ h => h) trivial hB1 hB1.size (by simp) ?_
    case hrun => go_simp
    rintro v2 w2 R2 B2 G2 ⟨b2, hb2, hle⟩
    refine hK.out _ _ trivial (fun _ => ?_)
    clear hK K
    refine norm_ ?ha (hj (v1, v2) w2 ⟨?f1, R2, B2⟩)
    case ha => rfl
    case f1 =>
      have F12 : Frm w1 w2 (fun _ => False) := (Frm.refl w1 _).grown G2 (fun k hk => by cases hk)
      refine (Stab.of_R R1 (S := fun k => some k = v2.ownBlock ∨ w1.heap.size ≤ k) (fun k _ _ h1 h2 => ?_)).step (F12.kept.mono (fun _ h => h.elim)) |>.fewer (fun k hk h => ?_)
      · rw [hb2] at h2
        rcases h2 with h2 | h2
        · injection h2 with h2; omega
        · omega
      · rcases h with h | h
        · exact .inl h
        · omega
  · skip
    refine Kd.R_lit_step KB (w0 := w) w.heap.size 5 rfl (N := 20) rfl (xs := []) (inner := []) (ok := fun _ => True) (okp := fun _ => True) ?hrun (Reps.none _ _) (fun _ h => h) trivial (Below.refl _ _).drew (Nat.le_refl _) (by simp) ?_
    case hrun => go_simp
    rintro v2 w2 R2 B2 G2 ⟨b2, hb2, hle⟩
    refine hK.out _ _ trivial (fun _ => ?_)
    clear hK K
    refine one_ (i := 1) (N := some 19) #[true, true, true, true, true, true, true, true, false, false, false] rfl rfl (by kernel_rfl) (by decide) (fun K hK => ?_)
    refine call_ 25 #[.slice A n c] (by rfl) rfl ?hrun0 ?_
    case hrun0 => go_simp
    refine (short_calls A n c l w2 HL.out (Kd.C_below HC.out B2) HO.out hn).mono ?_
    rintro e w1 ⟨v1, rfl, R1, B1⟩
    refine ⟨_, rfl, hK.out _ _ trivial (fun _ => ?_)⟩
    clear hK K
    refine norm_ ?ha (hj (v1, v2) w1 ⟨?f1, Kd.R_below R2 B1, below_step B2 B1⟩)
    case ha => rfl
    case f1 =>
      refine Stab.of_R R1 (fun k _ h0 h1 h2 => ?_)
      have hlt := Kd.R_bound R2
      have := (hlt.1 b2 hb2).2.2.1
      rw [hb2] at h2
      rcases h2 with h2 | h2
      · injection h2 with h2; omega
      · omega
  rintro ⟨v1, v2⟩ w1 ⟨S1, R2, B1⟩
  dsimp only at S1 R2 B1
  simp only [putAll, Act.put, List.setIfInBounds_toArray, List.set_cons_zero, List.set_cons_succ]
  refine one_ (i := 8) (N := some 26) #[true, true, true, true, true, true, true, true, true, false, false] rfl rfl (by kernel_rfl) (by decide) (fun K hK => ?_)
  obtain ⟨A1, c1, rfl, hc1, hC1⟩ := S1
  obtain ⟨A2, n2, c2, rfl⟩ := R_form' R2
  refine Kd.R_append_rows_step KB (Rr := KB.K w1) (w0 := w) w.heap.size rfl (.tmp 20) (.tmp 25) 22 5 (.int .u8 0) 1 rfl Try.underlying22 info5 rfl (by decide) (by decide) (.slice A2 n2 c2) [] l0 A0 m c0 (fun _ => True) (fun _ => False) rfl rfl R2 ?aR ?aK (fun _ h => h.elim) (fun _ _ => trivial) B1 B1.size ?aL ?_
  case aR => exact Kd.C_below HC0.out B1
  case aK => exact fun _ _ h => h
  case aL => simp; omega
  intro v3 w3 R3 B3 G3 hat3
  refine hK.out _ _ trivial (fun _ => ?_)
  clear hK K
  refine pure_ (i := 9) (N := some 0) (v := ?_) (a' := ?_) #[true, true, true, true, true, true, true, true, true, true, false] rfl rfl (by kernel_rfl) (fun _ _ _ h => h) (Or.inl ⟨by rfl, ?_⟩) ?_ ?_
  rotate_left
  · intro w'
    go_simp
    with_reducible rfl
  rotate_left
  · simp only [Act.put, List.setIfInBounds_toArray, List.set_cons_zero, List.set_cons_succ, i64_w, i32_w]
    rfl
  refine pure_ (i := 10) (N := some 1) (v := ?_) (a' := ?_) #[true, true, true, true, true, true, true, true, true, true, true] rfl rfl (by kernel_rfl) (fun _ _ _ h => h) (Or.inl ⟨by rfl, ?_⟩) ?_ ?_
  rotate_left
  · intro w'
    go_simp
    with_reducible rfl
  rotate_left
  · simp only [Act.put, List.setIfInBounds_toArray, List.set_cons_zero, List.set_cons_succ, i64_w, i32_w]
    rfl
  refine done_ (by kernel_rfl) ?_
  have hwl := writeV_len (shortV l) ([], 0) (fun v hv => ⟨(HSO.out v hv).1, by have := (HSO.out v hv).2; omega⟩)
  obtain ⟨sl, hsl0⟩ : ∃ sl, shortV l = sl := ⟨_, rfl⟩
  have hSO := HSO.out
  have hSL := HSL.out
  rw [hsl0] at hwl hC1 hc1 hSO hSL ⊢
  obtain ⟨st, hst⟩ : ∃ st, writeV sl ([], 0) = st := ⟨_, rfl⟩
  rw [hst] at hwl
  have hwl2 : st.1.length ≤ 1000000000 := by simp at hwl; omega
  obtain ⟨n1, hn1⟩ : ∃ n1, sl.length = n1 := ⟨_, rfl⟩
  rw [hn1] at hC1 hc1 hwl hSL ⊢
  have hn140 : n1 ≤ 40 := by omega
  rw [List.nil_append] at R3
  obtain ⟨A3, n3, c3, rfl⟩ := R_form' R3
  have F13 : Frm w1 w3 (fun k => some k = (Value.slice A2 n2 c2).ownBlock) := (Frm.refl w1 _).grown G3 (fun k hk => .inl hk.symm)
  have HSO := Aside0.mk hSO
  have HST := Aside0.mk hst
  have HWL := Aside0.mk hwl2
  have HN1 := Aside0.mk hn1
  have HC1 := Aside0.mk (fun W (hk : Kept w3 W (fun k => w3.heap.size ≤ k)) => hC1 W ((F13.kept.mono (fun _ h => .inl h)).then_ hk (fun k hk => .inr (Nat.le_trans F13.size hk))))
  have HR3 := Aside0.mk (Kd.R_mono (Kd.R_bound R3) (ok' := fun k => k < w3.heap.size) (fun k hk => hk.2.2.1))
  have HF0 : Aside0 (Frm w w3 (fun _ => False)) := Aside0.mk (Frm.of_fresh B3 _)
  have HBy3 := Aside0.mk HBy.out
  have B0 := Aside0.mk B3.size
  clear hSO hSL hwl hwl2 hst hsl0 hn1 hC1 R3 F13 B1 R2 B3 G3 hat3 HC HL HO HBy HSL HC0 hHeld
  go_wp2_with fail
  refine (newWriter_calls w3.heap.size w3 (Nat.le_refl _)).mono ?_
  rintro e w4 ⟨rfl, W4, B4, s4⟩
  have HW4 := Aside0.mk W4
  have HF4 := Aside0.mk (HF0.out.fresh B4)
  have HK4 := Aside0.mk (Frm.of_fresh B4 (fun k => w3.heap.size ≤ k))
  have HS4 := Aside0.mk s4
  clear W4 B4 s4 HF0
  go_wp2_with fail
  refine (write_law w3.heap.size w3.heap.size (fun _ => False) ([], 0) A1 n1 c1 sl _ HW4.out (fun _ h => h.elim) HK4.out.size HN1.out (fun W hk => HC1.out W (HK4.out.kept.then_ hk (fun b hb => .inl (by rcases hb with rfl | hb; exact Nat.le_refl _; exact hb.elim)))) (fun v hv => ⟨(HSO.out v hv).1, by have := (HSO.out v hv).2; omega⟩) (by omega) (by simp)).mono ?_
  rintro e w5 ⟨rfl, W5, F5⟩
  rw [HST.out] at W5
  have F5' : Frm w4 w5 (fun k => w3.heap.size ≤ k) := F5.mono (fun k hk => by rcases hk with rfl | hk; exact Nat.le_refl _; exact hk.elim)
  have HK5 := Aside0.mk (HK4.out.then_ F5' (fun _ h => .inl h))
  have HF5 := Aside0.mk (HF4.out.then_ F5' (fun k h => .inr (Nat.le_trans B0.out h)))
  have HW5 := Aside0.mk W5.tight
  clear W5 F5 F5' HW4 HF4 HK4 HC1
  go_wp2_with fail
  refine (bytes_any w3.heap.size _ _ st w5 HW5.out (by have := HWL.out; omega)).mono ?_
  rintro e w6 ⟨v6, rfl, R6, B6⟩
  obtain ⟨A6, n6, c6, rfl⟩ := R_form' R6
  have HW6 := Aside0.mk ((HW5.out.frm (Frm.of_fresh B6 (fun _ => False)) (fun h => h) (fun _ _ h => h)).mono (P' := fun k => k < w5.heap.size) (fun k hk => hk.2.2.2))
  have HG5 := Aside0.mk HW5.out.lt
  have HF6 := Aside0.mk (HF5.out.fresh B6)
  have HK6 := Aside0.mk (HK5.out.fresh B6)
  have r6 := Kd.R_reads' R6
  have hcv6 := Kd.C_string (P := Try.prog) (c := c6) Try.underlying22 Try.underlying5 Try.underlying9 r6.2.2
  obtain ⟨sx, hsx⟩ : ∃ sx, strOfNums (resW st) = sx := ⟨_, rfl⟩
  rw [← r6.1, hsx] at hcv6
  have HR6 := Aside0.mk R6
  have hl6 : n6 ≤ 1000000000 := by
    have h1 := HWL.out
    have h2 := r6.1
    unfold resW at h2
    split at h2
    · omega
    · simp at h2; omega
  have HSX := Aside0.mk hsx
  clear R6 B6 HW5 HF5 HK5 r6 hsx
  go_wp2
  go_loopw [9] (fun i wr => ∃ (k : Nat) (xs : List Int), k ≤ n6 ∧ i = .int .i64 k ∧ KB.R 5 wr w5.heap.size (fun _ => True) (.slice A6 n6 c6) xs ∧ Frm w6 wr (fun k => w5.heap.size ≤ k)) (fun i _ => n6 - (intOf i).toNat)
  case atStart => exact ⟨0, _, Nat.zero_le _, rfl, HR6.out, Frm.refl _ _⟩
  case round =>
    obtain ⟨k, xs, hk, rfl, hr, hf⟩ := hrel
    by_cases hlt : k < n6
    · obtain ⟨g, rfl, hg, _, hgl, hx, hfz⟩ := row_at hr k hlt
      obtain ⟨x, hxx⟩ : ∃ x, xs.getD k 0 = x := ⟨_, rfl⟩
      rw [hxx] at hx
      have HR := Aside0.mk hr
      have HF := Aside0.mk hf
      have HG := Aside0.mk hg
      clear hr hf hxx hg hcv6
      go_wp2
      go_roundw
      case rel => exact ⟨k + 1, _, by omega, by go_num, Kd.R_putn HR.out k _, HF.out.setCell (.inl HG.out) _⟩
      case measure => simp [intOf]; omega
    · have hkn : n6 ≤ k := by omega
      have HF := Aside0.mk hf
      clear hr hf hlt hcv6
      have h35 : w3.heap.size ≤ w5.heap.size := Nat.le_of_lt HG5.out
      have HW7 := Aside0.mk (HW6.out.frm HF.out (fun h => by have := HG5.out; omega) (fun k hk h => by omega))
      have HF7 := Aside0.mk (HF6.out.then_ HF.out (fun k h => .inr (Nat.le_trans (Nat.le_trans B0.out h35) h)))
      have HK7 := Aside0.mk (HK6.out.then_ HF.out (fun k h => .inl (Nat.le_trans h35 h)))
      clear HW6 HF6 HK6 HF h35 HR6 HG5
      go_wp2_with fail
      refine (bytes_any w3.heap.size _ _ st wr HW7.out (by have := HWL.out; omega)).mono ?_
      rintro e w8 ⟨v8, rfl, R8, B8⟩
      obtain ⟨A8, n8, c8, rfl⟩ := R_form' R8
      have HF8 := Aside0.mk (HF7.out.fresh B8)
      have HK8 := Aside0.mk (HK7.out.fresh B8)
      have HR8 := Aside0.mk (Kd.R_mono (Kd.R_bound R8) (ok' := fun k => w3.heap.size ≤ k ∧ k < w8.heap.size) (fun k hk => ⟨Nat.le_trans HK7.out.size hk.2.1, hk.2.2.1⟩))
      have HR38 := Aside0.mk (Kd.R_kept HR3.out HK8.out.kept (fun k h1 h2 => by omega))
      clear R8 B8 HF7 HK7 HW7
      go_wp2_with fail
      refine (newReader_calls w3.heap.size A3 n3 c3 l0 w8 HK8.out.size (Kd.R_reads' HR38.out).1.symm (by have h := (Kd.R_reads' HR38.out); rw [← h.1] at h; exact h.2.2) (by have := (Kd.R_reads' HR38.out).1; have := HL0.out; omega)).mono ?_
      rintro e w9 ⟨g, rfl, RD9, hg9, B9⟩
      have HRD9 := Aside0.mk RD9
      have HG9 := Aside0.mk hg9
      have HF9 := Aside0.mk (HF8.out.fresh B9)
      have HK9 := Aside0.mk (HK8.out.fresh B9)
      have HR39 := Aside0.mk (Kd.R_below HR38.out B9)
      have HR89 := Aside0.mk (Kd.R_below HR8.out B9)
      have H89 := Aside0.mk B9.size
      clear RD9 hg9 B9 HF8 HR8 HR38
      go_wp2_with fail
      refine (one1_calls A3 n3 c3 l0 w9 (Kd.R_reads' HR39.out).1.symm (Kd.R_reads' HR39.out).2.1 (by have h := (Kd.R_reads' HR39.out); rw [← h.1] at h; exact h.2.2) HBy3.out (by have := (Kd.R_reads' HR39.out).1; have := HL0.out; omega)).mono ?_
      rintro e w10 ⟨rfl, B10⟩
      obtain ⟨⟨r1, r2, r3⟩, hr1⟩ : ∃ r, one1 l0 = r := ⟨_, rfl⟩
      rw [hr1]
      have HONE := Aside0.mk hr1
      have HRD := Aside0.mk (HRD9.out.frm (Frm.of_fresh B10 (fun _ => False)) (fun h => h) (fun _ _ h => h))
      have HF10 := Aside0.mk (HF9.out.fresh B10)
      have HK10 := Aside0.mk (HK9.out.fresh B10)
      have HR310 := Aside0.mk (Kd.R_below HR39.out B10)
      have HR810 := Aside0.mk (Kd.R_below HR89.out B10)
      have H910 := Aside0.mk B10.size
      clear B10 HRD9 HF9 HK9 HR39 HR89 hr1
      dsimp only
      have hn3 : n3 ≤ 200 := by have := (Kd.R_reads' HR310.out).1; have := HL0.out; omega
      go_wp2
      go_loopw [16] (fun i wr => ∃ (k : Nat) (xs : List Int), k ≤ n3 ∧ i = .int .i64 k ∧ KB.R 5 wr w.heap.size (fun k => k < w3.heap.size) (.slice A3 n3 c3) xs ∧ Frm w10 wr (fun k => k < w3.heap.size ∧ w.heap.size ≤ k) ∧ wr.heap[w10.heap.size]? = some (.cells #[.int .u8 1, .int .i64 r1, .bool false, .string ⟨#[]⟩, .int .i64 0] 51 (0, 0))) (fun i _ => n3 - (intOf i).toNat)
      case atStart => exact ⟨0, _, Nat.zero_le _, rfl, Kd.R_alloc HR310.out _, (Frm.refl _ _).alloc _, blk_new _ _⟩
      case round =>
        obtain ⟨k, xs, hk, rfl, hr, hf, hb⟩ := hrel
        by_cases hlt : k < n3
        · obtain ⟨g, rfl, hg, hgo, hgl, hx, hfz⟩ := row_at hr k hlt
          obtain ⟨x, hxx⟩ : ∃ x, xs.getD k 0 = x := ⟨_, rfl⟩
          rw [hxx] at hx
          have HR := Aside0.mk hr
          have HF := Aside0.mk hf
          have HG := Aside0.mk (show g < w3.heap.size ∧ w.heap.size ≤ g from ⟨hgo, hg⟩)
          have HB := Aside0.mk hb
          have HNE := Aside0.mk (show w10.heap.size ≠ g by have := HG.out.1; have := HK10.out.size; omega)
          clear hr hf hxx hg hgo hb
          go_wp2
          go_roundw
          case rel => exact ⟨k + 1, _, by omega, by go_num, Kd.R_putn HR.out k _, HF.out.setCell (.inl HG.out) _, blk_far HB.out HNE.out _⟩
          case measure => simp [intOf]; omega
        · have hkn : n3 ≤ k := by omega
          have HF := Aside0.mk hf
          have HB := Aside0.mk hb
          clear hr hf hlt hb
          have HRD11 := Aside0.mk (HRD.out.frm HF.out (fun h => by have := HG9.out; have := HK8.out.size; omega) (fun k hk h => by have := HK8.out.size; omega))
          have HF11 := Aside0.mk (HF10.out.then_ HF.out (fun k h => .inr h.2))
          have HR811 := Aside0.mk (Kd.R_kept HR810.out HF.out.kept (fun k hk h => by omega))
          have HGL := Aside0.mk HRD.out.lt
          clear HF10 HF HRD HR810 HR310
          go_wp2_with fail
          refine (Signed_calls w3.heap.size g _ l0 (0, 0) wr HRD11.out HBy3.out (by have := HL0.out; omega)).mono ?_
          rintro e w12 ⟨rfl, _, F12⟩
          rw [List.drop_zero]
          have hres : (r3 ≠ 0 ∧ (rStep (0 : Int) (sgnR l0) (0, 0)).1 = 0) ∨ (r3 = 0 ∧ (rStep (0 : Int) (sgnR l0) (0, 0)).1 = r1) := by
            have h1 := HONE.out
            unfold one1 at h1
            unfold rStep sgnR
            simp only [Prod.mk.injEq] at h1
            by_cases h0 : (grpR 10 l0).2.2 = 0
            · right
              simp [h0]
              exact ⟨by omega, by rw [← h1.1]⟩
            · left
              simp [h0]
              omega
          obtain ⟨z, hz⟩ : ∃ z, (rStep (0 : Int) (sgnR l0) (0, 0)).1 = z := ⟨_, rfl⟩
          rw [hz] at hres ⊢
          have hge : w.heap.size ≤ g := Nat.le_trans (Nat.le_trans B0.out HK8.out.size) HG9.out
          have HF12 := Aside0.mk (HF11.out.then_ F12 (fun k hk => by subst hk; exact .inr hge))
          have HR812 := Aside0.mk (Kd.R_kept HR811.out F12.kept (fun k hk h => by have := HG9.out; omega))
          have HB12 := Aside0.mk (F12.blk HB.out (fun h => by have := HGL.out; omega))
          have HRES := Aside0.mk hres
          clear hres hz F12 hge HF11 HR811 HB HRD11
          go_wp2_with fail
          refine (known_calls w12).mono ?_
          rintro e w13 ⟨rfl, B13⟩
          have HF13 := Aside0.mk (HF12.out.fresh B13)
          have r8 := Kd.R_reads' (Kd.R_below HR812.out B13)
          have hcv8 := Kd.C_string (P := Try.prog) (c := c8) Try.underlying22 Try.underlying5 Try.underlying9 r8.2.2
          rw [← r8.1, HSX.out] at hcv8
          have hb13 : w13.cell? ⟨w10.heap.size, 1, none⟩ = some (.int .i64 r1) := blk_cell (blk_below HB12.out B13) 1
          clear B13 HF12 r8
          rcases HRES.out with ⟨h3, rfl⟩ | ⟨rfl, rfl⟩
          · have h31 : (r3 != 0) = true := bne_iff_ne.mpr h3
            go_wp2
            go_ret
            exact ⟨rfl, HF13.out.below (fun _ h => h.elim) (Nat.le_refl _)⟩
          · go_wp2
            go_ret
            exact ⟨rfl, HF13.out.below (fun _ h => h.elim) (Nat.le_refl _)⟩
end Go.Proofs.Ytbddllklagiajaa
