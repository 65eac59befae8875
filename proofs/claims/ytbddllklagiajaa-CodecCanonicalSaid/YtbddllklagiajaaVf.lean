/- The reference's Signed, Text and Write. -/
import Derived.Test.YtbddllklagiajaaVe
import Derived.Test.YtbddllklagiajaaLb
namespace Go.Proofs.Ytbddllklagiajaa
open PCodecKeeps (info5 info51 S51 k51 z51)
open Go.RowKit Go.Proofs.YtbddllklagiajaaW.PrintWords Go.Proofs.YtbddllklagiajaaW.PrintLast Go.Proofs.YtbddllklagiajaaW.PrintMore
set_option linter.unusedVariables false
set_option linter.unusedSimpArgs false

theorem zig_ge {n : Int} (h : 0 ≤ n) : 2 * n = (zig n : Int) := by unfold zig; rw [if_pos h]; omega
theorem zig_lt' {n : Int} (h : n < 0) : 2 * -(n + 1) + 1 = (zig n : Int) := by unfold zig; rw [if_neg (by omega)]; omega

set_option maxHeartbeats 400000 in
theorem refSigned_calls (n : Int) (w : World) (h0 : -9223372036854775808 ≤ n) (h1 : n ≤ 9223372036854775807) :
    Calls Try.prog 73 #[.int .i64 n] w fun e w' => e = .returned (.int .u64 (zig n)) ∧ w = w' := by
  by_cases hn : 0 ≤ n
  · have hz := Aside0.mk (zig_ge hn)
    go_enter Try.func73, Try.ntmps73
    go_wp2
    go_ret
    exact ⟨by rw [← hz.out]; rfl, rfl⟩
  · have hn' : n < 0 := by omega
    have hz := Aside0.mk (zig_lt' hn')
    have h2 : ¬ 0 ≤ n := hn
    go_enter Try.func73, Try.ntmps73
    go_wp2
    go_ret
    exact ⟨by rw [← hz.out]; rfl, rfl⟩

theorem bytes_take (s : ByteArray) (k : Nat) (h : k < s.size) : (bytesOf s).take (k + 1) = (bytesOf s).take k ++ [((s[k]'h).toNat : Int)] := by
  have h2 : k < (bytesOf s).length := by rw [bytesOf_length]; exact h
  rw [List.take_succ_eq_append_getElem h2]
  congr 1
  simp only [bytesOf, List.getElem_map, List.cons.injEq, and_true]
  rfl

set_option maxHeartbeats 1000000 in
set_option maxRecDepth 100000 in
theorem refText_calls (s : ByteArray) (w : World) (hs : s.size ≤ 16777216) :
    Calls Try.prog 74 #[.string s] w fun e w' => ∃ v, e = .returned v ∧ KB.R 5 w' w.heap.size (fun _ => True) v (enc s.size ++ bytesOf s) ∧ Below w.heap.size w w' := by
  have hel := enc_len9 (show s.size < 9223372036854775808 by omega)
  have hbl := bytesOf_length s
  go_enter Try.func74, Try.ntmps74
  go_wp2_with fail
  refine (Natural_calls s.size w (by omega)).mono ?_
  rintro e w1 ⟨v1, rfl, R1, B1⟩
  have HR1 := Aside0.mk R1
  have HB1 := Aside0.mk B1
  clear R1 B1
  go_wp2
  go_loopw [3, 4] (fun v i wr => ∃ k : Nat, k ≤ s.size ∧ i = .int .i64 k ∧ KB.R 5 wr w.heap.size (fun _ => True) v (enc s.size ++ (bytesOf s).take k) ∧ Below w.heap.size w wr) (fun _ i _ => s.size - (intOf i).toNat)
  case atStart => exact ⟨0, Nat.zero_le _, rfl, by simpa using HR1.out, HB1.out⟩
  case round =>
    obtain ⟨k, hk, rfl, hr, hb⟩ := hrel
    obtain ⟨A2, n2, c2, rfl⟩ := R_form' hr
    have HR := Aside0.mk hr
    have HB := Aside0.mk hb
    have HBL := Aside0.mk hbl
    have HEL := Aside0.mk hel
    clear hr hb HR1 HB1 hbl hel
    by_cases hlt : k < s.size
    · have hts := bytes_take s k hlt
      have HTS := Aside0.mk hts
      clear hts
      go_wp2_with ((with_reducible refine gate_dst (N := 20) rfl ?_); at_builtin; refine Kd.R_append KB (w0 := w) w.heap.size rfl (.tmp 15) (.tmp 19) 22 5 (.int .u8 0) 1 rfl Try.underlying22 info5 rfl (by decide) (by decide) (.slice A2 n2 c2) (enc s.size ++ (bytesOf s).take k) (s[k].toNat : Int) [.int .u8 (s[k].toNat : Int)] (fun _ => True) (fun _ => False) rfl ?aX ?aM (fun _ h => h.elim) (fun _ _ => trivial) ?aO ?aB ?aS ?aL ?_; (case aX => rfl); (case aM => rfl); (case aO => exact HR.out); (case aB => exact HB.out); (case aS => exact HB.out.size); (case aL => have := HBL.out; have := HEL.out; simp; omega); intro v3 w3 hr3 hb3 _ _; obtain ⟨A3, n3, c3, rfl⟩ := R_form' hr3; have HR3 := Aside0.mk hr3; have HB3 := Aside0.mk hb3; clear hr3 hb3)
      go_roundw
      case rel =>
        refine ⟨k + 1, by omega, by go_num, ?_, HB3.out⟩
        have := HR3.out
        rw [List.append_assoc, ← HTS.out] at this
        exact this
      case measure => simp [intOf]; omega
    · have hkl : k = s.size := by omega
      subst hkl
      go_wp2
      go_ret
      have := HR.out
      rw [List.take_of_length_le (by rw [HBL.out]; exact Nat.le_refl _)] at this
      exact ⟨_, rfl, this, HB.out⟩

/-- What the reference's Write answers. -/
def resW (st : St) : List Int := if st.2 = 0 then st.1 else []

theorem stepV_failed (st : St) (v : S51) (h : st.2 ≠ 0) : stepV st v = st := by
  unfold stepV numS sgnS flagS textS
  simp [h]
theorem writeV_failed (l : List S51) (st : St) (h : st.2 ≠ 0) : writeV l st = st := by
  unfold writeV
  induction l with
  | nil => rfl
  | cons v l ih => rw [List.foldl_cons, stepV_failed st v h, ih]
theorem writeV_split (l : List S51) (st : St) (k : Nat) : writeV l st = writeV (l.drop k) (writeV (l.take k) st) := by
  unfold writeV
  rw [← List.foldl_append, List.take_append_drop]

set_option maxHeartbeats 4000000 in
set_option maxRecDepth 100000 in
theorem refWrite_calls (A : Option Addr) (n c : Nat) (l : List S51) (w : World) (hl : l.length = n) (hC : k51.C w A n l) (hok : ∀ v ∈ l, OkV v ∧ v.f3.size ≤ 16777216) (hn : n ≤ 1000) :
    Calls Try.prog 29 #[.slice A n c] w fun e w' => ∃ v, e = .returned (.tuple #[v, .int .i64 (writeV l ([], 0)).2]) ∧ KB.R 5 w' w.heap.size (fun _ => True) v (resW (writeV l ([], 0))) ∧ Below w.heap.size w w' := by
  have HC := Aside0.mk hC
  have HL := Aside0.mk hl
  have HO := Aside0.mk hok
  clear hC hl hok
  go_enter Try.func29, Try.ntmps29
  go_wp2
  go_loopw [4, 5] (fun v i wr => ∃ k : Nat, k ≤ n ∧ i = .int .i64 k ∧ (writeV (l.take k) ([], 0)).2 = 0 ∧ KB.R 5 wr w.heap.size (fun _ => True) v (writeV (l.take k) ([], 0)).1 ∧ Below w.heap.size w wr) (fun _ i _ => n - (intOf i).toNat)
  case atStart => exact ⟨0, Nat.zero_le _, rfl, rfl, Kd.R_nil _ _ _ _ _, Below.refl _ _⟩
  case round =>
    obtain ⟨k, hk, rfl, hs0, hr, hb⟩ := hrel
    obtain ⟨A2, n2, c2, rfl⟩ := R_form' hr
    by_cases hlt : k < n
    · obtain ⟨ad, e, h0, h1, h2, h3, h4⟩ := at_V (Kd.C_below HC.out hb) k hlt
      subst e
      have hv : l.getD k z51 ∈ l := by
        have : k < l.length := by rw [HL.out]; exact hlt
        rw [List.getD_eq_getElem?_getD, List.getElem?_eq_getElem this]
        exact List.getElem_mem _
      have hstep := writeV_take l ([], 0) k (by rw [HL.out]; exact hlt)
      have hlen2 := writeV_len (l.take k) ([], 0) (fun v hv => HO.out v (List.mem_of_mem_take hv))
      have htk : (l.take k).length = k := by rw [List.length_take, HL.out]; omega
      have hsplit := writeV_split l ([], 0) (k + 1)
      obtain ⟨x, hx⟩ : ∃ x, l.getD k z51 = x := ⟨_, rfl⟩
      rw [hx] at h0 h1 h2 h3 h4 hv hstep
      obtain ⟨st', hst⟩ : ∃ st', writeV (l.take k) ([], 0) = st' := ⟨_, rfl⟩
      rw [hst] at hs0 hr hstep hlen2
      have hov := HO.out x hv
      have hsl : st'.1.length ≤ 140737400000000 := by rw [htk] at hlen2; simp at hlen2; omega
      have HST := Aside0.mk hstep
      have HS0 := Aside0.mk hs0
      have HOV := Aside0.mk hov
      have HSL := Aside0.mk hsl
      have HSP := Aside0.mk hsplit
      have HR0 := Aside0.mk hr
      have HB0 := Aside0.mk hb
      have hf0 := hov.1.1.1
      have hs1 : decide ((16777216 : Int) < x.f3.size) = false := decide_eq_false (by have := hov.2; omega)
      clear hx hr hb hstep hlen2 hov hv hst hsl htk hs0 hsplit
      have h5 : x.f0 % 4 = 0 ∨ x.f0 % 4 = 1 ∨ x.f0 % 4 = 2 ∨ x.f0 % 4 = 3 := by omega
      rcases h5 with h5 | h5 | h5 | h5
      · by_cases hneg : x.f1 < 0
        · have hneg1 : decide (x.f1 < 0) = true := decide_eq_true hneg
          have HE := Aside0.mk (show stepV st' x = (st'.1, 2) by unfold stepV numS; rw [if_pos h5, if_pos HS0.out, if_pos hneg])
          go_wp2
          go_ret2
          have h6 : writeV l ([], 0) = (st'.1, 2) := by rw [HSP.out, HST.out, HE.out, writeV_failed _ _ (show (2 : Int) ≠ 0 by decide)]
          rw [h6]
          exact ⟨_, rfl, Kd.R_nil _ _ _ _ _, HB0.out.alloc HB0.out.size _⟩
        · have hneg1 : decide (x.f1 < 0) = false := decide_eq_false hneg
          obtain ⟨m, hm⟩ := Int.eq_ofNat_of_zero_le (show 0 ≤ x.f1 by omega)
          have HE := Aside0.mk (show stepV st' x = (st'.1 ++ enc m, 0) by unfold stepV numS; rw [if_pos h5, if_pos HS0.out, if_neg hneg, hm]; rfl)
          have hm2 : m < 9223372036854775808 := by have := HOV.out.1.2.1.2; omega
          have hml := enc_len9 hm2
          rw [hm] at h1 hneg1 hneg
          clear hm
          go_wp2_with fail
          refine (Natural_calls m _ (by omega)).mono ?_
          rintro e w2 ⟨v2, rfl, R2, B2⟩
          obtain ⟨A4, n4, c4, rfl⟩ := R_form' R2
          have HN := Aside0.mk (Kd.R_reads' R2)
          have hn4 := (Kd.R_reads' R2).1
          have HR' := Aside0.mk (Kd.R_below HR0.out ((below_alloc (Below.refl _ _) _).trans (B2.mono (by simp))))
          have HB' := Aside0.mk (below_step HB0.out ((below_alloc (Below.refl _ _) _).trans (B2.mono (by simp))))
          clear R2 B2 HR0 HB0
          have HR := HR'
          have HB := HB'
          clear HR' HB'
          rw [← hn4] at HN
          have HNL := Aside0.mk hn4
          clear hn4
          go_wp2_with ((with_reducible refine gate_dst (N := 39) rfl ?_); at_builtin; refine Kd.R_append_row (Value.int .u8) 0 (h1 := fun _ => rfl) (w0 := w) w.heap.size rfl (.tmp 34) (.tmp 38) 22 5 (.int .u8 0) 1 rfl Try.underlying22 info5 rfl (by decide) (.slice A2 n2 c2) st'.1 (enc m) A4 n4 c4 (fun _ => True) rfl rfl ?aF ?aO ?aR ?aB ?aS ?aL ?_; (case aF => exact fun _ _ => trivial); (case aO => exact HR.out); (case aR => exact HN.out.2.2); (case aB => exact HB.out); (case aS => exact HB.out.size); (case aL => have := HSL.out; have := HN.out.1; have := HNL.out; simp; omega); intro v3 w3 hr3 hb3 _ _; obtain ⟨A3, n3, c3, rfl⟩ := R_form' hr3; have HR3 := Aside0.mk hr3; have HB3 := Aside0.mk hb3; clear hr3 hb3)
          go_roundw
          case rel => exact ⟨k + 1, by omega, by go_num, by rw [HST.out, HE.out], by rw [HST.out, HE.out]; exact HR3.out, HB3.out⟩
          case measure => simp [intOf]; omega
      · have HE := Aside0.mk (show stepV st' x = (st'.1 ++ enc (zig x.f1), 0) by unfold stepV sgnS; rw [if_neg (by omega), if_pos h5, if_pos HS0.out])
        have hz := zig_lt HOV.out.1.2.1.1 HOV.out.1.2.1.2
        have hzl := enc_len10 hz
        go_wp2_with fail
        refine (refSigned_calls _ _ HOV.out.1.2.1.1 HOV.out.1.2.1.2).mono ?_
        rintro e w2 ⟨rfl, rfl⟩
        go_wp2_with fail
        refine (Natural_calls _ _ hz).mono ?_
        rintro e w2 ⟨v2, rfl, R2, B2⟩
        obtain ⟨A4, n4, c4, rfl⟩ := R_form' R2
        have HN := Aside0.mk (Kd.R_reads' R2)
        have hn4 := (Kd.R_reads' R2).1
        have HR := Aside0.mk (Kd.R_below HR0.out ((below_alloc (Below.refl _ _) _).trans (B2.mono (by simp))))
        have HB := Aside0.mk (below_step HB0.out ((below_alloc (Below.refl _ _) _).trans (B2.mono (by simp))))
        clear R2 B2 HR0 HB0
        rw [← hn4] at HN
        have HNL := Aside0.mk hn4
        clear hn4
        go_wp2_with ((with_reducible refine gate_dst (N := 47) rfl ?_); at_builtin; refine Kd.R_append_row (Value.int .u8) 0 (h1 := fun _ => rfl) (w0 := w) w.heap.size rfl (.tmp 42) (.tmp 46) 22 5 (.int .u8 0) 1 rfl Try.underlying22 info5 rfl (by decide) (.slice A2 n2 c2) st'.1 (enc (zig x.f1)) A4 n4 c4 (fun _ => True) rfl rfl ?bF ?bO ?bR ?bB ?bS ?bL ?_; (case bF => exact fun _ _ => trivial); (case bO => exact HR.out); (case bR => exact HN.out.2.2); (case bB => exact HB.out); (case bS => exact HB.out.size); (case bL => have := HSL.out; have := HN.out.1; have := HNL.out; simp at *; omega); intro v3 w3 hr3 hb3 _ _; obtain ⟨A3, n3, c3, rfl⟩ := R_form' hr3; have HR3 := Aside0.mk hr3; have HB3 := Aside0.mk hb3; clear hr3 hb3)
        go_roundw
        case rel => exact ⟨k + 1, by omega, by go_num, by rw [HST.out, HE.out], by rw [HST.out, HE.out]; exact HR3.out, HB3.out⟩
        case measure => simp [intOf]; omega
      · obtain ⟨b, hb⟩ : ∃ b, x.f2 = b := ⟨_, rfl⟩
        cases b with
        | true =>
          have HE := Aside0.mk (show stepV st' x = (st'.1 ++ [1], 0) by unfold stepV flagS; rw [if_neg (by omega), if_neg (by omega), if_pos h5, if_pos HS0.out, hb]; rfl)
          rw [hb] at h2
          have HB5 := Aside0.mk hb
          clear hb
          go_wp2_with ((with_reducible refine gate_dst (N := 54) rfl ?_); at_builtin; refine Kd.R_append KB (w0 := w) w.heap.size rfl (.tmp 52) (.tmp 53) 22 5 (.int .u8 0) 1 rfl Try.underlying22 info5 rfl (by decide) (by decide) (.slice A2 n2 c2) st'.1 1 [.int .u8 1] (fun _ => True) (fun _ => False) rfl ?eX ?eM (fun _ h => h.elim) (fun _ _ => trivial) ?eO ?eB ?eS ?eL ?_; (case eX => rw [World.size_alloc]; rfl); (case eM => rfl); (case eO => exact Kd.R_alloc HR0.out _); (case eB => exact below_alloc HB0.out _); (case eS => have := HB0.out.size; simp; omega); (case eL => have := HSL.out; simp; omega); intro v3 w3 hr3 hb3 _ _; obtain ⟨A3, n3, c3, rfl⟩ := R_form' hr3; have HR3 := Aside0.mk hr3; have HB3 := Aside0.mk hb3; clear hr3 hb3)
          go_roundw
          case rel => exact ⟨k + 1, by omega, by go_num, by rw [HST.out, HE.out], by rw [HST.out, HE.out]; exact HR3.out, HB3.out⟩
          case measure => simp [intOf]; omega
        | false =>
          have HE := Aside0.mk (show stepV st' x = (st'.1 ++ [0], 0) by unfold stepV flagS; rw [if_neg (by omega), if_neg (by omega), if_pos h5, if_pos HS0.out, hb]; rfl)
          rw [hb] at h2
          have HB5 := Aside0.mk hb
          clear hb
          go_wp2_with ((with_reducible refine gate_dst (N := 57) rfl ?_); at_builtin; refine Kd.R_append KB (w0 := w) w.heap.size rfl (.tmp 55) (.tmp 56) 22 5 (.int .u8 0) 1 rfl Try.underlying22 info5 rfl (by decide) (by decide) (.slice A2 n2 c2) st'.1 0 [.int .u8 0] (fun _ => True) (fun _ => False) rfl ?gX ?gM (fun _ h => h.elim) (fun _ _ => trivial) ?gO ?gB ?gS ?gL ?_; (case gX => rw [World.size_alloc]; rfl); (case gM => rfl); (case gO => exact Kd.R_alloc HR0.out _); (case gB => exact below_alloc HB0.out _); (case gS => have := HB0.out.size; simp; omega); (case gL => have := HSL.out; simp; omega); intro v3 w3 hr3 hb3 _ _; obtain ⟨A3, n3, c3, rfl⟩ := R_form' hr3; have HR3 := Aside0.mk hr3; have HB3 := Aside0.mk hb3; clear hr3 hb3)
          go_roundw
          case rel => exact ⟨k + 1, by omega, by go_num, by rw [HST.out, HE.out], by rw [HST.out, HE.out]; exact HR3.out, HB3.out⟩
          case measure => simp [intOf]; omega
      · have HE := Aside0.mk (show stepV st' x = (st'.1 ++ (enc x.f3.size ++ bytesOf x.f3), 0) by unfold stepV textS; rw [if_neg (by omega), if_neg (by omega), if_neg (by omega), if_pos HS0.out])
        have hzl := enc_len9 (show x.f3.size < 9223372036854775808 by have := HOV.out.2; omega)
        have hbl := bytesOf_length x.f3
        have hs2 := HOV.out.2
        go_wp2_with fail
        refine (refText_calls _ _ HOV.out.2).mono ?_
        rintro e w2 ⟨v2, rfl, R2, B2⟩
        obtain ⟨A4, n4, c4, rfl⟩ := R_form' R2
        have HN := Aside0.mk (Kd.R_reads' R2)
        have hn4 := (Kd.R_reads' R2).1
        have HR := Aside0.mk (Kd.R_below HR0.out ((below_alloc (Below.refl _ _) _).trans (B2.mono (by simp))))
        have HB := Aside0.mk (below_step HB0.out ((below_alloc (Below.refl _ _) _).trans (B2.mono (by simp))))
        clear R2 B2 HR0 HB0
        rw [← hn4] at HN
        have HNL := Aside0.mk hn4
        clear hn4
        go_wp2_with ((with_reducible refine gate_dst (N := 28) rfl ?_); at_builtin; refine Kd.R_append_row (Value.int .u8) 0 (h1 := fun _ => rfl) (w0 := w) w.heap.size rfl (.tmp 24) (.tmp 27) 22 5 (.int .u8 0) 1 rfl Try.underlying22 info5 rfl (by decide) (.slice A2 n2 c2) st'.1 (enc x.f3.size ++ bytesOf x.f3) A4 n4 c4 (fun _ => True) rfl rfl ?dF ?dO ?dR ?dB ?dS ?dL ?_; (case dF => exact fun _ _ => trivial); (case dO => exact HR.out); (case dR => exact HN.out.2.2); (case dB => exact HB.out); (case dS => exact HB.out.size); (case dL => have := HSL.out; have := HN.out.1; have := HNL.out; simp at *; omega); intro v3 w3 hr3 hb3 _ _; obtain ⟨A3, n3, c3, rfl⟩ := R_form' hr3; have HR3 := Aside0.mk hr3; have HB3 := Aside0.mk hb3; clear hr3 hb3)
        go_roundw
        case rel => exact ⟨k + 1, by omega, by go_num, by rw [HST.out, HE.out], by rw [HST.out, HE.out]; exact HR3.out, HB3.out⟩
        case measure => simp [intOf]; omega
    · have hkl : k = n := by omega
      subst hkl
      have HS0 := Aside0.mk hs0
      have HR := Aside0.mk hr
      have HB := Aside0.mk hb
      clear hs0 hr hb
      go_wp2
      go_ret2
      have h5 := HR.out
      have h6 := HS0.out
      rw [show l.take k = l from List.take_of_length_le (by rw [HL.out]; exact Nat.le_refl _)] at h5 h6
      rw [h6, resW, if_pos h6]
      exact ⟨_, rfl, h5, HB.out⟩

end Go.Proofs.Ytbddllklagiajaa
