/- 'most' of the law's package. -/
import Derived.Test.YtbddllklagiajaaVi
import Derived.Test.YtbddllklagiajaaVe
namespace Go.Proofs.Ytbddllklagiajaa
open PCodecKeeps (info5 info51 S51 k51 z51)
open Go.RowKit Go.Proofs.YtbddllklagiajaaW.PrintWords Go.Proofs.YtbddllklagiajaaW.PrintLast Go.Proofs.YtbddllklagiajaaW.PrintMore
set_option linter.unusedVariables false
set_option linter.unusedSimpArgs false

/-- The limit that permits the value. -/
def mostV (v : S51) : S51 := ⟨v.f0, v.f1, v.f2, v.f3, if v.f0 % 4 = 3 then (v.f3.size : Int) else v.f1⟩
def mostL (l : List S51) : List S51 := l.map mostV
theorem mostL_len (l : List S51) : (mostL l).length = l.length := by simp [mostL]
theorem mostL_get (l : List S51) (i : Nat) (h : i < (mostL l).length) : (mostL l)[i] = mostV (l.getD i z51) := by
  have h1 : i < l.length := by rw [mostL_len] at h; omega
  simp [mostL, List.getD, h1]

set_option maxHeartbeats 2000000 in
set_option maxRecDepth 100000 in
theorem most_calls (A : Option Addr) (n c : Nat) (l : List S51) (w : World) (hl : l.length = n) (hC : k51.C w A n l) (hok : ∀ v ∈ l, OkV v) (hn : n ≤ 1000000) :
    Calls Try.prog 34 #[.slice A n c] w fun e w' => ∃ v, e = .returned v ∧ k51.R 51 w' w.heap.size (fun _ => True) v (mostL l) ∧ Below w.heap.size w w' := by
  have HC := Aside0.mk hC
  have HL := Aside0.mk hl
  have HO := Aside0.mk hok
  clear hC hl hok
  go_enter Try.func34, Try.ntmps34
  go_wp2
  go_loopw [3, 4] (fun v i wr => ∃ k : Nat, k ≤ n ∧ i = .int .i64 k ∧ k51.R 51 wr w.heap.size (fun _ => True) v ((mostL l).take k) ∧ Below w.heap.size w wr) (fun _ i _ => n - (intOf i).toNat)
  case atStart => exact ⟨0, Nat.zero_le _, rfl, Kd.R_nil _ _ _ _ _, Below.refl _ _⟩
  case round =>
    obtain ⟨k, hk, rfl, hr, hb⟩ := hrel
    obtain ⟨A2, n2, c2, rfl⟩ := R_form' hr
    by_cases hlt : k < n
    · obtain ⟨ad, e, h0, h1, h2, h3, h4⟩ := at_V (Kd.C_below HC.out hb) k (by omega)
      subst e
      have hv : l.getD k z51 ∈ l := by
        have : k < l.length := by rw [HL.out]; exact hlt
        rw [List.getD_eq_getElem?_getD, List.getElem?_eq_getElem this]
        exact List.getElem_mem _
      have hov := HO.out _ hv
      obtain ⟨x, hx⟩ : ∃ x, l.getD k z51 = x := ⟨_, rfl⟩
      rw [hx] at h0 h1 h2 h3 h4 hov
      have HX := Aside0.mk hx
      have HR := Aside0.mk hr
      have HB := Aside0.mk hb
      have hf00 := hov.1.1
      have hf01 := hov.1.2
      have hlr := (Kd.R_reads' hr).1
      rw [List.length_take, mostL_len, HL.out] at hlr
      have HLR := Aside0.mk hlr
      have e1 : (mostL l).take (k + 1) = (mostL l).take k ++ [mostV x] := by
        rw [List.take_succ_eq_append_getElem (by rw [mostL_len, HL.out]; exact hlt), mostL_get, hx]
      have HE1 := Aside0.mk e1
      obtain ⟨q, hq⟩ : ∃ q, (if x.f0 % 4 = 3 then (x.f3.size : Int) else x.f1) = q := ⟨_, rfl⟩
      have hmv : mostV x = ⟨x.f0, x.f1, x.f2, x.f3, q⟩ := by unfold mostV; rw [hq]
      rw [hmv] at HE1
      clear hx hr hb hv hov hlr e1 hmv
      by_cases h3k : x.f0 % 4 = 3
      · rw [if_pos h3k] at hq
        subst hq
        go_wp2_with ((with_reducible refine gate_dst (N := 30) rfl ?_); at_builtin; refine Kd.R_append k51 (w0 := w) w.heap.size rfl (.tmp 27) (.tmp 29) 36 51 (.agg #[(.int .u8 0), (.int .i64 0), (.bool false), (.string ⟨#[]⟩), (.int .i64 0)]) 48 rfl Try.underlying36 info51 rfl (by decide) (by decide) (.slice A2 n2 c2) ((mostL l).take k) ⟨x.f0, x.f1, x.f2, x.f3, (x.f3.size : Int)⟩ [.int .u8 x.f0, .int .i64 x.f1, .bool x.f2, .string x.f3, .int .i64 (x.f3.size : Int)] (fun _ => True) (fun _ => False) rfl ?aX ?aM (fun _ h => h.elim) (fun _ _ => trivial) ?aO ?aB ?aS ?aL ?_; (case aX => rw [World.size_alloc]; rfl); (case aM => exact PCodecKeeps.k51_mkM _ _ _ ⟨x.f0, x.f1, x.f2, x.f3, (x.f3.size : Int)⟩); (case aO => exact Kd.R_alloc HR.out _); (case aB => exact below_alloc HB.out _); (case aS => have := HB.out.size; simp; omega); (case aL => rw [List.length_take, mostL_len, HL.out]; omega); intro v3 w3 hr3 hb3 _ _; obtain ⟨A3, n3, c3, rfl⟩ := R_form' hr3; have HR3 := Aside0.mk hr3; have HB3 := Aside0.mk hb3; clear hr3 hb3)
        go_roundw
        case rel =>
          refine ⟨k + 1, by omega, by go_num, ?_, HB3.out⟩
          rw [HE1.out]
          exact HR3.out
        case measure => simp [intOf]; omega
      · rw [if_neg h3k] at hq
        subst hq
        go_wp2_with ((with_reducible refine gate_dst (N := 30) rfl ?_); at_builtin; refine Kd.R_append k51 (w0 := w) w.heap.size rfl (.tmp 27) (.tmp 29) 36 51 (.agg #[(.int .u8 0), (.int .i64 0), (.bool false), (.string ⟨#[]⟩), (.int .i64 0)]) 48 rfl Try.underlying36 info51 rfl (by decide) (by decide) (.slice A2 n2 c2) ((mostL l).take k) ⟨x.f0, x.f1, x.f2, x.f3, x.f1⟩ [.int .u8 x.f0, .int .i64 x.f1, .bool x.f2, .string x.f3, .int .i64 x.f1] (fun _ => True) (fun _ => False) rfl ?aX ?aM (fun _ h => h.elim) (fun _ _ => trivial) ?aO ?aB ?aS ?aL ?_; (case aX => rw [World.size_alloc]; rfl); (case aM => exact PCodecKeeps.k51_mkM _ _ _ ⟨x.f0, x.f1, x.f2, x.f3, x.f1⟩); (case aO => exact Kd.R_alloc HR.out _); (case aB => exact below_alloc HB.out _); (case aS => have := HB.out.size; simp; omega); (case aL => rw [List.length_take, mostL_len, HL.out]; omega); intro v3 w3 hr3 hb3 _ _; obtain ⟨A3, n3, c3, rfl⟩ := R_form' hr3; have HR3 := Aside0.mk hr3; have HB3 := Aside0.mk hb3; clear hr3 hb3)
        go_roundw
        case rel =>
          refine ⟨k + 1, by omega, by go_num, ?_, HB3.out⟩
          rw [HE1.out]
          exact HR3.out
        case measure => simp [intOf]; omega
    · have hkl : k = n := by omega
      have HR := Aside0.mk hr
      have HB := Aside0.mk hb
      subst hkl
      clear hr hb hlt hk
      go_wp2
      go_ret
      exact ⟨_, rfl, by have := HR.out; rw [show (mostL l).take k = mostL l from List.take_of_length_le (by rw [mostL_len, HL.out]; exact Nat.le_refl _)] at this; exact this, HB.out⟩
end Go.Proofs.Ytbddllklagiajaa
