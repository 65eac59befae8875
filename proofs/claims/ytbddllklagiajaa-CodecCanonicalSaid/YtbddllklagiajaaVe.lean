/- Values: 'short' cuts them; 'write' writes them. -/
import Derived.Test.YtbddllklagiajaaVd
namespace Go.Proofs.Ytbddllklagiajaa
open PCodecKeeps (info5 info51 S51 k51 z51)
open Go.RowKit Go.Proofs.YtbddllklagiajaaW.PrintWords Go.Proofs.YtbddllklagiajaaW.PrintLast Go.Proofs.YtbddllklagiajaaW.PrintMore
set_option linter.unusedVariables false
set_option linter.unusedSimpArgs false

/-- A value whose numbers are of their kinds. -/
def OkV (v : S51) : Prop := (0 ≤ v.f0 ∧ v.f0 ≤ 255) ∧ (-9223372036854775808 ≤ v.f1 ∧ v.f1 ≤ 9223372036854775807) ∧ (-9223372036854775808 ≤ v.f4 ∧ v.f4 ≤ 9223372036854775807) ∧ v.f3.size ≤ 9223372036854775807

/-- The text cut to 200 bytes. -/
def cutV (v : S51) : S51 := ⟨v.f0, v.f1, v.f2, v.f3.extract 0 (min v.f3.size 200), v.f4⟩
def shortV (l : List S51) : List S51 := (l.take 40).map cutV

theorem shortV_len (l : List S51) : (shortV l).length = min l.length 40 := by simp [shortV]; omega
theorem shortV_get (l : List S51) (i : Nat) (h : i < (shortV l).length) : (shortV l)[i] = cutV (l.getD i z51) := by
  have h1 : i < l.length := by rw [shortV_len] at h; omega
  simp [shortV, List.getD, h1]

theorem min_200 (n : Nat) : (if (200 : Int) < (n : Int) then (200 : Int) else (n : Int)) = ((min n 200 : Nat) : Int) := by
  split <;> omega

/-- The cells of value number k. -/
theorem at_V {w : World} {A : Option Addr} {n : Nat} {l : List S51} (h : k51.C w A n l) (k : Nat) (hk : k < n) : ∃ ad, A = some ad ∧ w.cell? (ad.add (k * 5)) = some (.int .u8 (l.getD k z51).f0) ∧
    w.cell? ⟨(ad.add (k * 5)).block, (ad.add (k * 5)).off + 1, none⟩ = some (.int .i64 (l.getD k z51).f1) ∧ w.cell? ⟨(ad.add (k * 5)).block, (ad.add (k * 5)).off + 2, none⟩ = some (.bool (l.getD k z51).f2) ∧
    w.cell? ⟨(ad.add (k * 5)).block, (ad.add (k * 5)).off + 3, none⟩ = some (.string (l.getD k z51).f3) ∧ w.cell? ⟨(ad.add (k * 5)).block, (ad.add (k * 5)).off + 4, none⟩ = some (.int .i64 (l.getD k z51).f4) := by
  have := PCodecKeeps.at_T51 h (k : Int) (by omega) (by omega)
  simpa [PCodecKeeps.rd_T51] using this

attribute [local go_sem] min2_int
set_option maxHeartbeats 2000000 in
set_option maxRecDepth 100000 in
theorem short_calls (A : Option Addr) (n c : Nat) (l : List S51) (w : World) (hl : l.length = n) (hC : k51.C w A n l) (hok : ∀ v ∈ l, OkV v) (hn : n ≤ 9223372036854775807) :
    Calls Try.prog 25 #[.slice A n c] w fun e w' => ∃ v, e = .returned v ∧ k51.R 51 w' w.heap.size (fun _ => True) v (shortV l) ∧ Below w.heap.size w w' := by
  have HC := Aside0.mk hC
  have HL := Aside0.mk hl
  have HO := Aside0.mk hok
  clear hC hl hok
  go_enter Try.func25, Try.ntmps25
  go_wp2
  go_loopw [3, 4] (fun v i wr => ∃ k : Nat, k ≤ (shortV l).length ∧ i = .int .i64 k ∧ k51.R 51 wr w.heap.size (fun _ => True) v ((shortV l).take k) ∧ Below w.heap.size w wr) (fun _ i _ => (shortV l).length - (intOf i).toNat)
  case atStart => exact ⟨0, Nat.zero_le _, rfl, Kd.R_nil _ _ _ _ _, Below.refl _ _⟩
  case round =>
    obtain ⟨k, hk, rfl, hr, hb⟩ := hrel
    have hsl := shortV_len l
    rw [HL.out] at hsl
    obtain ⟨A2, n2, c2, rfl⟩ := R_form' hr
    by_cases hlt : k < (shortV l).length
    · have hkn : k < n := by omega
      have hk40 : k < 40 := by omega
      obtain ⟨ad, e, h0, h1, h2, h3, h4⟩ := at_V (Kd.C_below HC.out hb) k (by omega)
      subst e
      obtain ⟨x, hx⟩ : ∃ x, l.getD k z51 = x := ⟨_, rfl⟩
      rw [hx] at h0 h1 h2 h3 h4
      have HX := Aside0.mk hx
      have HR := Aside0.mk hr
      have HB := Aside0.mk hb
      have hm := min_200 x.f3.size
      clear hx hr hb hsl
      have hK2 : k < 40 ∧ k ≤ 40 := ⟨hk40, by omega⟩
      go_wp2_with ((with_reducible refine gate_dst (N := 31) rfl ?_); at_builtin; refine Kd.R_append k51 (w0 := w) w.heap.size rfl (.tmp 28) (.tmp 30) 36 51 (.agg #[(.int .u8 0), (.int .i64 0), (.bool false), (.string ⟨#[]⟩), (.int .i64 0)]) 48 rfl Try.underlying36 info51 rfl (by decide) (by decide) (.slice A2 n2 c2) ((shortV l).take k) (cutV x) [.int .u8 x.f0, .int .i64 x.f1, .bool x.f2, .string (x.f3.extract 0 (min x.f3.size 200)), .int .i64 x.f4] (fun _ => True) (fun _ => False) rfl ?aX ?aM (fun _ h => h.elim) (fun _ _ => trivial) ?aO ?aB ?aS ?aL ?_; (case aX => rw [World.size_alloc]; rfl); (case aM => exact PCodecKeeps.k51_mkM _ _ _ (cutV x)); (case aO => exact Kd.R_alloc HR.out _); (case aB => exact below_alloc HB.out _); (case aS => have := HB.out.size; simp; omega); (case aL => simp; omega); intro v3 w3 hr3 hb3 _ _; obtain ⟨A3, n3, c3, rfl⟩ := R_form' hr3; have HR3 := Aside0.mk hr3; have HB3 := Aside0.mk hb3; clear hr3 hb3)
      go_roundw
      case rel =>
        refine ⟨k + 1, by omega, by go_num, ?_, HB3.out⟩
        have e1 : (shortV l).take (k + 1) = (shortV l).take k ++ [cutV x] := by
          rw [List.take_succ_eq_append_getElem hlt, shortV_get, HX.out]
        rw [e1]
        exact HR3.out
      case measure => simp [intOf]; omega
    · have hkl : k = (shortV l).length := by omega
      have h1 : n ≤ k ∨ (k < n ∧ 40 ≤ k) := by omega
      have HR := Aside0.mk hr
      have HB := Aside0.mk hb
      have HK := Aside0.mk hkl
      clear hr hb hsl hlt hkl hk
      rcases h1 with h1 | ⟨h1, h2⟩
      · go_wp2
        go_ret
        exact ⟨_, rfl, by have := HR.out; rw [HK.out, List.take_length] at this; exact this, HB.out⟩
      · go_wp2
        go_ret
        exact ⟨_, rfl, by have := HR.out; rw [HK.out, List.take_length] at this; exact this, HB.out⟩


/-! ### Writing values -/
abbrev St := List Int × Int
def numS (n : Int) (st : St) : St := if st.2 = 0 then (if n < 0 then (st.1, 2) else (st.1 ++ enc n.toNat, 0)) else st
def sgnS (n : Int) (st : St) : St := if st.2 = 0 then (st.1 ++ enc (zig n), 0) else st
def flagS (b : Bool) (st : St) : St := if st.2 = 0 then (st.1 ++ [flagB b], 0) else st
def textS (s : ByteArray) (st : St) : St := if st.2 = 0 then (st.1 ++ (enc s.size ++ bytesOf s), 0) else st
def stepV (st : St) (v : S51) : St :=
  if v.f0 % 4 = 0 then numS v.f1 st else if v.f0 % 4 = 1 then sgnS v.f1 st else if v.f0 % 4 = 2 then flagS v.f2 st else textS v.f3 st
def writeV (l : List S51) (st : St) : St := l.foldl stepV st

def WroteS (base g : Nat) (P : Nat → Prop) (w : World) (st : St) (e : Ending) (w' : World) : Prop :=
  e = .returned (.tuple #[]) ∧ Wr base w' g (fun k => P k ∨ w.heap.size ≤ k) st.1 st.2 ∧ Frm w w' (fun k => k = g ∨ P k)

theorem WroteS.of {base g : Nat} {P : Nat → Prop} {w : World} {out : List Int} {e : Ending} {w' : World} (h : Wrote base g P w out e w') : WroteS base g P w (out, 0) e w' := h
theorem WroteS.still {base g : Nat} {P : Nat → Prop} {w : World} {st : St} {e : Ending} {w' : World} (hW : Wr base w g P st.1 st.2) (h : Still w e w') : WroteS base g P w st e w' :=
  ⟨h.1, (hW.frm (Frm.of_fresh h.2 (fun _ => False)) (fun h => h) (fun _ _ h => h)).mono (fun _ hk => .inl hk), Frm.of_fresh h.2 _⟩

section
variable (base g : Nat) (P : Nat → Prop) (st : St) (w : World) (h : Wr base w g P st.1 st.2) (hP : ∀ k, P k → k ≠ g ∧ k < w.heap.size) (hbase : base ≤ w.heap.size) (hlen : st.1.length ≤ 140737400000000)
include h hP hbase hlen
theorem number_any (n : Int) (h0 : -9223372036854775808 ≤ n) (h1 : n ≤ 9223372036854775807) : Calls Try.prog 68 #[.pointer (some ⟨g, 0, none⟩), .int .i64 n] w (WroteS base g P w (numS n st)) := by
  obtain ⟨out, f⟩ := st
  unfold numS
  dsimp only at *
  by_cases hf : f = 0
  · subst hf
    rw [if_pos rfl]
    by_cases hn : n < 0
    · rw [if_pos hn]
      refine (number_neg base g P out n w h hP hn).mono ?_
      rintro e w' ⟨h1, h2, h3⟩
      exact ⟨h1, h2.mono (fun _ hk => .inl hk), h3⟩
    · rw [if_neg hn]
      obtain ⟨n, rfl⟩ := Int.eq_ofNat_of_zero_le (show 0 ≤ n by omega)
      exact (number_ok base g P out n w h hP hbase (by omega) (by omega)).mono (fun _ _ hw => hw)
  · rw [if_neg hf]
    exact (number_failed base g P out n f w h hf (by omega)).mono (fun _ _ hw => WroteS.still h hw)
theorem signedW_any (n : Int) (h0 : -9223372036854775808 ≤ n) (h1 : n ≤ 9223372036854775807) : Calls Try.prog 69 #[.pointer (some ⟨g, 0, none⟩), .int .i64 n] w (WroteS base g P w (sgnS n st)) := by
  obtain ⟨out, f⟩ := st
  unfold sgnS
  dsimp only at *
  by_cases hf : f = 0
  · subst hf
    rw [if_pos rfl]
    exact (signed_ok base g P out n w h hP hbase h0 h1 (by omega)).mono (fun _ _ hw => hw)
  · rw [if_neg hf]
    exact (signed_failed base g P out n f w h hf h0 h1).mono (fun _ _ hw => WroteS.still h hw)
theorem flagW_any (b : Bool) : Calls Try.prog 72 #[.pointer (some ⟨g, 0, none⟩), .bool b] w (WroteS base g P w (flagS b st)) := by
  obtain ⟨out, f⟩ := st
  unfold flagS
  dsimp only at *
  by_cases hf : f = 0
  · subst hf
    rw [if_pos rfl]
    exact (flag_ok base g P out b w h hP hbase (by omega)).mono (fun _ _ hw => hw)
  · rw [if_neg hf]
    exact (flag_failed base g P out b f w h hf).mono (fun _ _ hw => WroteS.still h hw)
theorem textW_any (s : ByteArray) (hs : s.size ≤ 16777216) : Calls Try.prog 70 #[.pointer (some ⟨g, 0, none⟩), .string s] w (WroteS base g P w (textS s st)) := by
  obtain ⟨out, f⟩ := st
  unfold textS
  dsimp only at *
  by_cases hf : f = 0
  · subst hf
    rw [if_pos rfl]
    exact (text_ok base g P out s w h hP hbase hs (by omega)).mono (fun _ _ hw => hw)
  · rw [if_neg hf]
    exact (text_failed base g P out s f w h hf hs).mono (fun _ _ hw => WroteS.still h hw)
end

theorem stepV_len (st : St) (v : S51) (hv : OkV v) (hs : v.f3.size ≤ 16777216) : (stepV st v).1.length ≤ st.1.length + 16777300 := by
  have h1 := enc_len10 (zig_lt hv.2.1.1 hv.2.1.2)
  have h2 := enc_len9 (show v.f3.size < 9223372036854775808 by omega)
  have h3 := bytesOf_length v.f3
  unfold stepV numS sgnS flagS textS
  split
  · split
    · split
      · simp
      · have := enc_len9 (show v.f1.toNat < 9223372036854775808 by have := hv.2.1.2; omega)
        simp; omega
    · simp
  · split
    · split
      · simp; omega
      · simp
    · split
      · split <;> simp
      · split
        · simp; omega
        · simp

theorem writeV_take (l : List S51) (st : St) (k : Nat) (h : k < l.length) : writeV (l.take (k + 1)) st = stepV (writeV (l.take k) st) (l.getD k z51) := by
  unfold writeV
  rw [List.take_succ_eq_append_getElem h, List.foldl_append]
  simp [List.getD, h]

theorem writeV_len (l : List S51) (st : St) (hok : ∀ v ∈ l, OkV v ∧ v.f3.size ≤ 16777216) : (writeV l st).1.length ≤ st.1.length + 16777300 * l.length := by
  unfold writeV
  induction l generalizing st with
  | nil => simp
  | cons v l ih =>
    have h1 := ih (stepV st v) (fun v hv => hok v (List.mem_cons_of_mem _ hv))
    have h2 := stepV_len st v (hok v (by simp)).1 (hok v (by simp)).2
    simp only [List.foldl_cons, List.length_cons]
    omega

set_option maxHeartbeats 2000000 in
set_option maxRecDepth 100000 in
theorem write_law (base g : Nat) (P : Nat → Prop) (st : St) (A : Option Addr) (n c : Nat) (l : List S51) (w : World) (h : Wr base w g P st.1 st.2) (hP : ∀ k, P k → k ≠ g ∧ k < w.heap.size) (hbase : base ≤ w.heap.size)
    (hl : l.length = n) (hC : ∀ W, Kept w W (fun k => k = g ∨ P k) → k51.C W A n l) (hok : ∀ v ∈ l, OkV v ∧ v.f3.size ≤ 16777216) (hn : n ≤ 1000) (hlen : st.1.length ≤ 1000000000000) :
    Calls Try.prog 27 #[.pointer (some ⟨g, 0, none⟩), .slice A n c] w (WroteS base g P w (writeV l st)) := by
  have HC := Aside0.mk hC
  have HL := Aside0.mk hl
  have HO := Aside0.mk hok
  have HP := Aside0.mk hP
  have HW := Aside0.mk h
  have HG := h.lt
  clear hC hl hok hP h
  go_enter Try.func27, Try.ntmps27
  go_wp2
  go_loopw [4] (fun i wr => ∃ k : Nat, k ≤ n ∧ i = .int .i64 k ∧ Wr base wr g (fun b => P b ∨ w.heap.size ≤ b) (writeV (l.take k) st).1 (writeV (l.take k) st).2 ∧ Frm w wr (fun b => b = g ∨ P b)) (fun i _ => n - (intOf i).toNat)
  case atStart => exact ⟨0, Nat.zero_le _, rfl, HW.out.mono (fun _ h => .inl h), Frm.refl _ _⟩
  case round =>
    obtain ⟨k, hk, rfl, hw, hf⟩ := hrel
    by_cases hlt : k < n
    · obtain ⟨ad, e, h0, h1, h2, h3, h4⟩ := at_V (HC.out _ hf.kept) k hlt
      subst e
      have hv : l.getD k z51 ∈ l := by
        have : k < l.length := by rw [HL.out]; exact hlt
        rw [List.getD_eq_getElem?_getD, List.getElem?_eq_getElem this]
        exact List.getElem_mem _
      have hstep := writeV_take l st k (by rw [HL.out]; exact hlt)
      have hlen2 := writeV_len (l.take k) st (fun v hv => HO.out v (List.mem_of_mem_take hv))
      have htk : (l.take k).length = k := by rw [List.length_take, HL.out]; omega
      obtain ⟨x, hx⟩ : ∃ x, l.getD k z51 = x := ⟨_, rfl⟩
      rw [hx] at h0 h1 h2 h3 h4 hv hstep
      obtain ⟨st', hst⟩ : ∃ st', writeV (l.take k) st = st' := ⟨_, rfl⟩
      rw [hst] at hw hstep hlen2
      have hov := HO.out x hv
      have hf0 := hov.1.1
      have HST := Aside0.mk hstep
      have HWr := Aside0.mk hw.tight
      have HF := Aside0.mk hf
      have HOV := Aside0.mk hov
      have hsl : st'.1.length ≤ 140737400000000 := by rw [htk] at hlen2; omega
      have HSL := Aside0.mk hsl
      have HBs := Aside0.mk (Nat.le_trans hbase hf.size)
      have hlt0 : 0 ≤ x.f0 := hf0.1
      clear hx hw hf hstep hlen2 hov hv hst hsl htk hf0 h4
      have tail : ∀ w3 : World, WroteS base g (fun b => (P b ∨ w.heap.size ≤ b) ∧ b ≠ g ∧ base ≤ b ∧ b < wr.heap.size) wr (stepV st' x) (.returned (.tuple #[])) w3 →
          Wr base w3 g (fun b => P b ∨ w.heap.size ≤ b) (writeV (l.take (k + 1)) st).1 (writeV (l.take (k + 1)) st).2 ∧ Frm w w3 (fun b => b = g ∨ P b) := by
        rintro w3 ⟨_, h5, h6⟩
        rw [HST.out]
        refine ⟨h5.mono (fun b hb => ?_), HF.out.then_ h6 (fun b hb => ?_)⟩
        · rcases hb with hb | hb
          · exact hb.1
          · exact .inr (Nat.le_trans HF.out.size hb)
        · rcases hb with hb | hb
          · exact .inl (.inl hb)
          · rcases hb.1 with hb | hb
            · exact .inl (.inr hb)
            · exact .inr hb
      have HT := Aside0.mk tail
      clear tail
      have h4 : x.f0 % 4 = 0 ∨ x.f0 % 4 = 1 ∨ x.f0 % 4 = 2 ∨ x.f0 % 4 = 3 := by omega
      rcases h4 with h4 | h4 | h4 | h4
      · go_wp2_with fail
        refine (number_any base g _ st' _ HWr.out (fun _ hb => ⟨hb.2.1, hb.2.2.2⟩) HBs.out HSL.out _ HOV.out.1.2.1.1 HOV.out.1.2.1.2).mono ?_
        rintro e w3 hw3
        obtain rfl := hw3.1
        have hw4 := HT.out w3 (by unfold stepV; rw [if_pos h4]; exact hw3)
        have HW4 := Aside0.mk hw4
        clear hw3 hw4
        go_wp2
        go_roundw
        case rel => exact ⟨k + 1, by omega, by go_num, HW4.out⟩
        case measure => simp [intOf]; omega
      · go_wp2_with fail
        refine (signedW_any base g _ st' _ HWr.out (fun _ hb => ⟨hb.2.1, hb.2.2.2⟩) HBs.out HSL.out _ HOV.out.1.2.1.1 HOV.out.1.2.1.2).mono ?_
        rintro e w3 hw3
        obtain rfl := hw3.1
        have hw4 := HT.out w3 (by unfold stepV; rw [if_neg (by omega), if_pos h4]; exact hw3)
        have HW4 := Aside0.mk hw4
        clear hw3 hw4
        go_wp2
        go_roundw
        case rel => exact ⟨k + 1, by omega, by go_num, HW4.out⟩
        case measure => simp [intOf]; omega
      · go_wp2_with fail
        refine (flagW_any base g _ st' _ HWr.out (fun _ hb => ⟨hb.2.1, hb.2.2.2⟩) HBs.out HSL.out _).mono ?_
        rintro e w3 hw3
        obtain rfl := hw3.1
        have hw4 := HT.out w3 (by unfold stepV; rw [if_neg (by omega), if_neg (by omega), if_pos h4]; exact hw3)
        have HW4 := Aside0.mk hw4
        clear hw3 hw4
        go_wp2
        go_roundw
        case rel => exact ⟨k + 1, by omega, by go_num, HW4.out⟩
        case measure => simp [intOf]; omega
      · go_wp2_with fail
        refine (textW_any base g _ st' _ HWr.out (fun _ hb => ⟨hb.2.1, hb.2.2.2⟩) HBs.out HSL.out _ HOV.out.2).mono ?_
        rintro e w3 hw3
        obtain rfl := hw3.1
        have hw4 := HT.out w3 (by unfold stepV; rw [if_neg (by omega), if_neg (by omega), if_neg (by omega)]; exact hw3)
        have HW4 := Aside0.mk hw4
        clear hw3 hw4
        go_wp2
        go_roundw
        case rel => exact ⟨k + 1, by omega, by go_num, HW4.out⟩
        case measure => simp [intOf]; omega
    · have hkl : k = n := by omega
      subst hkl
      have HWr := Aside0.mk hw
      have HF := Aside0.mk hf
      clear hw hf
      go_wp2
      refine bodyPost_end (results_none rfl _ _ _) rfl ?_
      have h5 := HWr.out
      rw [show l.take k = l from List.take_of_length_le (by rw [HL.out]; exact Nat.le_refl _)] at h5
      exact ⟨rfl, h5, HF.out⟩

end Go.Proofs.Ytbddllklagiajaa
