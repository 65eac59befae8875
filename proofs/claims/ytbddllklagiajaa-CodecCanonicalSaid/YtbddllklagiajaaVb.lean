/- The contract of Writer.write: it appends the parts, or remembers an error. -/
import Derived.Test.YtbddllklagiajaaVa
namespace Go.Proofs.Ytbddllklagiajaa
open PCodecKeeps (info5)
open Go.RowKit Go.Proofs.YtbddllklagiajaaW.PrintWords Go.Proofs.YtbddllklagiajaaW.PrintLast Go.Proofs.YtbddllklagiajaaW.PrintMore
set_option linter.unusedVariables false
set_option linter.unusedSimpArgs false

/-- Len of a Writer. -/
theorem len_calls (base g : Nat) (P : Nat → Prop) (out : List Int) (f : Int) (w : World) (h : Wr base w g P out f) :
    Calls Try.prog 30 #[.pointer (some ⟨g, 0, none⟩)] w fun e w' => e = .returned (.int .i64 out.length) ∧ w' = w := by
  obtain ⟨v, hb, hg, hr⟩ := h
  obtain ⟨A, c, rfl, hc, hC⟩ := Kd.R_reads hr
  have h0 : w.cell? ⟨g, 0, none⟩ = some (.slice A out.length c) := blk_cell hb 0
  clear hb hr hC
  go_enter Try.func30, Try.ntmps30
  go_wp2
  go_ret
  exact ⟨rfl, rfl⟩

/-- After an error nothing is written. -/
theorem write_failed (base g : Nat) (P : Nat → Prop) (out : List Int) (f n : Int) (A : Option Addr) (m c : Nat) (w : World) (h : Wr base w g P out f) (hf : f ≠ 0) :
    Calls Try.prog 95 #[.pointer (some ⟨g, 0, none⟩), .int .i64 n, .slice A m c] w fun e w' => e = .returned (.tuple #[]) ∧ w' = w := by
  obtain ⟨v, hb, hg, hr⟩ := h
  have h1 : w.cell? ⟨g, 1, none⟩ = some (.int .i64 f) := blk_cell hb 1
  have hf1 : (f != 0) = true := bne_iff_ne.mpr hf
  clear hb hr hf
  go_enter Try.func95, Try.ntmps95
  go_wp2
  refine bodyPost_ret (results_none rfl _ _ _) rfl ?_
  exact ⟨rfl, rfl⟩

/-- An error is remembered. -/
theorem write_error (base g : Nat) (P : Nat → Prop) (out : List Int) (n : Int) (A : Option Addr) (m c : Nat) (w : World) (h : Wr base w g P out 0) (hP : ∀ k, P k → k ≠ g) (hn : n ≠ 0) :
    Calls Try.prog 95 #[.pointer (some ⟨g, 0, none⟩), .int .i64 n, .slice A m c] w fun e w' => e = .returned (.tuple #[]) ∧ Wr base w' g P out n ∧ Frm w w' (fun k => k = g ∨ P k) := by
  obtain ⟨v, hb, hg, hr⟩ := h
  have h1 : w.cell? ⟨g, 1, none⟩ = some (.int .i64 0) := blk_cell hb 1
  have h2 : w.frozen? ⟨g, 1, none⟩ = false := blk_frozen hb 1
  have hn1 : (n != 0) = true := bne_iff_ne.mpr hn
  have HB := Aside0.mk hb
  have HR := Aside0.mk hr
  clear hb hr hn
  go_enter Try.func95, Try.ntmps95
  go_wp2
  refine bodyPost_ret (results_none rfl _ _ _) rfl ?_
  exact ⟨rfl, ⟨v, blk_put HB.out 1 _ (by simp), hg, Kd.R_far (p := ⟨g, 1, none⟩) HR.out hP _⟩, (Frm.refl _ _).setCell (.inl (.inl rfl)) _⟩

def sumLen (ps : List (List Int)) : Nat := (ps.map List.length).sum

set_option maxHeartbeats 1000000 in
set_option maxRecDepth 100000 in
/-- The parts are appended. -/
theorem write_ok (base g : Nat) (P : Nat → Prop) (out : List Int) (ps : List (List Int)) (A : Option Addr) (c : Nat) (w : World) (h : Wr base w g P out 0) (hP : ∀ k, P k → k ≠ g) (hbase : base ≤ w.heap.size)
    (hps : ∀ W, Kept w W (fun k => k = g ∨ P k) → (Kd.slice 5 KB).C W A ps.length ps) (hlen : out.length + ps.flatten.length ≤ 140737488355328) (hmax : ps.length ≤ 1000000000) :
    Calls Try.prog 95 #[.pointer (some ⟨g, 0, none⟩), .int .i64 0, .slice A ps.length c] w fun e w' => e = .returned (.tuple #[]) ∧ Wr base w' g (fun k => P k ∨ w.heap.size ≤ k) (out ++ ps.flatten) 0 ∧ Frm w w' (fun k => k = g ∨ P k) := by
  obtain ⟨v, hb, hg, hr⟩ := h
  have h1 : w.cell? ⟨g, 1, none⟩ = some (.int .i64 0) := blk_cell hb 1
  have h2 : w.frozen? ⟨g, 1, none⟩ = false := blk_frozen hb 1
  have HB := Aside0.mk hb
  have HR := Aside0.mk hr
  have HP := Aside0.mk hps
  have HL := Aside0.mk hlen
  have HG := blk_lt hb
  clear hb hr hps hlen
  go_enter Try.func95, Try.ntmps95
  go_wp2
  have W1 : Wr base (w.setCell ⟨g, 1, none⟩ (.int .i64 0)) g (fun b => P b ∨ w.heap.size ≤ b) out 0 :=
    ⟨v, blk_put HB.out 1 _ (by simp), hg, Kd.R_mono (Kd.R_far (p := ⟨g, 1, none⟩) HR.out hP _) (fun _ hk => .inl hk)⟩
  have F1 : Frm w (w.setCell ⟨g, 1, none⟩ (.int .i64 0)) (fun k => k = g ∨ P k) := (Frm.refl _ _).setCell (.inl (.inl rfl)) _
  go_loopw [25] (fun i wr => ∃ k : Nat, k ≤ ps.length ∧ i = .int .i64 k ∧ Wr base wr g (fun b => P b ∨ w.heap.size ≤ b) (out ++ (ps.take k).flatten) 0 ∧ Frm w wr (fun b => b = g ∨ P b)) (fun i _ => ps.length - (intOf i).toNat)
  case atStart => exact ⟨0, Nat.zero_le _, rfl, by simpa using W1, F1⟩
  case round =>
    obtain ⟨k, hk, rfl, W2, F2⟩ := hrel
    clear W1 F1
    by_cases hlt : k < ps.length
    · obtain ⟨ad, cs, e, _, hK, hcs⟩ := Kd.C_get (HP.out wr F2.kept) [] k (by omega) (by omega)
      obtain ⟨A1, c1, rfl, hc1, hC1⟩ := hK
      subst e
      obtain ⟨p, hp⟩ : ∃ p, ps.getD ((k : Int).toNat) [] = p := ⟨_, rfl⟩
      have hx0 := hcs 0 _ rfl
      rw [hp] at hx0 hc1 hC1
      have hx : wr.cell? (ad.add k) = some (.slice A1 p.length c1) := by simpa [Kd.slice] using hx0
      have hp2 := Aside0.mk hp
      clear hx0 hp
      obtain ⟨v2, hb2, hg2, hr2⟩ := W2
      have h0 : wr.cell? ⟨g, 0, none⟩ = some v2 := blk_cell hb2 0
      have h0f : wr.frozen? ⟨g, 0, none⟩ = false := blk_frozen hb2 0
      have HB2 := Aside0.mk hb2
      have HR2 := Aside0.mk hr2
      have HC1 := Aside0.mk hC1
      clear hb2 hr2 hC1 hcs
      have hL : (out ++ (ps.take k).flatten).length + p.length ≤ 140737488355328 := by
        have h1 := HL.out
        have h2 : ps.flatten = (ps.take k).flatten ++ (p ++ (ps.drop (k + 1)).flatten) := by
          have h3 := hp2.out
          simp [List.getD, hlt] at h3
          rw [← h3, ← List.flatten_cons, ← List.drop_eq_getElem_cons hlt, ← List.flatten_append, List.take_append_drop]
        rw [h2] at h1
        simp only [List.length_append] at h1 ⊢
        omega
      have HL2 := Aside0.mk hL
      clear hL
      go_wp2_with ((with_reducible refine gate_dst (N := 35) rfl ?_); at_builtin; refine Kd.R_append_row (Value.int .u8) 0 (h1 := fun _ => rfl) (w0 := wr) base rfl (.tmp 33) (.tmp 34) 22 5 (.int .u8 0) 1 rfl Try.underlying22 info5 rfl (by decide) v2 (out ++ (ps.take k).flatten) p A1 p.length c1 (fun b => P b ∨ w.heap.size ≤ b) rfl rfl ?aF ?aO ?aR ?aB ?aS ?aL ?_; (case aF => exact fun b hb => .inr (Nat.le_trans F2.size hb)); (case aO => exact HR2.out); (case aR => exact HC1.out); (case aB => exact Below.refl _ _); (case aS => exact Nat.le_trans hbase F2.size); (case aL => have := HL2.out; omega); intro v3 w3 hr3 _ hg3 hat3; have hb3 := blk_grown HB2.out hg3 (Kd.R_ne HR2.out HB2.out (by decide)); obtain ⟨A3, n3, c3, rfl⟩ := R_form' hr3; have HR3 := Aside0.mk hr3; have HG3 := Aside0.mk hg3; have HAT3 := Aside0.mk hat3; have h30 := blk_cell hb3 0; have h3f := blk_frozen hb3 0; simp only [List.getElem?_toArray, List.getElem?_cons_zero] at h30; have HB3 := Aside0.mk hb3; clear hb3 hr3 hg3 hat3)
      go_roundw
      case rel =>
        have hr4 := HR3.out
        have e4 : (ps.take (k + 1)).flatten = (ps.take k).flatten ++ p := by
          rw [List.take_succ_eq_append_getElem hlt, List.flatten_append]
          have := hp2.out
          simp [List.getD, hlt] at this
          simp [this]
        have e5 : out ++ (ps.take (k + 1)).flatten = out ++ (ps.take k).flatten ++ p := by rw [e4, List.append_assoc]
        have hP2 : ∀ b, (P b ∨ w.heap.size ≤ b) → b ≠ g := by
          intro b hb
          rcases hb with hb | hb
          · exact hP b hb
          · omega
        refine ⟨k + 1, by omega, by go_num, by rw [e5]; exact ⟨_, blk_put HB3.out 0 _ rfl, hg2, Kd.R_far (p := ⟨g, 0, none⟩) hr4 hP2 _⟩, ?_⟩
        refine (Frm.grown F2 HG3.out ?_).setCell (.inl (.inl rfl)) _
        intro b hb
        rcases (HR2.out).1 b hb with h | h
        · exact .inl (.inr h)
        · exact .inr h
      case measure => simp [intOf]; omega
    · have hkl : k = ps.length := by omega
      subst hkl
      go_wp2
      refine bodyPost_end (results_none rfl _ _ _) rfl ?_
      exact ⟨rfl, by simpa using W2, F2⟩
end Go.Proofs.Ytbddllklagiajaa
