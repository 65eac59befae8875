/- A Reader's methods. -/
import Derived.Test.YtbddllklagiajaaVh
namespace Go.Proofs.Ytbddllklagiajaa
open Go.RowKit Go.Proofs.YtbddllklagiajaaW.PrintWords Go.Proofs.YtbddllklagiajaaW.PrintLast Go.Proofs.YtbddllklagiajaaW.PrintMore
set_option linter.unusedVariables false
set_option linter.unusedSimpArgs false

/-- What a method of a Reader leaves. -/
def Read {α : Type} (V : α → Value) (base g : Nat) (P : Nat → Prop) (b : List Int) (w : World) (r : α × Nat × Int) (e : Ending) (w' : World) : Prop :=
  e = .returned (V r.1) ∧ Rd base w' g P b r.2.1 r.2.2 ∧ Frm w w' (fun k => k = g)

theorem Read.of {α : Type} {V : α → Value} {base g : Nat} {P : Nat → Prop} {b : List Int} {w w' : World} {z : α} {r : α × Int × Int} {at_ : Nat} {e : Ending}
    (h : e = .returned (if r.2.2 = 0 then V r.1 else V z) ∧ Rd base w' g P b (if r.2.2 = 0 then at_ + r.2.1.toNat else at_) r.2.2 ∧ Frm w w' (fun k => k = g)) : Read V base g P b w (rStep z r (at_, 0)) e w' := by
  unfold rStep
  rw [if_pos rfl]
  by_cases he : r.2.2 = 0
  · rw [if_pos he] at h ⊢
    rw [if_pos he, he] at h
    exact h
  · rw [if_neg he] at h ⊢
    rw [if_neg he] at h
    exact h

theorem Read.failed {α : Type} {V : α → Value} {base g : Nat} {P : Nat → Prop} {b : List Int} {w w' : World} {z : α} {r : α × Int × Int} {s : Nat × Int} {e : Ending} (hf : s.2 ≠ 0) (hR : Rd base w g P b s.1 s.2)
    (h : e = .returned (V z) ∧ w' = w) : Read V base g P b w (rStep z r s) e w' := by
  unfold rStep
  rw [if_neg hf]
  obtain ⟨rfl, rfl⟩ := h
  exact ⟨rfl, hR, Frm.refl _ _⟩

section
variable (base g : Nat) (P : Nat → Prop) (b : List Int) (s : Nat × Int) (w : World) (h : Rd base w g P b s.1 s.2) (hby : Bytes b) (hbl : b.length ≤ 1000000000000)
include h hby hbl

theorem sgn_any : Calls Try.prog 76 #[.pointer (some ⟨g, 0, none⟩), .func (.func 77) #[] #[]] w (Read (.int .i64) base g P b w (rStep 0 (sgnR (b.drop s.1)) s)) := by
  obtain ⟨at_, f⟩ := s
  dsimp only at *
  have hrb : Bytes (b.drop at_) := fun x hx => hby x (List.mem_of_mem_drop hx)
  have hal := h.len
  by_cases hf : f = 0
  · subst hf
    refine (readSigned_calls base g P b at_ w h (sgnR (b.drop at_)).1 (sgnR (b.drop at_)).2.1.toNat (sgnR (b.drop at_)).2.1 (sgnR (b.drop at_)).2.2
      (fun he => by have := sgnR_size _ hrb he; rw [List.length_drop] at this; omega) hbl
      (fun A n c hn hc hC => signedR_calls A n c (b.drop at_) w.drew (by rw [List.length_drop]; omega) hc hC hrb (by omega))).mono (fun e w' hh => Read.of hh)
  · exact (readSigned_failed base g P b at_ f w h hf).mono (fun e w' hh => Read.failed (s := (at_, f)) hf h hh)

theorem num_any (bx : Nat) (most : Int) (hbx : w.cell? ⟨bx, 0, none⟩ = some (.int .i64 most)) :
    Calls Try.prog 76 #[.pointer (some ⟨g, 0, none⟩), .func (.func 96) #[] #[.pointer (some ⟨bx, 0, none⟩)]] w (Read (.int .i64) base g P b w (rStep 0 (numR most (b.drop s.1)) s)) := by
  obtain ⟨at_, f⟩ := s
  dsimp only at *
  have hrb : Bytes (b.drop at_) := fun x hx => hby x (List.mem_of_mem_drop hx)
  have hal := h.len
  by_cases hf : f = 0
  · subst hf
    refine (readNumber_calls base g P b at_ w bx h (numR most (b.drop at_)).1 (numR most (b.drop at_)).2.1.toNat (numR most (b.drop at_)).2.1 (numR most (b.drop at_)).2.2
      (fun he => by have := numR_size most _ hrb he; rw [List.length_drop] at this; omega) hbl
      (fun A n c hn hc hC => numFn_calls A n c bx most (b.drop at_) w.drew (by rw [List.length_drop]; omega) hc hC hrb (by omega) hbx)).mono (fun e w' hh => Read.of hh)
  · exact (readNumber_failed base g P b at_ f w bx h hf).mono (fun e w' hh => Read.failed (s := (at_, f)) hf h hh)

theorem flg_any : Calls Try.prog 97 #[.pointer (some ⟨g, 0, none⟩), .func (.func 98) #[] #[]] w (Read .bool base g P b w (rStep false (flgR (b.drop s.1)) s)) := by
  have _hby := hby
  obtain ⟨at_, f⟩ := s
  dsimp only at *
  have hal := h.len
  by_cases hf : f = 0
  · subst hf
    refine (readFlag_calls base g P b at_ w h (flgR (b.drop at_)).1 (flgR (b.drop at_)).2.1.toNat (flgR (b.drop at_)).2.1 (flgR (b.drop at_)).2.2
      (fun he => by have := flgR_size _ he; rw [List.length_drop] at this; omega) hbl
      (fun A n c hn hc hC => flgFn_calls A n c (b.drop at_) w.drew (by rw [List.length_drop]; omega) hc hC)).mono (fun e w' hh => Read.of hh)
  · exact (readFlag_failed base g P b at_ f w h hf).mono (fun e w' hh => Read.failed (s := (at_, f)) hf h hh)

theorem txt_any (bx : Nat) (most : Int) (hbx : w.cell? ⟨bx, 0, none⟩ = some (.int .i64 most)) :
    Calls Try.prog 99 #[.pointer (some ⟨g, 0, none⟩), .func (.func 100) #[] #[.pointer (some ⟨bx, 0, none⟩)]] w (Read .string base g P b w (rStep (⟨#[]⟩ : ByteArray) (txtR most (b.drop s.1)) s)) := by
  obtain ⟨at_, f⟩ := s
  dsimp only at *
  have hrb : Bytes (b.drop at_) := fun x hx => hby x (List.mem_of_mem_drop hx)
  have hal := h.len
  by_cases hf : f = 0
  · subst hf
    refine (readText_calls base g P b at_ w bx h (txtR most (b.drop at_)).1 (txtR most (b.drop at_)).2.1.toNat (txtR most (b.drop at_)).2.1 (txtR most (b.drop at_)).2.2
      (fun he => by have := txtR_size most _ hrb he; rw [List.length_drop] at this; omega) hbl
      (fun A n c hn hc hC => txtFn_calls A n c bx most (b.drop at_) w.drew (by rw [List.length_drop]; omega) hc hC hrb (by omega) hbx)).mono (fun e w' hh => Read.of hh)
  · exact (readText_failed base g P b at_ f w bx h hf).mono (fun e w' hh => Read.failed (s := (at_, f)) hf h hh)

theorem Signed_calls : Calls Try.prog 33 #[.pointer (some ⟨g, 0, none⟩)] w (Read (.int .i64) base g P b w (rStep 0 (sgnR (b.drop s.1)) s)) := by
  have HX := Aside0.mk (sgn_any base g P b s w h hby hbl)
  obtain ⟨r, hr⟩ : ∃ r, rStep 0 (sgnR (b.drop s.1)) s = r := ⟨_, rfl⟩
  rw [hr] at HX ⊢
  clear hr h hby hbl
  go_enter Try.func33, Try.ntmps33
  go_wp2_with fail
  refine HX.out.mono ?_
  rintro e w' ⟨rfl, h2⟩
  have HZ := Aside0.mk h2
  clear h2
  go_wp2
  go_ret
  exact ⟨rfl, HZ.out⟩

theorem Flag_calls : Calls Try.prog 79 #[.pointer (some ⟨g, 0, none⟩)] w (Read .bool base g P b w (rStep false (flgR (b.drop s.1)) s)) := by
  have HX := Aside0.mk (flg_any base g P b s w h hby hbl)
  obtain ⟨r, hr⟩ : ∃ r, rStep false (flgR (b.drop s.1)) s = r := ⟨_, rfl⟩
  rw [hr] at HX ⊢
  clear hr h hby hbl
  go_enter Try.func79, Try.ntmps79
  go_wp2_with fail
  refine HX.out.mono ?_
  rintro e w' ⟨rfl, h2⟩
  have HZ := Aside0.mk h2
  clear h2
  go_wp2
  go_ret
  exact ⟨rfl, HZ.out⟩

theorem Number_calls (most : Int) : Calls Try.prog 78 #[.pointer (some ⟨g, 0, none⟩), .int .i64 most] w (Read (.int .i64) base g P b w (rStep 0 (numR most (b.drop s.1)) s)) := by
  have hF : Frm w (w.alloc (.cells #[.int .i64 most] 3)) (fun _ => False) := (Frm.refl _ _).alloc _
  have HX := Aside0.mk (num_any base g P b s (w.alloc (.cells #[.int .i64 most] 3)) (h.frm hF (fun h => h) (fun _ _ h => h)) hby hbl w.heap.size most (blk_cell (blk_new w _) 0))
  obtain ⟨r, hr⟩ : ∃ r, rStep 0 (numR most (b.drop s.1)) s = r := ⟨_, rfl⟩
  rw [hr] at HX ⊢
  have HF := Aside0.mk hF
  clear hr h hby hbl hF
  go_enter Try.func78, Try.ntmps78
  go_wp2_with fail
  refine HX.out.mono ?_
  rintro e w' ⟨rfl, h2, h3⟩
  have HZ := Aside0.mk h2
  have HZ3 := Aside0.mk (((Frm.refl w (fun k => k = g)).alloc _).then_ h3 (fun _ h => .inl h))
  clear h2 h3
  go_wp2
  go_ret
  exact ⟨rfl, HZ.out, HZ3.out⟩

theorem Text_calls (most : Int) : Calls Try.prog 80 #[.pointer (some ⟨g, 0, none⟩), .int .i64 most] w (Read .string base g P b w (rStep (⟨#[]⟩ : ByteArray) (txtR most (b.drop s.1)) s)) := by
  have hF : Frm w (w.alloc (.cells #[.int .i64 most] 3)) (fun _ => False) := (Frm.refl _ _).alloc _
  have HX := Aside0.mk (txt_any base g P b s (w.alloc (.cells #[.int .i64 most] 3)) (h.frm hF (fun h => h) (fun _ _ h => h)) hby hbl w.heap.size most (blk_cell (blk_new w _) 0))
  obtain ⟨r, hr⟩ : ∃ r, rStep (⟨#[]⟩ : ByteArray) (txtR most (b.drop s.1)) s = r := ⟨_, rfl⟩
  rw [hr] at HX ⊢
  have HF := Aside0.mk hF
  clear hr h hby hbl hF
  go_enter Try.func80, Try.ntmps80
  go_wp2_with fail
  refine HX.out.mono ?_
  rintro e w' ⟨rfl, h2, h3⟩
  have HZ := Aside0.mk h2
  have HZ3 := Aside0.mk (((Frm.refl w (fun k => k = g)).alloc _).then_ h3 (fun _ h => .inl h))
  clear h2 h3
  go_wp2
  go_ret
  exact ⟨rfl, HZ.out, HZ3.out⟩
end

set_option maxHeartbeats 800000 in
theorem rest_calls (base g : Nat) (P : Nat → Prop) (b : List Int) (at_ : Nat) (f : Int) (w : World) (h : Rd base w g P b at_ f) (hbl : b.length ≤ 1000000000000) :
    Calls Try.prog 37 #[.pointer (some ⟨g, 0, none⟩)] w fun e w' => e = .returned (.int .i64 ((b.length - at_ : Nat) : Int)) ∧ ∃ m, w' = w.drewN m := by
  obtain ⟨A, n, c, hb, hg, hr, ha⟩ := h
  have h0 : w.cell? ⟨g, 0, none⟩ = some (.slice A n c) := blk_cell hb 0
  have h1 : w.cell? ⟨g, 1, none⟩ = some (.int .i64 (at_ : Int)) := blk_cell hb 1
  have hn := (Kd.R_reads' hr).1
  have ha2 : at_ ≤ n := by omega
  have hn2 : n ≤ 1000000000000 := by omega
  rw [← hn]
  clear hb hr hn ha hbl
  go_enter Try.func37, Try.ntmps37
  go_wp2_with fail
  go_quiet (fail)
  go_wp2
  go_ret
  refine ⟨?_, ⟨_, rfl⟩⟩
  have : ((n - at_ : Nat) : Int) = (n : Int) - (at_ : Int) := by omega
  rw [this]
  rfl

set_option maxHeartbeats 800000 in
theorem failed_calls (base g : Nat) (P : Nat → Prop) (b : List Int) (at_ : Nat) (f : Int) (w : World) (h : Rd base w g P b at_ f) :
    Calls Try.prog 49 #[.pointer (some ⟨g, 0, none⟩)] w fun e w' => e = .returned (.tuple #[.int .i64 (if f = 0 then 0 else (at_ : Int)), .int .i64 f]) ∧ ∃ m, w' = w.drewN m := by
  obtain ⟨A, n, c, hb, hg, hr, ha⟩ := h
  have h1 : w.cell? ⟨g, 1, none⟩ = some (.int .i64 (at_ : Int)) := blk_cell hb 1
  have h2 : w.cell? ⟨g, 2, none⟩ = some (.int .i64 f) := blk_cell hb 2
  clear hb hr ha
  by_cases hf : f = 0
  · rw [if_pos hf]
    subst hf
    go_enter Try.func49, Try.ntmps49
    go_wp2
    go_ret2
    exact ⟨rfl, ⟨0, rfl⟩⟩
  · rw [if_neg hf]
    have hf1 : (f == 0) = false := beq_eq_false_iff_ne.mpr hf
    clear hf
    go_enter Try.func49, Try.ntmps49
    go_wp2_with fail
    go_quiet (fail)
    go_wp2
    go_ret2
    exact ⟨rfl, ⟨_, rfl⟩⟩

def closeR (b : List Int) (s : Nat × Int) : Int := if s.2 = 0 ∧ 0 < b.length - s.1 then 5 else s.2

set_option maxHeartbeats 800000 in
theorem close_calls (base g : Nat) (P : Nat → Prop) (b : List Int) (s : Nat × Int) (w : World) (h : Rd base w g P b s.1 s.2) (hbl : b.length ≤ 1000000000000) :
    Calls Try.prog 36 #[.pointer (some ⟨g, 0, none⟩)] w fun e w' => e = .returned (.int .i64 (closeR b s)) ∧ ∃ m, w' = w.drewN m := by
  obtain ⟨at_, f⟩ := s
  unfold closeR
  dsimp only at *
  have HR := Aside0.mk (rest_calls base g P b at_ f w h hbl)
  obtain ⟨A, n, c, hb, hg, hr, ha⟩ := h
  have h2 : w.cell? ⟨g, 2, none⟩ = some (.int .i64 f) := blk_cell hb 2
  clear hb hr ha hbl
  obtain ⟨z, hze⟩ : ∃ z, b.length - at_ = z := ⟨_, rfl⟩
  rw [hze] at HR ⊢
  clear hze
  by_cases hf : f = 0
  · subst hf
    by_cases hz : 0 < z
    · rw [if_pos ⟨rfl, hz⟩]
      have hz1 : decide (0 < z) = true := decide_eq_true hz
      go_enter Try.func36, Try.ntmps36
      go_wp2_with fail
      refine HR.out.mono ?_
      rintro e w' ⟨rfl, m, rfl⟩
      go_wp2
      go_ret
      exact ⟨rfl, ⟨_, rfl⟩⟩
    · rw [if_neg (fun h => hz h.2)]
      have hz1 : decide (0 < z) = false := decide_eq_false hz
      go_enter Try.func36, Try.ntmps36
      go_wp2_with fail
      refine HR.out.mono ?_
      rintro e w' ⟨rfl, m, rfl⟩
      go_wp2
      go_ret
      exact ⟨rfl, ⟨_, rfl⟩⟩
  · rw [if_neg (fun h => hf h.1)]
    have hf1 : (f == 0) = false := beq_eq_false_iff_ne.mpr hf
    clear hf
    go_enter Try.func36, Try.ntmps36
    go_wp2
    go_ret
    exact ⟨rfl, ⟨0, rfl⟩⟩

end Go.Proofs.Ytbddllklagiajaa
