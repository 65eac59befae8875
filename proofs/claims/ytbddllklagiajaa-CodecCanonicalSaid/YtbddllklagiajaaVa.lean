/- The words that the hand-made walks of this seat use: what a call keeps, a Writer of package codec in memory. -/
import Derived.Test.YtbddllklagiajaaPCodecKeepsx0
namespace Go.Proofs.Ytbddllklagiajaa
open Go.RowKit Go.Proofs.YtbddllklagiajaaW.PrintWords Go.Proofs.YtbddllklagiajaaW.PrintLast Go.Proofs.YtbddllklagiajaaW.PrintMore

/-- What a call leaves: the streams as they were; no block has gone; of the blocks that were there only those of S may differ. -/
structure Frm (w w' : World) (S : Nat → Prop) : Prop where
  os : w'.os = w.os
  tape : w'.tape = w.tape
  output : w'.output = w.output
  kept : Kept w w' S

namespace Frm
variable {w w1 w2 w' : World} {S S2 S' : Nat → Prop}
theorem refl (w : World) (S : Nat → Prop) : Frm w w S := ⟨rfl, rfl, rfl, Kept.refl w S⟩
theorem size (h : Frm w w' S) : w.heap.size ≤ w'.heap.size := h.kept.1
theorem of_below {B : Nat} (h : Below B w w') (S : Nat → Prop) (hB : ∀ k, k < w.heap.size → ¬ S k → k < B) : Frm w w' S :=
  ⟨h.os, h.tape, h.output, h.size, fun i hi hn => h.block i (hB i hi hn)⟩
theorem of_fresh (h : Below w.heap.size w w') (S : Nat → Prop) : Frm w w' S := of_below h S (fun _ hk _ => hk)
theorem below {B : Nat} (h : Frm w w' S) (hB : ∀ k, S k → B ≤ k) (hs : B ≤ w.heap.size) : Below B w w' :=
  ⟨h.os, h.tape, h.output, h.kept.1, fun k hk => h.kept.2 k (Nat.lt_of_lt_of_le hk hs) (fun hS => by have := hB k hS; omega)⟩
theorem mono (h : Frm w w' S) (hs : ∀ k, S k → S' k) : Frm w w' S' := ⟨h.os, h.tape, h.output, h.kept.mono hs⟩
theorem then_ (h : Frm w w1 S) (k : Frm w1 w2 S2) (hs : ∀ k, S2 k → S k ∨ w.heap.size ≤ k) : Frm w w2 S :=
  ⟨k.os.trans h.os, k.tape.trans h.tape, k.output.trans h.output, h.kept.then_ k.kept hs⟩
theorem fresh (h : Frm w w1 S) (hb : Below w1.heap.size w1 w2) : Frm w w2 S := h.then_ (of_fresh hb (fun _ => False)) (fun _ hk => hk.elim)
theorem alloc (h : Frm w w1 S) (o : Obj) : Frm w (w1.alloc o) S := h.fresh (below_alloc (Below.refl _ _) o)
theorem drew (h : Frm w w1 S) : Frm w w1.drew S := ⟨h.os, h.tape, h.output, h.kept⟩
theorem drewN (h : Frm w w1 S) (m : Nat) : Frm w (w1.drewN m) S := ⟨h.os, h.tape, h.output, h.kept⟩
theorem setCell (h : Frm w w1 S) {p : Addr} (hp : S p.block ∨ w.heap.size ≤ p.block) (u : Value) : Frm w (w1.setCell p u) S :=
  ⟨h.os, h.tape, h.output, h.kept.setCell hp u⟩
theorem grown {row : Option Nat} (h : Frm w w1 S) (hg : w1.grownBy w2 row) (hr : ∀ k, row = some k → S k ∨ w.heap.size ≤ k) : Frm w w2 S :=
  ⟨hg.os.trans h.os, hg.tape.trans h.tape, hg.output.trans h.output, h.kept.of_grown hg hr⟩
theorem blk {g : Nat} {o : Obj} (h : Frm w w' S) (hb : w.heap[g]? = some o) (hn : ¬ S g) : w'.heap[g]? = some o := blk_kept hb h.kept hn
theorem cell {a : Addr} {v : Value} (h : Frm w w' S) (hc : w.cell? a = some v) (hn : ¬ S a.block) : w'.cell? a = some v := cell_kept hc h.kept hn
end Frm

/-- A row's value is a slice, its length under a name of its own. -/
theorem R_form' {α : Type} {d : Kd α} {e base : Nat} {ok : Nat → Prop} {w : World} {v : Value} {xs : List α} (h : d.R e w base ok v xs) : ∃ A n c, v = .slice A n c := by
  obtain ⟨A, c, he⟩ := Kd.R_slice h
  exact ⟨A, _, c, he⟩

abbrev KB : Kd Int := Kd.int .u8
abbrev KI : Kd Int := Kd.int .i64

/-- A Writer lies at block g: its bytes (a row of the call's own, or nil) and its error. -/
def Wr (base : Nat) (w : World) (g : Nat) (P : Nat → Prop) (out : List Int) (f : Int) : Prop :=
  ∃ v, w.heap[g]? = some (.cells #[v, .int .i64 f] 41 (0, 0)) ∧ base ≤ g ∧ KB.R 5 w base P v out

namespace Wr
variable {base g : Nat} {w w' : World} {P P' S : Nat → Prop} {out : List Int} {f : Int}
theorem mono (h : Wr base w g P out f) (hp : ∀ k, P k → P' k) : Wr base w g P' out f := by
  obtain ⟨v, hb, hg, hr⟩ := h
  exact ⟨v, hb, hg, Kd.R_mono hr hp⟩
theorem frm (h : Wr base w g P out f) (hk : Frm w w' S) (hg : ¬ S g) (hS : ∀ k, P k → ¬ S k) : Wr base w' g P out f := by
  obtain ⟨v, hb, hg', hr⟩ := h
  exact ⟨v, hk.blk hb hg, hg', Kd.R_kept hr hk.kept hS⟩
/-- The row's block is not the Writer's, is there, and is the call's own. -/
theorem tight (h : Wr base w g P out f) : Wr base w g (fun k => P k ∧ k ≠ g ∧ base ≤ k ∧ k < w.heap.size) out f := by
  obtain ⟨v, hb, hg', hr⟩ := h
  refine ⟨v, hb, hg', ?_⟩
  have h1 := Kd.R_types hr hb (by intro q hq; simp [KB, Kd.int, Kd.scalar] at hq; omega)
  exact Kd.R_mono (Kd.R_bound h1) (fun k hk => ⟨hk.1.1, hk.1.2, hk.2.1, hk.2.2.1⟩)
theorem lt (h : Wr base w g P out f) : g < w.heap.size := by
  obtain ⟨v, hb, _⟩ := h
  exact blk_lt hb
end Wr

/-- A slice value reads as xs, and goes on doing so whatever is written in the blocks of S. -/
def Stab {α : Type} (d : Kd α) (w : World) (S : Nat → Prop) (v : Value) (xs : List α) : Prop :=
  ∃ A c, v = .slice A xs.length c ∧ xs.length ≤ c ∧ ∀ W, Kept w W S → d.C W A xs.length xs

namespace Stab
variable {α : Type} {d : Kd α} {w w' : World} {S S' : Nat → Prop} {v : Value} {xs : List α}
theorem of_R {e base : Nat} {ok : Nat → Prop} (h : d.R e w base ok v xs) (hok : ∀ k, ok k → base ≤ k → k < w.heap.size → ¬ S k) : Stab d w S v xs := by
  obtain ⟨A, c, rfl, hc, _⟩ := Kd.R_reads h
  refine ⟨A, c, rfl, hc, Kd.C_kept_own (Kd.R_mono (Kd.R_bound h) (ok' := fun k => ok k ∧ base ≤ k ∧ k < w.heap.size) (fun k hk => ⟨hk.1, hk.2.1, hk.2.2.1⟩)) (fun k hk => hok k hk.1 hk.2.1 hk.2.2)⟩
theorem step (h : Stab d w S v xs) (hk : Kept w w' S) : Stab d w' S v xs := by
  obtain ⟨A, c, e, hc, hC⟩ := h
  exact ⟨A, c, e, hc, Kd.C_kept_step hC hk⟩
theorem fewer (h : Stab d w S v xs) (hs : ∀ k, k < w.heap.size → S' k → S k) : Stab d w S' v xs := by
  obtain ⟨A, c, e, hc, hC⟩ := h
  exact ⟨A, c, e, hc, fun W hk => hC W ⟨hk.1, fun i hi hn => hk.2 i hi (fun hs' => hn (hs i hi hs'))⟩⟩
theorem now (h : Stab d w S v xs) : ∃ A c, v = .slice A xs.length c ∧ xs.length ≤ c ∧ d.C w A xs.length xs := by
  obtain ⟨A, c, e, hc, hC⟩ := h
  exact ⟨A, c, e, hc, hC w (Kept.refl w S)⟩
theorem form (h : Stab d w S v xs) : ∃ A n c, v = .slice A n c := by
  obtain ⟨A, c, e, _⟩ := h
  exact ⟨A, _, c, e⟩
theorem nil (d : Kd α) (w : World) (S : Nat → Prop) : Stab d w S (.slice none 0 0) ([] : List α) := ⟨none, 0, rfl, Nat.le_refl _, fun W _ => Kd.C_nil d W⟩
/-- The bytes of a string, converted. -/
theorem bytes (w : World) (s : ByteArray) (hs : s.size ≤ 9223372036854775807) (hS : ¬ S w.heap.size) (c : Nat) (hc : s.size ≤ c) : Stab KB (Lib.bytesWorld w 5 s) S (.slice (some ⟨w.heap.size, 0, none⟩) s.size c) (bytesOf s) := by
  have hl := bytesOf_length s
  refine ⟨some ⟨w.heap.size, 0, none⟩, c, by rw [hl], by omega, fun W hk => ?_⟩
  rw [hl]
  refine Kd.C_of_reads (d := 0) ?_
  have h1 := bytes_reads w 5 s hs
  refine ⟨h1.1, h1.2.1, fun hn => ?_⟩
  obtain ⟨ad, e, hcell⟩ := h1.2.2 hn
  refine ⟨ad, e, fun j hj => cell_kept (hcell j hj) hk ?_⟩
  have : ad = ⟨w.heap.size, 0, none⟩ := by injection e with e; exact e.symm
  subst this
  rw [add_plain]
  exact hS
end Stab

/-- Slices laid in a new block: the block reads as their lists, and goes on doing so. -/
theorem parts_stab {w : World} (S : Nat → Prop) (vs : List Value) (ps : List (List Int)) (hl : vs.length = ps.length) (h : ∀ (j : Nat) (v : Value) (xs : List Int), vs[j]? = some v → ps[j]? = some xs → Stab KB w S v xs) (hS : ¬ S w.heap.size) (hm : ps.length ≤ 1000000000) :
    ∀ W, Kept (w.alloc (.cells vs.toArray 22)) W S → (Kd.slice 5 KB).C W (some ⟨w.heap.size, 0, none⟩) ps.length ps := by
  intro W hk
  refine ⟨rfl, by omega, fun _ => ⟨_, rfl, fun j p hj => ?_⟩⟩
  have hj1 : j < vs.length := by rw [hl]; exact (List.getElem?_eq_some_iff.1 hj).1
  have hv := List.getElem?_eq_getElem hj1
  obtain ⟨A, c, e, hc, hC⟩ := h j _ p hv hj
  refine ⟨[vs[j]], rfl, ⟨A, c, by rw [e], hc, hC W ?_⟩, fun i u hu => ?_⟩
  · have h1 : Kept w (w.alloc (.cells vs.toArray 22)) S := (Kept.refl w S).alloc _
    exact h1.then_ hk (fun _ h => .inl h)
  · have hi : i = 0 := by
      have := (List.getElem?_eq_some_iff.1 hu).1
      simp at this
      omega
    subst hi
    simp at hu
    rw [add_plain]
    refine cell_kept ?_ hk hS
    rw [blk_cell (blk_new w _), ← hu]
    simp [Kd.slice, hj1]
end Go.Proofs.Ytbddllklagiajaa
