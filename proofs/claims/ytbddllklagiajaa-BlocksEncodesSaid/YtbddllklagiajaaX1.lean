/- The words that the hand-made walks of this seat use: what a call keeps, a Writer of package codec in memory. The contract of Writer.write: it appends the parts, or remembers an error. Numbers and their encodings, without memory: the groups of seven bits, and that the printed functions of both packages give them. The contracts of Writer's methods Number, Signed, Flag and Text. Groups at the beginning of bytes, without memory. The printed functions 'groups' of package codec and of the reference give 'grp'. The reference's 'groups'. NewWriter; 'known' of the statements about package codec. -/
import Derived.Test.YtbddllklagiajaaPCodecKeepsx0
import Derived.Test.YtbddllklagiajaaPCodecNumbersx1
import Derived.Test.YtbddllklagiajaaPCodecKeepsx2
import Derived.Laws.Bits64
namespace Go.Proofs.Ytbddllklagiajaa
open Go.RowKit Go.Proofs.YtbddllklagiajaaW.PrintWords Go.Proofs.YtbddllklagiajaaW.PrintLast Go.Proofs.YtbddllklagiajaaW.PrintMore

/-- What a call leaves: the streams as they were; no block has gone; of the blocks that were there only those of S may differ. -/
structure Frm (w w' : World) (S : Nat → Prop) : Prop where
  os : w'.os = w.os
  tape : w'.tape = w.tape
  output : w'.output = w.output
  kept : Kept w w' S

namespace Frm
variable {w w1 w2 w' : World} {S S2 S' : Nat → Prop}
theorem refl (w : World) (S : Nat → Prop) : Frm w w S := ⟨rfl, rfl, rfl, Kept.refl w S⟩
theorem size (h : Frm w w' S) : w.heap.size ≤ w'.heap.size := h.kept.1
theorem of_below {B : Nat} (h : Below B w w') (S : Nat → Prop) (hB : ∀ k, k < w.heap.size → ¬ S k → k < B) : Frm w w' S :=
  ⟨h.os, h.tape, h.output, h.size, fun i hi hn => h.block i (hB i hi hn)⟩
theorem of_fresh (h : Below w.heap.size w w') (S : Nat → Prop) : Frm w w' S := of_below h S (fun _ hk _ => hk)
theorem below {B : Nat} (h : Frm w w' S) (hB : ∀ k, S k → B ≤ k) (hs : B ≤ w.heap.size) : Below B w w' :=
  ⟨h.os, h.tape, h.output, h.kept.1, fun k hk => h.kept.2 k (Nat.lt_of_lt_of_le hk hs) (fun hS => by have := hB k hS; omega)⟩
theorem mono (h : Frm w w' S) (hs : ∀ k, S k → S' k) : Frm w w' S' := ⟨h.os, h.tape, h.output, h.kept.mono hs⟩
theorem then_ (h : Frm w w1 S) (k : Frm w1 w2 S2) (hs : ∀ k, S2 k → S k ∨ w.heap.size ≤ k) : Frm w w2 S :=
  ⟨k.os.trans h.os, k.tape.trans h.tape, k.output.trans h.output, h.kept.then_ k.kept hs⟩
theorem fresh (h : Frm w w1 S) (hb : Below w1.heap.size w1 w2) : Frm w w2 S := h.then_ (of_fresh hb (fun _ => False)) (fun _ hk => hk.elim)
theorem alloc (h : Frm w w1 S) (o : Obj) : Frm w (w1.alloc o) S := h.fresh (below_alloc (Below.refl _ _) o)
theorem drew (h : Frm w w1 S) : Frm w w1.drew S := ⟨h.os, h.tape, h.output, h.kept⟩
theorem drewN (h : Frm w w1 S) (m : Nat) : Frm w (w1.drewN m) S := ⟨h.os, h.tape, h.output, h.kept⟩
theorem setCell (h : Frm w w1 S) {p : Addr} (hp : S p.block ∨ w.heap.size ≤ p.block) (u : Value) : Frm w (w1.setCell p u) S :=
  ⟨h.os, h.tape, h.output, h.kept.setCell hp u⟩
theorem grown {row : Option Nat} (h : Frm w w1 S) (hg : w1.grownBy w2 row) (hr : ∀ k, row = some k → S k ∨ w.heap.size ≤ k) : Frm w w2 S :=
  ⟨hg.os.trans h.os, hg.tape.trans h.tape, hg.output.trans h.output, h.kept.of_grown hg hr⟩
theorem blk {g : Nat} {o : Obj} (h : Frm w w' S) (hb : w.heap[g]? = some o) (hn : ¬ S g) : w'.heap[g]? = some o := blk_kept hb h.kept hn
theorem cell {a : Addr} {v : Value} (h : Frm w w' S) (hc : w.cell? a = some v) (hn : ¬ S a.block) : w'.cell? a = some v := cell_kept hc h.kept hn
end Frm

/-- A row's value is a slice, its length under a name of its own. -/
theorem R_form' {α : Type} {d : Kd α} {e base : Nat} {ok : Nat → Prop} {w : World} {v : Value} {xs : List α} (h : d.R e w base ok v xs) : ∃ A n c, v = .slice A n c := by
  obtain ⟨A, c, he⟩ := Kd.R_slice h
  exact ⟨A, _, c, he⟩

abbrev KB : Kd Int := Kd.int .u8
abbrev KI : Kd Int := Kd.int .i64

/-- A Writer lies at block g: its bytes (a row of the call's own, or nil) and its error. -/
def Wr (base : Nat) (w : World) (g : Nat) (P : Nat → Prop) (out : List Int) (f : Int) : Prop :=
  ∃ v, w.heap[g]? = some (.cells #[v, .int .i64 f] 41 (0, 0)) ∧ base ≤ g ∧ KB.R 5 w base P v out

namespace Wr
variable {base g : Nat} {w w' : World} {P P' S : Nat → Prop} {out : List Int} {f : Int}
theorem mono (h : Wr base w g P out f) (hp : ∀ k, P k → P' k) : Wr base w g P' out f := by
  obtain ⟨v, hb, hg, hr⟩ := h
  exact ⟨v, hb, hg, Kd.R_mono hr hp⟩
theorem frm (h : Wr base w g P out f) (hk : Frm w w' S) (hg : ¬ S g) (hS : ∀ k, P k → ¬ S k) : Wr base w' g P out f := by
  obtain ⟨v, hb, hg', hr⟩ := h
  exact ⟨v, hk.blk hb hg, hg', Kd.R_kept hr hk.kept hS⟩
/-- The row's block is not the Writer's, is there, and is the call's own. -/
theorem tight (h : Wr base w g P out f) : Wr base w g (fun k => P k ∧ k ≠ g ∧ base ≤ k ∧ k < w.heap.size) out f := by
  obtain ⟨v, hb, hg', hr⟩ := h
  refine ⟨v, hb, hg', ?_⟩
  have h1 := Kd.R_types hr hb (by intro q hq; simp [KB, Kd.int, Kd.scalar] at hq; omega)
  exact Kd.R_mono (Kd.R_bound h1) (fun k hk => ⟨hk.1.1, hk.1.2, hk.2.1, hk.2.2.1⟩)
theorem lt (h : Wr base w g P out f) : g < w.heap.size := by
  obtain ⟨v, hb, _⟩ := h
  exact blk_lt hb
end Wr

/-- A slice value reads as xs, and goes on doing so whatever is written in the blocks of S. -/
def Stab {α : Type} (d : Kd α) (w : World) (S : Nat → Prop) (v : Value) (xs : List α) : Prop :=
  ∃ A c, v = .slice A xs.length c ∧ xs.length ≤ c ∧ ∀ W, Kept w W S → d.C W A xs.length xs

namespace Stab
variable {α : Type} {d : Kd α} {w w' : World} {S S' : Nat → Prop} {v : Value} {xs : List α}
theorem of_R {e base : Nat} {ok : Nat → Prop} (h : d.R e w base ok v xs) (hok : ∀ k, ok k → base ≤ k → k < w.heap.size → ¬ S k) : Stab d w S v xs := by
  obtain ⟨A, c, rfl, hc, _⟩ := Kd.R_reads h
  refine ⟨A, c, rfl, hc, Kd.C_kept_own (Kd.R_mono (Kd.R_bound h) (ok' := fun k => ok k ∧ base ≤ k ∧ k < w.heap.size) (fun k hk => ⟨hk.1, hk.2.1, hk.2.2.1⟩)) (fun k hk => hok k hk.1 hk.2.1 hk.2.2)⟩
theorem step (h : Stab d w S v xs) (hk : Kept w w' S) : Stab d w' S v xs := by
  obtain ⟨A, c, e, hc, hC⟩ := h
  exact ⟨A, c, e, hc, Kd.C_kept_step hC hk⟩
theorem fewer (h : Stab d w S v xs) (hs : ∀ k, k < w.heap.size → S' k → S k) : Stab d w S' v xs := by
  obtain ⟨A, c, e, hc, hC⟩ := h
  exact ⟨A, c, e, hc, fun W hk => hC W ⟨hk.1, fun i hi hn => hk.2 i hi (fun hs' => hn (hs i hi hs'))⟩⟩
theorem now (h : Stab d w S v xs) : ∃ A c, v = .slice A xs.length c ∧ xs.length ≤ c ∧ d.C w A xs.length xs := by
  obtain ⟨A, c, e, hc, hC⟩ := h
  exact ⟨A, c, e, hc, hC w (Kept.refl w S)⟩
theorem form (h : Stab d w S v xs) : ∃ A n c, v = .slice A n c := by
  obtain ⟨A, c, e, _⟩ := h
  exact ⟨A, _, c, e⟩
theorem nil (d : Kd α) (w : World) (S : Nat → Prop) : Stab d w S (.slice none 0 0) ([] : List α) := ⟨none, 0, rfl, Nat.le_refl _, fun W _ => Kd.C_nil d W⟩
/-- The bytes of a string, converted. -/
theorem bytes (w : World) (s : ByteArray) (hs : s.size ≤ 9223372036854775807) (hS : ¬ S w.heap.size) (c : Nat) (hc : s.size ≤ c) : Stab KB (Lib.bytesWorld w 5 s) S (.slice (some ⟨w.heap.size, 0, none⟩) s.size c) (bytesOf s) := by
  have hl := bytesOf_length s
  refine ⟨some ⟨w.heap.size, 0, none⟩, c, by rw [hl], by omega, fun W hk => ?_⟩
  rw [hl]
  refine Kd.C_of_reads (d := 0) ?_
  have h1 := bytes_reads w 5 s hs
  refine ⟨h1.1, h1.2.1, fun hn => ?_⟩
  obtain ⟨ad, e, hcell⟩ := h1.2.2 hn
  refine ⟨ad, e, fun j hj => cell_kept (hcell j hj) hk ?_⟩
  have : ad = ⟨w.heap.size, 0, none⟩ := by injection e with e; exact e.symm
  subst this
  rw [add_plain]
  exact hS
end Stab

/-- Slices laid in a new block: the block reads as their lists, and goes on doing so. -/
theorem parts_stab {w : World} (S : Nat → Prop) (vs : List Value) (ps : List (List Int)) (hl : vs.length = ps.length) (h : ∀ (j : Nat) (v : Value) (xs : List Int), vs[j]? = some v → ps[j]? = some xs → Stab KB w S v xs) (hS : ¬ S w.heap.size) (hm : ps.length ≤ 1000000000) :
    ∀ W, Kept (w.alloc (.cells vs.toArray 22)) W S → (Kd.slice 5 KB).C W (some ⟨w.heap.size, 0, none⟩) ps.length ps := by
  intro W hk
  refine ⟨rfl, by omega, fun _ => ⟨_, rfl, fun j p hj => ?_⟩⟩
  have hj1 : j < vs.length := by rw [hl]; exact (List.getElem?_eq_some_iff.1 hj).1
  have hv := List.getElem?_eq_getElem hj1
  obtain ⟨A, c, e, hc, hC⟩ := h j _ p hv hj
  refine ⟨[vs[j]], rfl, ⟨A, c, by rw [e], hc, hC W ?_⟩, fun i u hu => ?_⟩
  · have h1 : Kept w (w.alloc (.cells vs.toArray 22)) S := (Kept.refl w S).alloc _
    exact h1.then_ hk (fun _ h => .inl h)
  · have hi : i = 0 := by
      have := (List.getElem?_eq_some_iff.1 hu).1
      simp at this
      omega
    subst hi
    simp at hu
    rw [add_plain]
    refine cell_kept ?_ hk hS
    rw [blk_cell (blk_new w _), ← hu]
    simp [Kd.slice, hj1]
end Go.Proofs.Ytbddllklagiajaa

namespace Go.Proofs.Ytbddllklagiajaa
open PCodecKeeps (info5)
open Go.RowKit Go.Proofs.YtbddllklagiajaaW.PrintWords Go.Proofs.YtbddllklagiajaaW.PrintLast Go.Proofs.YtbddllklagiajaaW.PrintMore
set_option linter.unusedVariables false
set_option linter.unusedSimpArgs false

/-- Len of a Writer. -/
theorem len_calls (base g : Nat) (P : Nat → Prop) (out : List Int) (f : Int) (w : World) (h : Wr base w g P out f) :
    Calls Try.prog 30 #[.pointer (some ⟨g, 0, none⟩)] w fun e w' => e = .returned (.int .i64 out.length) ∧ w' = w := by
  obtain ⟨v, hb, hg, hr⟩ := h
  obtain ⟨A, c, rfl, hc, hC⟩ := Kd.R_reads hr
  have h0 : w.cell? ⟨g, 0, none⟩ = some (.slice A out.length c) := blk_cell hb 0
  clear hb hr hC
  go_enter Try.func30, Try.ntmps30
  go_wp2
  go_ret
  exact ⟨rfl, rfl⟩

/-- After an error nothing is written. -/
theorem write_failed (base g : Nat) (P : Nat → Prop) (out : List Int) (f n : Int) (A : Option Addr) (m c : Nat) (w : World) (h : Wr base w g P out f) (hf : f ≠ 0) :
    Calls Try.prog 95 #[.pointer (some ⟨g, 0, none⟩), .int .i64 n, .slice A m c] w fun e w' => e = .returned (.tuple #[]) ∧ w' = w := by
  obtain ⟨v, hb, hg, hr⟩ := h
  have h1 : w.cell? ⟨g, 1, none⟩ = some (.int .i64 f) := blk_cell hb 1
  have hf1 : (f != 0) = true := bne_iff_ne.mpr hf
  clear hb hr hf
  go_enter Try.func95, Try.ntmps95
  go_wp2
  refine bodyPost_ret (results_none rfl _ _ _) rfl ?_
  exact ⟨rfl, rfl⟩

/-- An error is remembered. -/
theorem write_error (base g : Nat) (P : Nat → Prop) (out : List Int) (n : Int) (A : Option Addr) (m c : Nat) (w : World) (h : Wr base w g P out 0) (hP : ∀ k, P k → k ≠ g) (hn : n ≠ 0) :
    Calls Try.prog 95 #[.pointer (some ⟨g, 0, none⟩), .int .i64 n, .slice A m c] w fun e w' => e = .returned (.tuple #[]) ∧ Wr base w' g P out n ∧ Frm w w' (fun k => k = g ∨ P k) := by
  obtain ⟨v, hb, hg, hr⟩ := h
  have h1 : w.cell? ⟨g, 1, none⟩ = some (.int .i64 0) := blk_cell hb 1
  have h2 : w.frozen? ⟨g, 1, none⟩ = false := blk_frozen hb 1
  have hn1 : (n != 0) = true := bne_iff_ne.mpr hn
  have HB := Aside0.mk hb
  have HR := Aside0.mk hr
  clear hb hr hn
  go_enter Try.func95, Try.ntmps95
  go_wp2
  refine bodyPost_ret (results_none rfl _ _ _) rfl ?_
  exact ⟨rfl, ⟨v, blk_put HB.out 1 _ (by simp), hg, Kd.R_far (p := ⟨g, 1, none⟩) HR.out hP _⟩, (Frm.refl _ _).setCell (.inl (.inl rfl)) _⟩

def sumLen (ps : List (List Int)) : Nat := (ps.map List.length).sum

set_option maxHeartbeats 1000000 in
set_option maxRecDepth 100000 in
/-- The parts are appended. -/
theorem write_ok (base g : Nat) (P : Nat → Prop) (out : List Int) (ps : List (List Int)) (A : Option Addr) (c : Nat) (w : World) (h : Wr base w g P out 0) (hP : ∀ k, P k → k ≠ g) (hbase : base ≤ w.heap.size)
    (hps : ∀ W, Kept w W (fun k => k = g ∨ P k) → (Kd.slice 5 KB).C W A ps.length ps) (hlen : out.length + ps.flatten.length ≤ 140737488355328) (hmax : ps.length ≤ 1000000000) :
    Calls Try.prog 95 #[.pointer (some ⟨g, 0, none⟩), .int .i64 0, .slice A ps.length c] w fun e w' => e = .returned (.tuple #[]) ∧ Wr base w' g (fun k => P k ∨ w.heap.size ≤ k) (out ++ ps.flatten) 0 ∧ Frm w w' (fun k => k = g ∨ P k) := by
  obtain ⟨v, hb, hg, hr⟩ := h
  have h1 : w.cell? ⟨g, 1, none⟩ = some (.int .i64 0) := blk_cell hb 1
  have h2 : w.frozen? ⟨g, 1, none⟩ = false := blk_frozen hb 1
  have HB := Aside0.mk hb
  have HR := Aside0.mk hr
  have HP := Aside0.mk hps
  have HL := Aside0.mk hlen
  have HG := blk_lt hb
  clear hb hr hps hlen
  go_enter Try.func95, Try.ntmps95
  go_wp2
  have W1 : Wr base (w.setCell ⟨g, 1, none⟩ (.int .i64 0)) g (fun b => P b ∨ w.heap.size ≤ b) out 0 :=
    ⟨v, blk_put HB.out 1 _ (by simp), hg, Kd.R_mono (Kd.R_far (p := ⟨g, 1, none⟩) HR.out hP _) (fun _ hk => .inl hk)⟩
  have F1 : Frm w (w.setCell ⟨g, 1, none⟩ (.int .i64 0)) (fun k => k = g ∨ P k) := (Frm.refl _ _).setCell (.inl (.inl rfl)) _
  go_loopw [25] (fun i wr => ∃ k : Nat, k ≤ ps.length ∧ i = .int .i64 k ∧ Wr base wr g (fun b => P b ∨ w.heap.size ≤ b) (out ++ (ps.take k).flatten) 0 ∧ Frm w wr (fun b => b = g ∨ P b)) (fun i _ => ps.length - (intOf i).toNat)
  case atStart => exact ⟨0, Nat.zero_le _, rfl, by simpa using W1, F1⟩
  case round =>
    obtain ⟨k, hk, rfl, W2, F2⟩ := hrel
    clear W1 F1
    by_cases hlt : k < ps.length
    · obtain ⟨ad, cs, e, _, hK, hcs⟩ := Kd.C_get (HP.out wr F2.kept) [] k (by omega) (by omega)
      obtain ⟨A1, c1, rfl, hc1, hC1⟩ := hK
      subst e
      obtain ⟨p, hp⟩ : ∃ p, ps.getD ((k : Int).toNat) [] = p := ⟨_, rfl⟩
      have hx0 := hcs 0 _ rfl
      rw [hp] at hx0 hc1 hC1
      have hx : wr.cell? (ad.add k) = some (.slice A1 p.length c1) := by simpa [Kd.slice] using hx0
      have hp2 := Aside0.mk hp
      clear hx0 hp
      obtain ⟨v2, hb2, hg2, hr2⟩ := W2
      have h0 : wr.cell? ⟨g, 0, none⟩ = some v2 := blk_cell hb2 0
      have h0f : wr.frozen? ⟨g, 0, none⟩ = false := blk_frozen hb2 0
      have HB2 := Aside0.mk hb2
      have HR2 := Aside0.mk hr2
      have HC1 := Aside0.mk hC1
      clear hb2 hr2 hC1 hcs
      have hL : (out ++ (ps.take k).flatten).length + p.length ≤ 140737488355328 := by
        have h1 := HL.out
        have h2 : ps.flatten = (ps.take k).flatten ++ (p ++ (ps.drop (k + 1)).flatten) := by
          have h3 := hp2.out
          simp [List.getD, hlt] at h3
          rw [← h3, ← List.flatten_cons, ← List.drop_eq_getElem_cons hlt, ← List.flatten_append, List.take_append_drop]
        rw [h2] at h1
        simp only [List.length_append] at h1 ⊢
        omega
      have HL2 := Aside0.mk hL
      clear hL
      go_wp2_with ((with_reducible refine gate_dst (N := 35) rfl ?_); at_builtin; refine Kd.R_append_row (Value.int .u8) 0 (h1 := fun _ => rfl) (w0 := wr) base rfl (.tmp 33) (.tmp 34) 22 5 (.int .u8 0) 1 rfl Try.underlying22 info5 rfl (by decide) v2 (out ++ (ps.take k).flatten) p A1 p.length c1 (fun b => P b ∨ w.heap.size ≤ b) rfl rfl ?aF ?aO ?aR ?aB ?aS ?aL ?_; (case aF => exact fun b hb => .inr (Nat.le_trans F2.size hb)); (case aO => exact HR2.out); (case aR => exact HC1.out); (case aB => exact Below.refl _ _); (case aS => exact Nat.le_trans hbase F2.size); (case aL => have := HL2.out; omega); intro v3 w3 hr3 _ hg3 hat3; have hb3 := blk_grown HB2.out hg3 (Kd.R_ne HR2.out HB2.out (by decide)); obtain ⟨A3, n3, c3, rfl⟩ := R_form' hr3; have HR3 := Aside0.mk hr3; have HG3 := Aside0.mk hg3; have HAT3 := Aside0.mk hat3; have h30 := blk_cell hb3 0; have h3f := blk_frozen hb3 0; simp only [List.getElem?_toArray, List.getElem?_cons_zero] at h30; have HB3 := Aside0.mk hb3; clear hb3 hr3 hg3 hat3)
      go_roundw
      case rel =>
        have hr4 := HR3.out
        have e4 : (ps.take (k + 1)).flatten = (ps.take k).flatten ++ p := by
          rw [List.take_succ_eq_append_getElem hlt, List.flatten_append]
          have := hp2.out
          simp [List.getD, hlt] at this
          simp [this]
        have e5 : out ++ (ps.take (k + 1)).flatten = out ++ (ps.take k).flatten ++ p := by rw [e4, List.append_assoc]
        have hP2 : ∀ b, (P b ∨ w.heap.size ≤ b) → b ≠ g := by
          intro b hb
          rcases hb with hb | hb
          · exact hP b hb
          · omega
        refine ⟨k + 1, by omega, by go_num, by rw [e5]; exact ⟨_, blk_put HB3.out 0 _ rfl, hg2, Kd.R_far (p := ⟨g, 0, none⟩) hr4 hP2 _⟩, ?_⟩
        refine (Frm.grown F2 HG3.out ?_).setCell (.inl (.inl rfl)) _
        intro b hb
        rcases (HR2.out).1 b hb with h | h
        · exact .inl (.inr h)
        · exact .inr h
      case measure => simp [intOf]; omega
    · have hkl : k = ps.length := by omega
      subst hkl
      go_wp2
      refine bodyPost_end (results_none rfl _ _ _) rfl ?_
      exact ⟨rfl, by simpa using W2, F2⟩
end Go.Proofs.Ytbddllklagiajaa

set_option linter.unusedVariables false
set_option linter.unusedSimpArgs false
namespace Go.Proofs.Ytbddllklagiajaa
open Go.RowKit Go.Proofs.YtbddllklagiajaaW.PrintWords Go.Proofs.YtbddllklagiajaaW.PrintLast Go.Proofs.YtbddllklagiajaaW.PrintMore

/-- The encoding of a natural number. -/
def enc (n : Nat) : List Int := if n < 128 then [(n : Int)] else ((n % 128 + 128 : Nat) : Int) :: enc (n / 128)
termination_by n

theorem enc_small {n : Nat} (h : n < 128) : enc n = [(n : Int)] := by rw [enc, if_pos h]
theorem enc_big {n : Nat} (h : ¬ n < 128) : enc n = ((n % 128 + 128 : Nat) : Int) :: enc (n / 128) := by rw [enc, if_neg h]

theorem enc_pos (n : Nat) : 1 ≤ (enc n).length := by
  by_cases h : n < 128
  · rw [enc_small h]; simp
  · rw [enc_big h]; simp

theorem enc_len (d : Nat) : ∀ n, n < 128 ^ (d + 1) → (enc n).length ≤ d + 1 := by
  induction d with
  | zero => intro n h; rw [enc_small (by simpa using h)]; simp
  | succ d ih =>
    intro n h
    by_cases h1 : n < 128
    · rw [enc_small h1]; simp
    · rw [enc_big h1, List.length_cons]
      have := ih (n / 128) (by rw [Nat.div_lt_iff_lt_mul (by omega)]; rw [Nat.pow_succ] at h; exact h)
      omega

theorem enc_len10 {n : Nat} (h : n < 18446744073709551616) : (enc n).length ≤ 10 := enc_len 9 n (by omega)
theorem enc_len9 {n : Nat} (h : n < 9223372036854775808) : (enc n).length ≤ 9 := enc_len 8 n (by omega)

theorem or_128 : ∀ m : Fin 256, (m.val ||| 128) = m.val % 128 + 128 := by decide +kernel

theorem bits_or_128 (x : Int) (h0 : 0 ≤ x) : Go.bits .or .u8 (x % 256) 128 = x % 128 + 128 := by
  obtain ⟨m, hm⟩ := Int.eq_ofNat_of_zero_le (show 0 ≤ x % 256 by omega)
  have hlt : m < 256 := by omega
  have h1 := (bits_nat .u8 8 (by decide) wraps_u8 m 128 (by omega) (by omega)).2
  have h2 : (m ||| 128) = m % 128 + 128 := or_128 ⟨m, hlt⟩
  rw [hm]
  refine h1.trans ?_
  rw [h2]
  omega

theorem natural_l0 (d : Nat) : ∀ (k n : Nat) (out : List Int), n < 128 ^ (d + 1) → n < 18446744073709551616 → d < k → out.length + d < 1000 →
    PCodecNumbers.codec_natural.l0 k (n : Int) out = some (out ++ enc n) := by
  induction d with
  | zero =>
    intro k n out h h64 hk ho
    obtain ⟨k, rfl⟩ : ∃ m, k = m + 1 := ⟨k - 1, by omega⟩
    simp only [PCodecNumbers.codec_natural.l0]
    rw [if_neg (by omega), if_pos (by omega), enc_small (by omega), Int.emod_eq_of_lt (by omega) (by omega)]
  | succ d ih =>
    intro k n out h h64 hk ho
    obtain ⟨k, rfl⟩ : ∃ m, k = m + 1 := ⟨k - 1, by omega⟩
    simp only [PCodecNumbers.codec_natural.l0]
    by_cases h1 : n < 128
    · rw [if_neg (by omega), if_pos (by omega), enc_small h1, Int.emod_eq_of_lt (by omega) (by omega)]
    · rw [if_pos (by omega), if_pos (by omega)]
      have h3 := ih k (n / 128) (out ++ [Go.bits .or .u8 ((n : Int) % 256) 128]) (by rw [Nat.div_lt_iff_lt_mul (by omega)]; rw [Nat.pow_succ] at h; exact h) (by omega) (by omega) (by simp; omega)
      rw [show ((n : Int) / 128) = ((n / 128 : Nat) : Int) by omega, h3, enc_big h1, bits_or_128 _ (by omega)]
      simp

theorem natural_f {k n : Nat} (h : n < 18446744073709551616) (hk : 10 ≤ k) : PCodecNumbers.codec_natural.f k (n : Int) = some (enc n) := by
  unfold PCodecNumbers.codec_natural.f
  rw [natural_l0 9 k n [] (by omega) h (by omega) (by simp)]
  simp

theorem Natural_l0 (d : Nat) : ∀ (k n : Nat) (out : List Int), n < 128 ^ (d + 1) → n < 18446744073709551616 → d < k → out.length + d < 1000 →
    PCodecNumbers.replevinref01_Natural.l0 k (n : Int) out = some (out ++ enc n) := by
  induction d with
  | zero =>
    intro k n out h h64 hk ho
    obtain ⟨k, rfl⟩ : ∃ m, k = m + 1 := ⟨k - 1, by omega⟩
    simp only [PCodecNumbers.replevinref01_Natural.l0]
    rw [if_neg (by omega), if_pos (by omega), enc_small (by omega), Int.emod_eq_of_lt (by omega) (by omega)]
  | succ d ih =>
    intro k n out h h64 hk ho
    obtain ⟨k, rfl⟩ : ∃ m, k = m + 1 := ⟨k - 1, by omega⟩
    simp only [PCodecNumbers.replevinref01_Natural.l0]
    by_cases h1 : n < 128
    · rw [if_neg (by omega), if_pos (by omega), enc_small h1, Int.emod_eq_of_lt (by omega) (by omega)]
    · rw [if_pos (by omega), if_pos (by omega)]
      have e1 : IntKind.u64.wrap (Int.tdiv (n : Int) 128) = ((n / 128 : Nat) : Int) := by
        rw [Int.tdiv_eq_ediv_of_nonneg (by omega)]
        simp only [IntKind.wrap_u64]
        omega
      have e2 : IntKind.u64.wrap (Int.tmod (n : Int) 128 + 128) % 256 = ((n % 128 + 128 : Nat) : Int) := by
        rw [Int.tmod_eq_emod_of_nonneg (by omega)]
        simp only [IntKind.wrap_u64]
        omega
      rw [e1, e2]
      have h3 := ih k (n / 128) (out ++ [((n % 128 + 128 : Nat) : Int)]) (by rw [Nat.div_lt_iff_lt_mul (by omega)]; rw [Nat.pow_succ] at h; exact h) (by omega) (by omega) (by simp; omega)
      rw [h3, enc_big h1]
      simp

theorem Natural_f {k n : Nat} (h : n < 18446744073709551616) (hk : 10 ≤ k) : PCodecNumbers.replevinref01_Natural.f k (n : Int) = some (enc n) := by
  unfold PCodecNumbers.replevinref01_Natural.f
  rw [Natural_l0 9 k n [] (by omega) h (by omega) (by simp)]
  simp

end Go.Proofs.Ytbddllklagiajaa

namespace Go.Proofs.Ytbddllklagiajaa
open PCodecKeeps (info5)
open Go.RowKit Go.Proofs.YtbddllklagiajaaW.PrintWords Go.Proofs.YtbddllklagiajaaW.PrintLast Go.Proofs.YtbddllklagiajaaW.PrintMore
set_option linter.unusedVariables false
set_option linter.unusedSimpArgs false

/-- A new block of elements is a row of the call's own. -/
theorem R_block {α : Type} (d : Kd α) {W : World} {base e : Nat} {xs : List α} {inner : List Value} {ok okp : Nat → Prop}
    (hrep : Reps (d.M W base okp) d.sz xs inner) (hok : ∀ k, okp k → ok k) (hfresh : ok W.heap.size) (hbase : base ≤ W.heap.size) (hm : xs.length ≤ 9223372036854775807) :
    d.R e (W.alloc (.cells inner.toArray e)) base ok (.slice (some ⟨W.heap.size, 0, none⟩) xs.length xs.length) xs := by
  refine ⟨fun k hk => ?_, inner, ?_, ?_⟩
  · have : W.heap.size = k := by simpa [Value.ownBlock] using hk
    subst this
    exact hfresh
  · have h2 := World.ownsRow_lit (base := base) (e := e) (size := d.sz) W inner.toArray xs.length hbase (by simpa [maxLen] using hm) (by simpa using hrep.1)
    simpa using h2
  · refine hrep.imp_ (fun p c hp => d.M_mono (fun k hk => ⟨hok k hk.1, fun he => ?_⟩) (Kd.M_below (d.M_bound hp) (below_alloc (Below.refl _ _) _)))
    have h3 : k = W.heap.size := by simpa [Value.ownBlock] using he
    have := hk.2.2.1
    omega

/-- One part in a new block: it stays there whatever the Writer writes. -/
theorem parts_one {w : World} (S : Nat → Prop) {v : Value} {xs : List Int} (hS : ∀ k, S k → k < w.heap.size) (hv : Stab KB w S v xs) :
    ∀ W, Kept (w.alloc (.cells #[v] 22)) W S → (Kd.slice 5 KB).C W (some ⟨w.heap.size, 0, none⟩) [xs].length [xs] := by
  refine parts_stab S [v] [xs] rfl (fun j u p hu hp => ?_) (fun h => by have := hS _ h; omega) (by simp)
  match j, hu, hp with
  | 0, hu, hp => simp at hu hp; subst hu hp; exact hv

theorem parts_two {w : World} (S : Nat → Prop) {v1 v2 : Value} {xs ys : List Int} (hS : ∀ k, S k → k < w.heap.size) (hv1 : Stab KB w S v1 xs) (hv2 : Stab KB w S v2 ys) :
    ∀ W, Kept (w.alloc (.cells #[v1, v2] 22)) W S → (Kd.slice 5 KB).C W (some ⟨w.heap.size, 0, none⟩) [xs, ys].length [xs, ys] := by
  refine parts_stab S [v1, v2] [xs, ys] rfl (fun j u p hu hp => ?_) (fun h => by have := hS _ h; omega) (by simp)
  match j, hu, hp with
  | 0, hu, hp => simp at hu hp; subst hu hp; exact hv1
  | 1, hu, hp => simp at hu hp; subst hu hp; exact hv2

theorem below_of' {w : World} {g : Nat} {P : Nat → Prop} (hg : g < w.heap.size) (hP : ∀ k, P k → k ≠ g ∧ k < w.heap.size) : ∀ k, (k = g ∨ P k) → k < w.heap.size := by
  rintro k (rfl | hk)
  · exact hg
  · exact (hP k hk).2
theorem below_of {w w1 : World} {g : Nat} {P : Nat → Prop} (hg : g < w.heap.size) (hP : ∀ k, P k → k ≠ g ∧ k < w.heap.size) (hB : Below w.heap.size w w1) : ∀ k, (k = g ∨ P k) → k < w1.heap.size :=
  fun k hk => Nat.lt_of_lt_of_le (below_of' hg hP k hk) hB.size

/-- What a method of a Writer leaves. -/
def Wrote (base g : Nat) (P : Nat → Prop) (w : World) (out : List Int) (e : Ending) (w' : World) : Prop :=
  e = .returned (.tuple #[]) ∧ Wr base w' g (fun k => P k ∨ w.heap.size ≤ k) out 0 ∧ Frm w w' (fun k => k = g ∨ P k)

theorem write_parts (base g : Nat) (P : Nat → Prop) (out : List Int) (ps : List (List Int)) (A : Option Addr) (m c : Nat) (hm : ps.length = m) (w W : World) (h : Wr base w g P out 0)
    (hP : ∀ k, P k → k ≠ g ∧ k < w.heap.size) (hbase : base ≤ w.heap.size) (hF : Below w.heap.size w W) (hps : ∀ W', Kept W W' (fun k => k = g ∨ P k) → (Kd.slice 5 KB).C W' A ps.length ps)
    (hlen : out.length + ps.flatten.length ≤ 140737488355328) (hmax : m ≤ 1000000000) :
    Calls Try.prog 95 #[.pointer (some ⟨g, 0, none⟩), .int .i64 0, .slice A m c] W (Wrote base g P w (out ++ ps.flatten)) := by
  subst hm
  have hg := h.lt
  have h1 : Wr base W g P out 0 := h.frm (Frm.of_fresh hF (fun _ => False)) (fun h => h) (fun _ _ h => h)
  refine (write_ok base g P out ps A c W h1 (fun k hk => (hP k hk).1) (Nat.le_trans hbase hF.size) hps hlen hmax).mono ?_
  rintro e w' ⟨he, hw, hf⟩
  exact ⟨he, hw.mono (fun k hk => hk.imp id (fun h => Nat.le_trans hF.size h)), (Frm.of_fresh hF (fun k => k = g ∨ P k)).then_ hf (fun _ h => .inl h)⟩

/-- Behind an error: nothing. -/
def Still (w : World) (e : Ending) (w' : World) : Prop := e = .returned (.tuple #[]) ∧ Below w.heap.size w w'

theorem u64_of_nat {n : Nat} (h : n < 18446744073709551616) : IntKind.u64.wrap (n : Int) = n := by
  rw [IntKind.wrap_u64]; omega

set_option maxHeartbeats 400000 in
theorem number_ok (base g : Nat) (P : Nat → Prop) (out : List Int) (n : Nat) (w : World) (h : Wr base w g P out 0) (hP : ∀ k, P k → k ≠ g ∧ k < w.heap.size) (hbase : base ≤ w.heap.size)
    (hn : n < 9223372036854775808) (hlen : out.length ≤ 140737488000000) :
    Calls Try.prog 68 #[.pointer (some ⟨g, 0, none⟩), .int .i64 n] w (Wrote base g P w (out ++ enc n)) := by
  have HW := Aside0.mk h
  have hg := h.lt
  have hel := enc_len9 hn
  have hu := u64_of_nat (show n < 18446744073709551616 by omega)
  have HU := Aside0.mk hu
  have hneg : decide ((n : Int) < 0) = false := by simp
  clear h hu
  go_enter Try.func68, Try.ntmps68
  go_wp2_with fail
  refine (PCodecNumbers.codec_natural.calls 10 n (enc n) _ (natural_f (by omega) (by omega))).mono ?_
  rintro e w1 ⟨v, rfl, hR, hB⟩
  obtain ⟨A1, n1, c1, rfl⟩ := R_form' hR
  have HR := Aside0.mk hR
  have HB := Aside0.mk hB
  clear hR hB
  go_wp2_with fail
  refine (write_parts base g P out [enc n] _ 1 1 rfl w _ HW.out hP hbase (below_alloc HB.out _) (parts_one _ (below_of hg hP HB.out) (Stab.of_R HR.out (fun k _ hb _ hk => by have := below_of' hg hP k hk; omega))) (by simp; omega) (by omega)).mono ?_
  rintro e w' ⟨rfl, h2, h3⟩
  go_wp2
  refine bodyPost_end (results_none rfl _ _ _) rfl ?_
  exact ⟨rfl, by simpa using h2, h3⟩

theorem number_neg (base g : Nat) (P : Nat → Prop) (out : List Int) (n : Int) (w : World) (h : Wr base w g P out 0) (hP : ∀ k, P k → k ≠ g ∧ k < w.heap.size) (hn : n < 0) :
    Calls Try.prog 68 #[.pointer (some ⟨g, 0, none⟩), .int .i64 n] w fun e w' => e = .returned (.tuple #[]) ∧ Wr base w' g P out 2 ∧ Frm w w' (fun k => k = g ∨ P k) := by
  have HW := Aside0.mk h
  have hneg : decide ((n : Int) < 0) = true := decide_eq_true hn
  clear h
  go_enter Try.func68, Try.ntmps68
  go_wp2_with fail
  refine (write_error base g P out 2 _ _ _ w HW.out (fun k hk => (hP k hk).1) (by decide)).mono ?_
  rintro e w' ⟨rfl, h2, h3⟩
  go_wp2
  refine bodyPost_ret (results_none rfl _ _ _) rfl ?_
  exact ⟨rfl, h2, h3⟩

set_option maxHeartbeats 400000 in
theorem number_failed (base g : Nat) (P : Nat → Prop) (out : List Int) (n f : Int) (w : World) (h : Wr base w g P out f) (hf : f ≠ 0) (hn : n ≤ 9223372036854775807) :
    Calls Try.prog 68 #[.pointer (some ⟨g, 0, none⟩), .int .i64 n] w (Still w) := by
  have HW := Aside0.mk h
  clear h
  by_cases hneg : n < 0
  · have hneg1 : decide ((n : Int) < 0) = true := decide_eq_true hneg
    go_enter Try.func68, Try.ntmps68
    go_wp2_with fail
    refine (write_failed base g P out f 2 _ _ _ w HW.out hf).mono ?_
    rintro e w' ⟨rfl, rfl⟩
    go_wp2
    refine bodyPost_ret (results_none rfl _ _ _) rfl ?_
    exact ⟨rfl, Below.refl _ _⟩
  · have hneg1 : decide ((n : Int) < 0) = false := decide_eq_false hneg
    obtain ⟨n, rfl⟩ := Int.eq_ofNat_of_zero_le (show 0 ≤ n by omega)
    have hu := u64_of_nat (show n < 18446744073709551616 by omega)
    have HU := Aside0.mk hu
    clear hu
    go_enter Try.func68, Try.ntmps68
    go_wp2_with fail
    refine (PCodecNumbers.codec_natural.calls 10 n (enc n) _ (natural_f (by omega) (by omega))).mono ?_
    rintro e w1 ⟨v, rfl, hR, hB⟩
    obtain ⟨A1, n1, c1, rfl⟩ := R_form' hR
    have HR := Aside0.mk hR
    have HB := Aside0.mk hB
    clear hR hB
    go_wp2_with fail
    refine (write_failed base g P out f _ _ _ _ _ (HW.out.frm (Frm.of_fresh (below_alloc HB.out _) (fun _ => False)) (fun h => h) (fun _ _ h => h)) hf).mono ?_
    rintro e w' ⟨rfl, rfl⟩
    go_wp2
    refine bodyPost_end (results_none rfl _ _ _) rfl ?_
    exact ⟨rfl, below_alloc HB.out _⟩

/-- The natural number that stands for a signed one. -/
def zig (n : Int) : Nat := if 0 ≤ n then (2 * n).toNat else (-2 * n - 1).toNat
theorem zig_lt {n : Int} (h0 : -9223372036854775808 ≤ n) (h1 : n ≤ 9223372036854775807) : zig n < 18446744073709551616 := by
  unfold zig; split <;> omega

theorem xor_ones (b : Nat) (hb : b < 18446744073709551616) : 18446744073709551615 ^^^ b = 18446744073709551615 - b := by
  have h : (BitVec.allOnes 64 ^^^ BitVec.ofNat 64 b) = ~~~ (BitVec.ofNat 64 b) := by rw [BitVec.allOnes_xor]
  have h2 := congrArg BitVec.toNat h
  rw [BitVec.toNat_xor, BitVec.toNat_not, BitVec.toNat_allOnes, BitVec.toNat_ofNat, Nat.mod_eq_of_lt (by omega)] at h2
  exact h2.trans (by omega)

theorem zig_neg {n : Int} (h0 : -9223372036854775808 ≤ n) (h1 : n < 0) : Go.bits BinOp.xor IntKind.u64 IntKind.u64.max (IntKind.u64.wrap (IntKind.u64.wrap n * 2)) = (zig n : Int) := by
  have e1 : IntKind.u64.max = ((18446744073709551615 : Nat) : Int) := by decide
  have e2 : IntKind.u64.wrap (IntKind.u64.wrap n * 2) = ((18446744073709551616 + 2 * n).toNat : Int) := by
    rw [IntKind.wrap_u64, IntKind.wrap_u64]; omega
  rw [e1, e2, bits_xor_u64_nat _ _ (by omega) (by omega), xor_ones _ (by omega)]
  unfold zig
  rw [if_neg (by omega)]
  omega

theorem zig_pos {n : Int} (h0 : 0 ≤ n) : n * 2 = (zig n : Int) := by
  unfold zig
  rw [if_pos h0]
  omega

set_option maxHeartbeats 800000 in
/-- What Signed hands to natural. -/
theorem signed_any (R : Ending → World → Prop) (g : Nat) (n : Int) (w : World) (h0 : -9223372036854775808 ≤ n) (h1 : n ≤ 9223372036854775807)
    (hR : ∀ v w1, KB.R 5 w1 w.heap.size (fun _ => True) v (enc (zig n)) → Below w.heap.size w w1 →
      Calls Try.prog 95 #[.pointer (some ⟨g, 0, none⟩), .int .i64 0, .slice (some ⟨w1.heap.size, 0, none⟩) 1 1] (w1.alloc (.cells #[v] 22)) fun e w' => e = .returned (.tuple #[]) ∧ R e w') :
    Calls Try.prog 69 #[.pointer (some ⟨g, 0, none⟩), .int .i64 n] w R := by
  have hz := zig_lt h0 h1
  have HH := Aside0.mk hR
  clear hR
  go_enter Try.func69, Try.ntmps69
  by_cases hneg : n < 0
  · have hneg1 : decide ((n : Int) < 0) = true := decide_eq_true hneg
    have he := Aside0.mk (zig_neg h0 hneg)
    go_wp2_with fail
    rw [he.out]
    refine (PCodecNumbers.codec_natural.calls 10 _ (enc (zig n)) _ (natural_f (by omega) (by omega))).mono ?_
    rintro e w1 ⟨v, rfl, hR, hB⟩
    obtain ⟨A1, n1, c1, rfl⟩ := R_form' hR
    have HR := Aside0.mk hR
    have HB := Aside0.mk hB
    clear hR hB
    go_wp2_with fail
    refine (HH.out _ _ HR.out HB.out).mono ?_
    rintro e w' ⟨rfl, h2⟩
    go_wp2
    refine bodyPost_end (results_none rfl _ _ _) rfl ?_
    exact h2
  · have hneg1 : decide ((n : Int) < 0) = false := decide_eq_false hneg
    have he := Aside0.mk (zig_pos (n := n) (by omega))
    go_wp2_with fail
    rw [he.out]
    refine (PCodecNumbers.codec_natural.calls 10 _ (enc (zig n)) _ (natural_f (by omega) (by omega))).mono ?_
    rintro e w1 ⟨v, rfl, hR, hB⟩
    obtain ⟨A1, n1, c1, rfl⟩ := R_form' hR
    have HR := Aside0.mk hR
    have HB := Aside0.mk hB
    clear hR hB
    go_wp2_with fail
    refine (HH.out _ _ HR.out HB.out).mono ?_
    rintro e w' ⟨rfl, h2⟩
    go_wp2
    refine bodyPost_end (results_none rfl _ _ _) rfl ?_
    exact h2

theorem signed_ok (base g : Nat) (P : Nat → Prop) (out : List Int) (n : Int) (w : World) (h : Wr base w g P out 0) (hP : ∀ k, P k → k ≠ g ∧ k < w.heap.size) (hbase : base ≤ w.heap.size)
    (h0 : -9223372036854775808 ≤ n) (h1 : n ≤ 9223372036854775807) (hlen : out.length ≤ 140737488000000) :
    Calls Try.prog 69 #[.pointer (some ⟨g, 0, none⟩), .int .i64 n] w (Wrote base g P w (out ++ enc (zig n))) := by
  have hg := h.lt
  have hel := enc_len10 (zig_lt h0 h1)
  refine signed_any _ g n w h0 h1 (fun v w1 hR hB => ?_)
  refine (write_parts base g P out [enc (zig n)] _ 1 1 rfl w _ h hP hbase (below_alloc hB _) (parts_one _ (below_of hg hP hB) (Stab.of_R hR (fun k _ hb _ hk => by have := below_of' hg hP k hk; omega))) (by simp; omega) (by omega)).mono ?_
  rintro e w' ⟨rfl, h2, h3⟩
  exact ⟨rfl, rfl, by simpa using h2, h3⟩

theorem signed_failed (base g : Nat) (P : Nat → Prop) (out : List Int) (n f : Int) (w : World) (h : Wr base w g P out f) (hf : f ≠ 0) (h0 : -9223372036854775808 ≤ n) (h1 : n ≤ 9223372036854775807) :
    Calls Try.prog 69 #[.pointer (some ⟨g, 0, none⟩), .int .i64 n] w (Still w) := by
  refine signed_any _ g n w h0 h1 (fun v w1 hR hB => ?_)
  refine (write_failed base g P out f _ _ _ _ _ (h.frm (Frm.of_fresh (below_alloc hB _) (fun _ => False)) (fun h => h) (fun _ _ h => h)) hf).mono ?_
  rintro e w' ⟨rfl, rfl⟩
  exact ⟨rfl, rfl, below_alloc hB _⟩

/-- A flag's byte. -/
def flagB : Bool → Int
  | true => 1
  | false => 0

set_option maxHeartbeats 800000 in
theorem flag_any (R : Ending → World → Prop) (g : Nat) (b : Bool) (w : World)
    (hR : ∀ v w1, KB.R 5 w1 w.heap.size (fun _ => True) v [flagB b] → Below w.heap.size w w1 →
      Calls Try.prog 95 #[.pointer (some ⟨g, 0, none⟩), .int .i64 0, .slice (some ⟨w1.heap.size, 0, none⟩) 1 1] (w1.alloc (.cells #[v] 22)) fun e w' => e = .returned (.tuple #[]) ∧ R e w') :
    Calls Try.prog 72 #[.pointer (some ⟨g, 0, none⟩), .bool b] w R := by
  have HRb : KB.R 5 (w.alloc (.cells #[.int .u8 (flagB b)] 5)) w.heap.size (fun _ => True) (.slice (some ⟨w.heap.size, 0, none⟩) 1 1) [flagB b] := R_block KB (W := w) (base := w.heap.size) (e := 5) (xs := [flagB b]) (inner := [.int .u8 (flagB b)]) (ok := fun _ => True) (okp := fun _ => True)
    (Reps.snoc (Reps.none _ _) rfl rfl) (fun _ h => h) trivial (Nat.le_refl _) (by simp)
  have HH := hR _ _ HRb (below_alloc (Below.refl _ _) _)
  rw [World.size_alloc] at HH
  have HX := Aside0.mk HH
  clear hR HRb HH
  cases b with
  | true =>
    go_enter Try.func72, Try.ntmps72
    go_wp2_with fail
    refine HX.out.mono ?_
    rintro e w' ⟨rfl, h2⟩
    go_wp2
    refine bodyPost_end (results_none rfl _ _ _) rfl ?_
    exact h2
  | false =>
    go_enter Try.func72, Try.ntmps72
    go_wp2_with fail
    refine HX.out.mono ?_
    rintro e w' ⟨rfl, h2⟩
    go_wp2
    refine bodyPost_end (results_none rfl _ _ _) rfl ?_
    exact h2

theorem flag_ok (base g : Nat) (P : Nat → Prop) (out : List Int) (b : Bool) (w : World) (h : Wr base w g P out 0) (hP : ∀ k, P k → k ≠ g ∧ k < w.heap.size) (hbase : base ≤ w.heap.size) (hlen : out.length ≤ 140737488000000) :
    Calls Try.prog 72 #[.pointer (some ⟨g, 0, none⟩), .bool b] w (Wrote base g P w (out ++ [flagB b])) := by
  have hg := h.lt
  refine flag_any _ g b w (fun v w1 hR hB => ?_)
  refine (write_parts base g P out [[flagB b]] _ 1 1 rfl w _ h hP hbase (below_alloc hB _) (parts_one _ (below_of hg hP hB) (Stab.of_R hR (fun k _ hb _ hk => by have := below_of' hg hP k hk; omega))) (by simp; omega) (by omega)).mono ?_
  rintro e w' ⟨rfl, h2, h3⟩
  exact ⟨rfl, rfl, by simpa using h2, h3⟩

theorem flag_failed (base g : Nat) (P : Nat → Prop) (out : List Int) (b : Bool) (f : Int) (w : World) (h : Wr base w g P out f) (hf : f ≠ 0) :
    Calls Try.prog 72 #[.pointer (some ⟨g, 0, none⟩), .bool b] w (Still w) := by
  refine flag_any _ g b w (fun v w1 hR hB => ?_)
  refine (write_failed base g P out f _ _ _ _ _ (h.frm (Frm.of_fresh (below_alloc hB _) (fun _ => False)) (fun h => h) (fun _ _ h => h)) hf).mono ?_
  rintro e w' ⟨rfl, rfl⟩
  exact ⟨rfl, rfl, below_alloc hB _⟩

set_option maxHeartbeats 800000 in
set_option maxRecDepth 100000 in
theorem text_any (R : Ending → World → Prop) (S : Nat → Prop) (g : Nat) (s : ByteArray) (w : World) (hs : s.size ≤ 16777216) (hS : ∀ k, S k → k < w.heap.size)
    (hR : ∀ v1 v2 w1, Stab KB w1 S v1 (enc s.size) → Stab KB w1 S v2 (bytesOf s) → Below w.heap.size w w1 →
      Calls Try.prog 95 #[.pointer (some ⟨g, 0, none⟩), .int .i64 0, .slice (some ⟨w1.heap.size, 0, none⟩) 2 2] (w1.alloc (.cells #[v1, v2] 22)) fun e w' => e = .returned (.tuple #[]) ∧ R e w') :
    Calls Try.prog 70 #[.pointer (some ⟨g, 0, none⟩), .string s] w R := by
  have HH := Aside0.mk hR
  clear hR
  have h1 : decide ((16777216 : Int) < s.size) = false := decide_eq_false (by omega)
  have kb := fun W => print_bytes (P := Try.prog) 9 22 5 Try.underlying9 Try.underlying22 Try.underlying5 s W
  go_enter Try.func70, Try.ntmps70
  go_wp2_with fail
  refine (PCodecNumbers.codec_natural.calls 10 _ (enc s.size) _ (natural_f (by omega) (by omega))).mono ?_
  rintro e w1 ⟨v, rfl, hR, hB⟩
  obtain ⟨A1, n1, c1, rfl⟩ := R_form' hR
  have HR := Aside0.mk hR
  have HB := Aside0.mk hB
  clear hR hB
  go_wp2_with fail
  have HB2 := bytes_below HB.out HB.out.size 5 s
  have hc := grownCap_ge w1 s.size 0 5
  have H3 := HH.out _ _ _ (Stab.step (Stab.of_R HR.out (S := S) (fun k _ hb _ hk => by have := hS k hk; omega)) ((Kept.of_below (bytes_below (Below.refl _ w1) (Nat.le_refl _) 5 s) S))) (Stab.bytes (S := S) w1 s (by omega) (fun h => by have := hS _ h; have := HB.out.size; omega) _ hc) HB2
  refine H3.mono ?_
  rintro e w' ⟨rfl, h2⟩
  go_wp2
  refine bodyPost_end (results_none rfl _ _ _) rfl ?_
  exact h2

theorem text_ok (base g : Nat) (P : Nat → Prop) (out : List Int) (s : ByteArray) (w : World) (h : Wr base w g P out 0) (hP : ∀ k, P k → k ≠ g ∧ k < w.heap.size) (hbase : base ≤ w.heap.size)
    (hs : s.size ≤ 16777216) (hlen : out.length ≤ 140737400000000) :
    Calls Try.prog 70 #[.pointer (some ⟨g, 0, none⟩), .string s] w (Wrote base g P w (out ++ (enc s.size ++ bytesOf s))) := by
  have hg := h.lt
  have hel := enc_len9 (show s.size < 9223372036854775808 by omega)
  have hbl := bytesOf_length s
  refine text_any _ (fun k => k = g ∨ P k) g s w hs (below_of' hg hP) (fun v1 v2 w1 h1 h2 hB => ?_)
  refine (write_parts base g P out [enc s.size, bytesOf s] _ 2 2 rfl w _ h hP hbase (below_alloc hB _) (parts_two _ (below_of hg hP hB) h1 h2) (by simp; omega) (by omega)).mono ?_
  rintro e w' ⟨rfl, h2, h3⟩
  exact ⟨rfl, rfl, by simpa using h2, h3⟩

theorem text_failed (base g : Nat) (P : Nat → Prop) (out : List Int) (s : ByteArray) (f : Int) (w : World) (h : Wr base w g P out f) (hf : f ≠ 0) (hs : s.size ≤ 16777216) :
    Calls Try.prog 70 #[.pointer (some ⟨g, 0, none⟩), .string s] w (Still w) := by
  refine text_any _ (fun _ => False) g s w hs (fun _ h => h.elim) (fun v1 v2 w1 _ _ hB => ?_)
  refine (write_failed base g P out f _ _ _ _ _ (h.frm (Frm.of_fresh (below_alloc hB _) (fun _ => False)) (fun h => h) (fun _ _ h => h)) hf).mono ?_
  rintro e w' ⟨rfl, rfl⟩
  exact ⟨rfl, rfl, below_alloc hB _⟩

set_option maxHeartbeats 800000 in
/-- Bytes: a copy of what was written. -/
theorem bytes_ok (base g : Nat) (P : Nat → Prop) (out : List Int) (w : World) (h : Wr base w g P out 0) (hlen : out.length ≤ 140737488355328) :
    Calls Try.prog 28 #[.pointer (some ⟨g, 0, none⟩)] w fun e w' => ∃ v, e = .returned (.tuple #[v, .int .i64 0]) ∧ KB.R 5 w' w.heap.size (fun _ => True) v out ∧ Below w.heap.size w w' := by
  obtain ⟨v, hb, hg, hr⟩ := h
  obtain ⟨A, n, c, rfl⟩ := R_form' hr
  have hC := Kd.R_reads' hr
  have h0 : w.cell? ⟨g, 0, none⟩ = some (.slice A n c) := blk_cell hb 0
  have h1 : w.cell? ⟨g, 1, none⟩ = some (.int .i64 0) := blk_cell hb 1
  have h2 : (w.alloc (.cells #[] 5)).cell? ⟨g, 0, none⟩ = some (.slice A n c) := blk_cell (blk_alloc hb _) 0
  have HE := Aside0.mk (R_block KB (W := w) (base := w.heap.size) (e := 5) (xs := []) (inner := []) (ok := fun _ => True) (okp := fun _ => True) (Reps.none _ _) (fun _ h => h) trivial (Nat.le_refl _) (by simp))
  have HC := Aside0.mk hC
  have HL := Aside0.mk hlen
  clear hb hr hC hlen
  go_enter Try.func28, Try.ntmps28
  go_wp2_with ((with_reducible refine gate_dst (N := 22) rfl ?_); at_builtin; refine Kd.R_append_row (Value.int .u8) 0 (h1 := fun _ => rfl) (w0 := w) w.heap.size rfl (.tmp 17) (.tmp 21) 22 5 (.int .u8 0) 1 rfl Try.underlying22 info5 rfl (by decide) _ [] out A n c (fun _ => True) rfl rfl ?aF ?aO ?aR ?aB ?aS ?aL ?_; (case aF => exact fun _ _ => trivial); (case aO => exact HE.out); (case aR => have := HC.out; rw [this.1]; exact Kd.C_alloc this.2.2 _); (case aB => exact below_alloc (Below.refl _ _) _); (case aS => simp); (case aL => have := HC.out.1; have := HL.out; simp; omega); intro v3 w3 hr3 hb3 hg3 hat3; have HR3 := Aside0.mk hr3; have HB3 := Aside0.mk hb3; clear hr3 hb3 hg3 hat3)
  go_ret2
  exact ⟨_, rfl, HR3.out, HB3.out⟩

theorem bytes_failed (base g : Nat) (P : Nat → Prop) (out : List Int) (f : Int) (w : World) (h : Wr base w g P out f) (hf : f ≠ 0) :
    Calls Try.prog 28 #[.pointer (some ⟨g, 0, none⟩)] w fun e w' => e = .returned (.tuple #[.slice none 0 0, .int .i64 f]) ∧ Below w.heap.size w w' := by
  obtain ⟨v, hb, hg, hr⟩ := h
  have h1 : w.cell? ⟨g, 1, none⟩ = some (.int .i64 f) := blk_cell hb 1
  have hf1 : (f != 0) = true := bne_iff_ne.mpr hf
  clear hb hr hf
  go_enter Try.func28, Try.ntmps28
  go_wp2_with fail
  go_quiet (fail)
  go_wp2
  go_ret2
  exact ⟨rfl, pw_below_drewN (Below.refl _ _) _⟩

end Go.Proofs.Ytbddllklagiajaa

set_option linter.unusedVariables false
set_option linter.unusedSimpArgs false
namespace Go.Proofs.Ytbddllklagiajaa
open Go.RowKit Go.Proofs.YtbddllklagiajaaW.PrintWords Go.Proofs.YtbddllklagiajaaW.PrintLast Go.Proofs.YtbddllklagiajaaW.PrintMore

/-- The elements are bytes. -/
def Bytes (l : List Int) : Prop := ∀ x ∈ l, 0 ≤ x ∧ x ≤ 255

/-- The number that groups stand for. -/
def val : List Int → Nat
  | [] => 0
  | c :: l => (c % 128).toNat + 128 * val l

/-- How many bytes at the beginning are at least 128. -/
def lead : List Int → Nat
  | [] => 0
  | c :: l => if 128 ≤ c then lead l + 1 else 0

theorem lead_le (l : List Int) : lead l ≤ l.length := by
  induction l with
  | nil => simp [lead]
  | cons c l ih => simp only [lead, List.length_cons]; split <;> omega

theorem lead_lt (l : List Int) : ∀ i, i < lead l → 128 ≤ l.getD i 0 := by
  induction l with
  | nil => intro i h; simp [lead] at h
  | cons c l ih =>
    intro i h
    simp only [lead] at h
    split at h
    · cases i with
      | zero => simpa
      | succ i => simpa using ih i (by omega)
    · omega

theorem lead_at (l : List Int) (h : lead l < l.length) : l.getD (lead l) 0 < 128 := by
  induction l with
  | nil => simp at h
  | cons c l ih =>
    simp only [lead] at h ⊢
    split
    · rename_i hc
      rw [if_pos hc] at h
      simpa using ih (by simpa using h)
    · simpa using (by omega : c < 128)

/-- What is at the beginning of bytes: the number, its length, and the error. -/
def grp (most : Nat) (l : List Int) : Nat × Nat × Nat :=
  if most ≤ lead l then (0, 0, 3)
  else if l.length ≤ lead l then (0, 0, 28)
  else if 0 < lead l ∧ l.getD (lead l) 0 = 0 then (0, 0, 3)
  else (val (l.take (lead l + 1)), lead l + 1, 0)

theorem val_append (l : List Int) (c : Int) (hb : 0 ≤ c) : val (l ++ [c]) = val l + (c % 128).toNat * 128 ^ l.length := by
  induction l with
  | nil => simp [val]
  | cons d l ih => simp only [List.cons_append, val, ih, List.length_cons, Nat.pow_succ]; rw [Nat.mul_add, ← Nat.add_assoc]; congr 1; rw [Nat.mul_comm 128, Nat.mul_assoc]

theorem val_lt (l : List Int) : val l < 128 ^ l.length := by
  induction l with
  | nil => simp [val]
  | cons d l ih =>
    simp only [val, List.length_cons, Nat.pow_succ]
    have : (d % 128).toNat < 128 := by omega
    omega

theorem take_snoc' (l : List Int) (i : Nat) (h : i < l.length) : l.take (i + 1) = l.take i ++ [l.getD i 0] := by
  rw [List.take_succ_eq_append_getElem h]
  simp [List.getD, h]

theorem enc_bytes (n : Nat) : Bytes (enc n) := by
  induction n using Nat.strongRecOn with
  | ind n ih =>
    by_cases h : n < 128
    · rw [enc_small h]; intro x hx; simp at hx; omega
    · rw [enc_big h]
      intro x hx
      rcases List.mem_cons.1 hx with rfl | hx
      · omega
      · exact ih (n / 128) (by omega) x hx

/-- The groups of a number, with anything behind them. -/
theorem lead_enc (n : Nat) (r : List Int) : lead (enc n ++ r) + 1 = (enc n).length := by
  induction n using Nat.strongRecOn with
  | ind n ih =>
    by_cases h : n < 128
    · rw [enc_small h]; simp [lead]; omega
    · rw [enc_big h]
      have := ih (n / 128) (by omega)
      simp only [List.cons_append, lead, List.length_cons]
      rw [if_pos (by omega)]
      omega

theorem val_enc (n : Nat) : val (enc n) = n := by
  induction n using Nat.strongRecOn with
  | ind n ih =>
    by_cases h : n < 128
    · rw [enc_small h]; simp [val]; omega
    · rw [enc_big h, val, ih (n / 128) (by omega)]
      omega

theorem enc_last (n : Nat) (r : List Int) : 0 < lead (enc n ++ r) → (enc n ++ r).getD (lead (enc n ++ r)) 0 ≠ 0 := by
  induction n using Nat.strongRecOn with
  | ind n ih =>
    by_cases h : n < 128
    · rw [enc_small h]; simp only [List.cons_append, lead]; rw [if_neg (by omega)]; omega
    · rw [enc_big h]
      simp only [List.cons_append, lead]
      rw [if_pos (by omega)]
      intro _
      rw [List.getD_cons_succ]
      by_cases h0 : 0 < lead (enc (n / 128) ++ r)
      · exact ih (n / 128) (by omega) h0
      · have e0 : lead (enc (n / 128) ++ r) = 0 := by omega
        rw [e0]
        by_cases h1 : n / 128 < 128
        · rw [enc_small h1]; simp; omega
        · rw [enc_big h1] at e0
          simp only [List.cons_append, lead] at e0
          rw [if_pos (by omega)] at e0
          omega

theorem grp_enc {most n : Nat} (r : List Int) (h : n < 128 ^ most) (hm : 0 < most) : grp most (enc n ++ r) = (n, (enc n).length, 0) := by
  have h1 := lead_enc n r
  have hlen : (enc n).length ≤ most := by
    obtain ⟨m, rfl⟩ : ∃ m, most = m + 1 := ⟨most - 1, by omega⟩
    exact enc_len m n h
  unfold grp
  rw [if_neg (by omega), if_neg (by simp; omega), if_neg (fun hh => enc_last n r hh.1 hh.2), h1]
  simp [val_enc]

/-- What is read is an encoding. -/
theorem enc_val (l : List Int) (hb : Bytes l) (h1 : lead l < l.length) (h2 : ¬ (0 < lead l ∧ l.getD (lead l) 0 = 0)) : enc (val (l.take (lead l + 1))) = l.take (lead l + 1) := by
  induction l with
  | nil => simp at h1
  | cons c l ih =>
    have hc := hb c (by simp)
    by_cases h : 128 ≤ c
    · simp only [lead] at h1 h2 ⊢
      rw [if_pos h] at h1 h2 ⊢
      simp only [List.length_cons] at h1
      rw [List.getD_cons_succ] at h2
      have hne : l.getD (lead l) 0 ≠ 0 := fun he => h2 ⟨by omega, he⟩
      have hi := ih (fun x hx => hb x (List.mem_cons_of_mem _ hx)) (by omega) (fun hh => hne hh.2)
      simp only [List.take_succ_cons, val]
      have hp : 0 < val (l.take (lead l + 1)) := by
        rw [take_snoc' l (lead l) (by omega), val_append _ _ (by
          rw [List.getD_eq_getElem?_getD, List.getElem?_eq_getElem (by omega)]
          exact (hb _ (List.mem_cons_of_mem _ (List.getElem_mem _))).1)]
        have h3 : 0 < (l.getD (lead l) 0 % 128).toNat := by
          have h4 := lead_at l (by omega)
          have h5 : 0 ≤ l.getD (lead l) 0 := by
            rw [List.getD_eq_getElem?_getD, List.getElem?_eq_getElem (by omega)]
            exact (hb _ (List.mem_cons_of_mem _ (List.getElem_mem _))).1
          omega
        have h6 : 0 < (l.getD (lead l) 0 % 128).toNat * 128 ^ (l.take (lead l)).length := Nat.mul_pos h3 (Nat.pos_of_ne_zero (by simp))
        omega
      rw [enc_big (by omega)]
      have e1 : ((c % 128).toNat + 128 * val (l.take (lead l + 1))) / 128 = val (l.take (lead l + 1)) := by omega
      have e2 : ((((c % 128).toNat + 128 * val (l.take (lead l + 1))) % 128 + 128 : Nat) : Int) = c := by omega
      rw [e1, e2, hi]
    · simp only [lead]
      rw [if_neg h]
      simp only [List.take_succ_cons, List.take_zero, val]
      rw [enc_small (by omega)]
      simp; omega

end Go.Proofs.Ytbddllklagiajaa

set_option linter.unusedVariables false
set_option linter.unusedSimpArgs false
namespace Go.Proofs.Ytbddllklagiajaa
open Go.RowKit Go.Proofs.YtbddllklagiajaaW.PrintWords Go.Proofs.YtbddllklagiajaaW.PrintLast Go.Proofs.YtbddllklagiajaaW.PrintMore

theorem mod_join (v c p r : Nat) (hv : v < p) (hr : 0 < r) : (v + c * p) % (p * r) = v + p * (c % r) := by
  have h1 : v + c * p = v + p * (c % r) + (p * r) * (c / r) := by
    have h2 := Nat.div_add_mod c r
    have h3 : c * p = p * (r * (c / r) + c % r) := by rw [h2, Nat.mul_comm]
    rw [h3, Nat.mul_add, Nat.mul_assoc]
    omega
  rw [h1, Nat.add_mul_mod_self_left]
  refine Nat.mod_eq_of_lt ?_
  have h4 : c % r + 1 ≤ r := Nat.mod_lt _ hr
  have h5 : p * (c % r + 1) ≤ p * r := Nat.mul_le_mul_left _ h4
  rw [Nat.mul_add] at h5
  omega

theorem wraps_u64 (n : Int) (h0 : 0 ≤ n) (h1 : n < 2 ^ 64) : IntKind.u64.wrap n = n := by rw [IntKind.wrap_u64]; omega

/-- One group more. -/
theorem group_step (l : List Int) (i : Nat) (hi : i < l.length) (h9 : i ≤ 9) (hb : Bytes l) :
    Go.bits .or .u64 ((val (l.take i) % 18446744073709551616 : Nat) : Int) (shl .u64 (IntKind.u64.wrap (Go.bits .and .u8 (l.getD i 0) 127)) (wrap64 (7 * (i : Int)))) = ((val (l.take (i + 1)) % 18446744073709551616 : Nat) : Int) := by
  obtain ⟨c, hc⟩ : ∃ c : Nat, l.getD i 0 = (c : Int) ∧ c ≤ 255 := by
    have h1 : l.getD i 0 ∈ l := by
      rw [List.getD_eq_getElem?_getD, List.getElem?_eq_getElem hi]
      exact List.getElem_mem _
    have h2 := hb _ h1
    exact ⟨(l.getD i 0).toNat, by omega, by omega⟩
  obtain ⟨hc, hc2⟩ := hc
  have e1 : Go.bits .and .u8 (l.getD i 0) 127 = ((c % 128 : Nat) : Int) := by
    rw [hc]
    have := bits_mask .u8 8 (by decide) wraps_u8 7 (by decide) (c : Int) (by omega) (by omega)
    refine Eq.trans this ?_
    omega
  have e2 : IntKind.u64.wrap ((c % 128 : Nat) : Int) = ((c % 128 : Nat) : Int) := wraps_u64 _ (by omega) (by omega)
  have e3 : wrap64 (7 * (i : Int)) = ((7 * i : Nat) : Int) := by unfold wrap64; omega
  obtain ⟨p, hp⟩ : ∃ p : Nat, p = 2 ^ (7 * i) := ⟨_, rfl⟩
  have hp128 : p = 128 ^ i := by rw [hp, Nat.pow_mul]
  obtain ⟨r, hr⟩ : ∃ r : Nat, p * r = 18446744073709551616 ∧ 0 < r := by
    refine ⟨2 ^ (64 - 7 * i), ?_, Nat.two_pow_pos _⟩
    rw [hp, ← Nat.pow_add, show 7 * i + (64 - 7 * i) = 64 by omega]
  have hv := val_lt (l.take i)
  rw [List.length_take, Nat.min_eq_left (by omega), ← hp128] at hv
  have hpr : p ≤ p * r := Nat.le_mul_of_pos_right _ hr.2
  have e4 : shl .u64 ((c % 128 : Nat) : Int) ((7 * i : Nat) : Int) = ((p * (c % 128 % r) : Nat) : Int) := by
    unfold shl
    rw [show min ((7 * i : Nat) : Int).toNat IntKind.u64.bits = 7 * i from by simp [IntKind.bits]; omega]
    have h5 : ((c % 128 : Nat) : Int) * 2 ^ (7 * i) = ((c % 128 * p : Nat) : Int) := by rw [hp]; simp
    rw [h5, IntKind.wrap_u64]
    have h6 := mod_join 0 (c % 128) p r (by omega) hr.2
    rw [hr.1, Nat.zero_add, Nat.zero_add] at h6
    omega
  rw [e1, e2, e3, e4, Nat.mod_eq_of_lt (by omega)]
  have hlt : p * (c % 128 % r) < 2 ^ 64 := by
    have h4 : c % 128 % r + 1 ≤ r := Nat.mod_lt _ hr.2
    have h5 : p * (c % 128 % r + 1) ≤ p * r := Nat.mul_le_mul_left _ h4
    rw [Nat.mul_add] at h5
    omega
  rw [(bits_nat .u64 64 (by decide) wraps_u64 _ _ (by omega) hlt).2, Nat.or_comm, hp, ← Nat.two_pow_add_eq_or_of_lt (by omega), ← hp]
  rw [take_snoc' l i hi, val_append _ _ (by omega), List.length_take, Nat.min_eq_left (by omega), ← hp128, hc]
  have h7 := mod_join (val (l.take i)) (c % 128) p r hv hr.2
  rw [hr.1] at h7
  rw [show ((c : Int) % 128).toNat = c % 128 by omega, h7]
  omega

def grpW (most : Nat) (l : List Int) : Int × Int × Int := (((grp most l).1 % 18446744073709551616 : Nat), ((grp most l).2.1 : Nat), ((grp most l).2.2 : Nat))

theorem rd_nat (l : List Int) (i : Nat) : rd l (i : Int) = l.getD i 0 := by simp [rd]

theorem wrap7 {i : Nat} (h : i < 10) : 0 ≤ wrap64 (7 * (i : Int)) := by
  rw [show wrap64 (7 * (i : Int)) = ((7 * i : Nat) : Int) by unfold wrap64; omega]
  omega
theorem groups_l0 (most : Nat) (l : List Int) (hm : most ≤ 10) (hlen : l.length ≤ 9223372036854775806) (hb : Bytes l) (d : Nat) : ∀ (k i : Nat), i + d = min (lead l) most → d < k →
    PCodecNumbers.codec_groups.l0 k l most ((val (l.take i) % 18446744073709551616 : Nat) : Int) l l.length i = some (grpW most l) := by
  have hle := lead_le l
  induction d with
  | zero =>
    intro k i hi hk
    obtain ⟨k, rfl⟩ : ∃ m, k = m + 1 := ⟨k - 1, by omega⟩
    simp only [PCodecNumbers.codec_groups.l0]
    by_cases h1 : most ≤ lead l
    · have hg : grpW most l = (0, 0, 3) := by unfold grpW grp; rw [if_pos h1]; rfl
      rw [hg]
      have him : i = most := by omega
      by_cases h2 : i < l.length
      · rw [if_pos (by omega), if_pos (by omega), if_pos (by omega), if_pos (by omega)]
      · rw [if_neg (by omega), if_pos (by omega)]
    · have hil : i = lead l := by omega
      by_cases h2 : l.length ≤ lead l
      · have hg : grpW most l = (0, 0, 28) := by unfold grpW grp; rw [if_neg h1, if_pos h2]; rfl
        rw [hg, if_neg (by omega), if_neg (by omega)]
      · have hc := lead_at l (by omega)
        rw [← hil] at hc
        rw [if_pos (by omega), if_pos (by omega), if_pos (by omega), if_neg (by omega), if_pos (wrap7 (by omega)), rd_nat, if_pos hc]
        have hstep := group_step l i (by omega) (by omega) hb
        rw [hstep]
        by_cases h3 : l.getD i 0 = 0
        · rw [if_pos h3]
          by_cases h4 : i = 0
          · have hg : grpW most l = (((val (l.take (i + 1)) % 18446744073709551616 : Nat) : Int), ((i + 1 : Nat) : Int), (0 : Int)) := by
              unfold grpW grp; rw [if_neg h1, if_neg h2, if_neg (by omega), ← hil]; rfl
            rw [hg, if_neg (by omega)]
            simp only [Option.some.injEq, Prod.mk.injEq]
            exact ⟨trivial, by unfold wrap64; omega, trivial⟩
          · have hg : grpW most l = (0, 0, 3) := by
              unfold grpW grp; rw [if_neg h1, if_neg h2, if_pos ⟨by omega, by rw [← hil]; exact h3⟩]; rfl
            rw [hg, if_pos (by omega)]
        · rw [if_neg h3]
          have hg : grpW most l = (((val (l.take (i + 1)) % 18446744073709551616 : Nat) : Int), ((i + 1 : Nat) : Int), (0 : Int)) := by
            unfold grpW grp; rw [if_neg h1, if_neg h2, if_neg (by rw [← hil]; exact fun hh => h3 hh.2), ← hil]; rfl
          rw [hg]
          simp only [Option.some.injEq, Prod.mk.injEq]
          exact ⟨trivial, by unfold wrap64; omega, trivial⟩
  | succ d ih =>
    intro k i hi hk
    obtain ⟨k, rfl⟩ : ∃ m, k = m + 1 := ⟨k - 1, by omega⟩
    simp only [PCodecNumbers.codec_groups.l0]
    have hc := lead_lt l i (by omega)
    rw [if_pos (by omega), if_pos (by omega), if_pos (by omega), if_neg (by omega), if_pos (wrap7 (by omega)), rd_nat, if_neg (by omega)]
    rw [group_step l i (by omega) (by omega) hb, show wrap64 ((i : Int) + 1) = ((i + 1 : Nat) : Int) by unfold wrap64; omega]
    exact ih k (i + 1) (by omega) (by omega)

theorem groups_f {k most : Nat} (l : List Int) (hm : most ≤ 10) (hlen : l.length ≤ 9223372036854775806) (hb : Bytes l) (hk : 11 ≤ k) :
    PCodecNumbers.codec_groups.f k l most = some (grpW most l) := by
  unfold PCodecNumbers.codec_groups.f
  exact groups_l0 most l hm hlen hb (min (lead l) most) k 0 (by omega) (by omega)

/-- What Parse answers. -/
def prs (l : List Int) : Int × Int × Int := (((grp 9 l).1 : Nat), ((grp 9 l).2.1 : Nat), ((grp 9 l).2.2 : Nat))

theorem grp9_lt (l : List Int) : (grp 9 l).1 < 9223372036854775808 := by
  unfold grp
  split
  · simp
  split
  · simp
  split
  · simp
  · rename_i h1 h2 h3
    have h4 := val_lt (l.take (lead l + 1))
    have h5 : (l.take (lead l + 1)).length ≤ 9 := by rw [List.length_take]; omega
    have h6 : 128 ^ (l.take (lead l + 1)).length ≤ 128 ^ 9 := Nat.pow_le_pow_right (by omega) h5
    exact Nat.lt_of_lt_of_le h4 h6

theorem Parse_f {k : Nat} (l : List Int) (hlen : l.length ≤ 9223372036854775806) (hb : Bytes l) (hk : 11 ≤ k) : PCodecNumbers.codec_Parse.f k l = some (prs l) := by
  unfold PCodecNumbers.codec_Parse.f
  rw [show (9 : Int) = ((9 : Nat) : Int) from rfl, groups_f l (by omega) hlen hb hk]
  simp only [Option.bind_some, grpW, prs]
  have := grp9_lt l
  rw [show wrap64 ((((grp 9 l).1 % 18446744073709551616 : Nat)) : Int) = ((grp 9 l).1 : Int) by unfold wrap64; omega]

end Go.Proofs.Ytbddllklagiajaa

set_option linter.unusedVariables false
set_option linter.unusedSimpArgs false
namespace Go.Proofs.Ytbddllklagiajaa
open Go.RowKit Go.Proofs.YtbddllklagiajaaW.PrintWords Go.Proofs.YtbddllklagiajaaW.PrintLast Go.Proofs.YtbddllklagiajaaW.PrintMore

/-- The reference's answer: a number beyond 64 bits is an error. -/
def grpR (most : Nat) (l : List Int) : Nat × Nat × Nat :=
  if (grp most l).2.2 = 0 ∧ lead l = 9 ∧ 1 < l.getD (lead l) 0 then (0, 0, 3) else grp most l

theorem grpR_9 (l : List Int) : grpR 9 l = grp 9 l := by
  unfold grpR
  rw [if_neg]
  rintro ⟨h1, h2, _⟩
  unfold grp at h1
  rw [if_pos (by omega)] at h1
  simp at h1

theorem val_drop (m : List Int) (i : Nat) (h : i < m.length) (hb : 0 ≤ m.getD i 0) : val (m.drop i) = (m.getD i 0 % 128).toNat + 128 * val (m.drop (i + 1)) := by
  rw [List.drop_eq_getElem_cons h]
  simp [val, List.getD, h]

theorem ref_l1 (l : List Int) (e : Nat) (he : e < l.length) (he9 : e ≤ 9) (hb : Bytes l) : ∀ (i k : Nat), i ≤ e + 1 → i < k →
    PCodecKeeps.replevinref01_groups.l1 k l e ((val ((l.take (e + 1)).drop i) % 18446744073709551616 : Nat) : Int) ((i : Int) - 1) = some (((val (l.take (e + 1)) % 18446744073709551616 : Nat) : Int), ((e + 1 : Nat) : Int), 0) := by
  intro i
  induction i with
  | zero =>
    intro k hi hk
    obtain ⟨k, rfl⟩ : ∃ m, k = m + 1 := ⟨k - 1, by omega⟩
    simp only [PCodecKeeps.replevinref01_groups.l1]
    rw [if_neg (by omega), List.drop_zero, show wrap64 ((e : Int) + 1) = ((e + 1 : Nat) : Int) by unfold wrap64; omega]
  | succ i ih =>
    intro k hi hk
    obtain ⟨k, rfl⟩ : ∃ m, k = m + 1 := ⟨k - 1, by omega⟩
    simp only [PCodecKeeps.replevinref01_groups.l1]
    have hx : ((i + 1 : Nat) : Int) - 1 = (i : Int) := by omega
    rw [hx, if_pos (by omega), if_pos (by omega), if_pos (by omega), rd_nat]
    have hg : (l.take (e + 1)).getD i 0 = l.getD i 0 := by
      rw [List.getD_eq_getElem?_getD, List.getD_eq_getElem?_getD, List.getElem?_take_of_lt (by omega)]
    have hc : 0 ≤ l.getD i 0 := by
      rw [List.getD_eq_getElem?_getD, List.getElem?_eq_getElem (by omega)]
      exact (hb _ (List.getElem_mem _)).1
    have hv := val_drop (l.take (e + 1)) i (by rw [List.length_take]; omega) (by rw [hg]; exact hc)
    rw [hg] at hv
    have e1 : IntKind.u64.wrap (IntKind.u64.wrap (128 * ((val ((l.take (e + 1)).drop (i + 1)) % 18446744073709551616 : Nat) : Int)) + IntKind.u64.wrap (Int.tmod (l.getD i 0) 128)) = ((val ((l.take (e + 1)).drop i) % 18446744073709551616 : Nat) : Int) := by
      rw [hv, Int.tmod_eq_emod_of_nonneg hc]
      simp only [IntKind.wrap_u64]
      omega
    rw [e1, show wrap64 ((i : Int) - 1) = (i : Int) - 1 by unfold wrap64; omega]
    exact ih k (by omega) (by omega)

def grpZ (g : Nat × Nat × Nat) : Int × Int × Int := ((g.1 : Int), (g.2.1 : Int), (g.2.2 : Int))

theorem val_lt64 (l : List Int) (hb : Bytes l) (h1 : lead l < l.length) (h2 : lead l ≤ 9) (h3 : ¬ (lead l = 9 ∧ 1 < l.getD (lead l) 0)) : val (l.take (lead l + 1)) < 18446744073709551616 := by
  have hc0 : 0 ≤ l.getD (lead l) 0 := by
    rw [List.getD_eq_getElem?_getD, List.getElem?_eq_getElem h1]
    exact (hb _ (List.getElem_mem _)).1
  by_cases h9 : lead l = 9
  · rw [take_snoc' l _ h1, val_append _ _ (by
      rw [List.getD_eq_getElem?_getD, List.getElem?_eq_getElem h1]
      exact (hb _ (List.getElem_mem _)).1)]
    have h4 := val_lt (l.take (lead l))
    rw [List.length_take, Nat.min_eq_left (by omega)] at h4 ⊢
    have h5 : (l.getD (lead l) 0 % 128).toNat ≤ 1 := by omega
    have h6 : (128 : Nat) ^ lead l = 9223372036854775808 := by rw [h9]
    rw [h6] at h4 ⊢
    have : (l.getD (lead l) 0 % 128).toNat * 9223372036854775808 ≤ 1 * 9223372036854775808 := Nat.mul_le_mul_right _ h5
    omega
  · have h4 := val_lt (l.take (lead l + 1))
    have h5 : (l.take (lead l + 1)).length ≤ 9 := by rw [List.length_take]; omega
    have h6 : 128 ^ (l.take (lead l + 1)).length ≤ 128 ^ 9 := Nat.pow_le_pow_right (by omega) h5
    have : (128 : Nat) ^ 9 = 9223372036854775808 := by decide
    omega

theorem ref_l0 (most : Nat) (l : List Int) (hm : most ≤ 10) (hlen : l.length ≤ 9223372036854775806) (hb : Bytes l) (d : Nat) : ∀ (k i : Nat), i + d = min (lead l) most → d + 20 < k →
    PCodecKeeps.replevinref01_groups.l0 k l most i = some (grpZ (grpR most l)) := by
  have hle := lead_le l
  induction d with
  | zero =>
    intro k i hi hk
    obtain ⟨k, rfl⟩ : ∃ m, k = m + 2 := ⟨k - 2, by omega⟩
    have hj : PCodecKeeps.replevinref01_groups.j1 (k + 1) l most i = some (grpZ (grpR most l)) := by
      simp only [PCodecKeeps.replevinref01_groups.j1]
      by_cases h1 : most ≤ lead l
      · have hg : grpZ (grpR most l) = (0, 0, 3) := by unfold grpR grp; rw [if_pos h1, if_neg (by simp)]; rfl
        rw [hg, if_pos (by omega)]
      · have hil : i = lead l := by omega
        rw [if_neg (by omega)]
        by_cases h2 : l.length ≤ lead l
        · have hg : grpZ (grpR most l) = (0, 0, 28) := by unfold grpR grp; rw [if_neg h1, if_pos h2, if_neg (by simp)]; rfl
          rw [hg, if_pos (by omega)]
        · rw [if_neg (by omega)]
          have key : ∀ b : Bool, (b = true ↔ (0 < i ∧ l.getD i 0 = 0)) → PCodecKeeps.replevinref01_groups.j2 k l i b = some (grpZ (grpR most l)) := by
            intro b hbb
            obtain ⟨k, rfl⟩ : ∃ m, k = m + 2 := ⟨k - 2, by omega⟩
            simp only [PCodecKeeps.replevinref01_groups.j2]
            by_cases h3 : 0 < i ∧ l.getD i 0 = 0
            · have hg : grpZ (grpR most l) = (0, 0, 3) := by unfold grpR grp; rw [if_neg h1, if_neg h2, ← hil, if_pos h3, if_neg (by simp)]; rfl
              rw [hg, if_pos (hbb.2 h3)]
            · have hgrp : grp most l = (val (l.take (i + 1)), i + 1, 0) := by unfold grp; rw [if_neg h1, if_neg h2, ← hil, if_neg h3]
              rw [if_neg (fun h => h3 (hbb.1 h))]
              have hj3 : ¬ (lead l = 9 ∧ 1 < l.getD (lead l) 0) → PCodecKeeps.replevinref01_groups.j3 (k + 1) l i = some (grpZ (grpR most l)) := by
                intro h4
                simp only [PCodecKeeps.replevinref01_groups.j3]
                have hl1 := ref_l1 l i (by omega) (by omega) hb (i + 1) k (by omega) (by omega)
                rw [List.drop_eq_nil_of_le (by rw [List.length_take]; omega)] at hl1
                rw [show (((i + 1 : Nat) : Int) - 1) = (i : Int) by omega] at hl1
                refine Eq.trans hl1 ?_
                unfold grpR
                rw [if_neg (fun hh => h4 hh.2), hgrp]
                have hv := val_lt64 l hb (by omega) (by omega) h4
                rw [← hil] at hv
                rw [Nat.mod_eq_of_lt hv]
                rfl
              by_cases h9 : i = 9
              · rw [if_pos (by omega), if_pos (by omega), if_pos (by omega), rd_nat]
                by_cases h4 : l.getD i 0 > 1
                · have hg : grpZ (grpR most l) = (0, 0, 3) := by unfold grpR; rw [if_pos ⟨by rw [hgrp], by omega, by rw [← hil]; exact h4⟩]; rfl
                  rw [hg, if_pos h4]
                · rw [if_neg h4]
                  exact hj3 (fun hh => h4 (by rw [hil]; exact hh.2))
              · rw [if_neg (by omega)]
                exact hj3 (fun hh => h9 (by omega))
          by_cases h3 : i = 0
          · rw [if_neg (by omega)]
            exact key false (by simp; omega)
          · rw [if_pos (by omega), if_pos (by omega), if_pos (by omega), rd_nat]
            exact key _ (by simp; omega)
    simp only [PCodecKeeps.replevinref01_groups.l0]
    by_cases h1 : (i : Int) < (l.length : Int)
    · rw [if_pos h1]
      by_cases h2 : (i : Int) < (most : Int)
      · rw [if_pos h2, if_pos (by omega), rd_nat]
        have hc := lead_at l (by omega)
        rw [show lead l = i by omega] at hc
        rw [if_neg (by omega)]
        exact hj
      · rw [if_neg h2]; exact hj
    · rw [if_neg h1]; exact hj
  | succ d ih =>
    intro k i hi hk
    obtain ⟨k, rfl⟩ : ∃ m, k = m + 1 := ⟨k - 1, by omega⟩
    simp only [PCodecKeeps.replevinref01_groups.l0]
    have hc := lead_lt l i (by omega)
    rw [if_pos (by omega), if_pos (by omega), if_pos (by omega), rd_nat, if_pos (by omega), show wrap64 ((i : Int) + 1) = ((i + 1 : Nat) : Int) by unfold wrap64; omega]
    exact ih k (i + 1) (by omega) (by omega)

theorem refGroups_f {k most : Nat} (l : List Int) (hm : most ≤ 10) (hlen : l.length ≤ 9223372036854775806) (hb : Bytes l) (hk : 40 ≤ k) :
    PCodecKeeps.replevinref01_groups.f k l most = some (grpZ (grpR most l)) := by
  unfold PCodecKeeps.replevinref01_groups.f
  exact ref_l0 most l hm hlen hb (min (lead l) most) k 0 (by omega) (by omega)

theorem refParse_f {k : Nat} (l : List Int) (hlen : l.length ≤ 9223372036854775806) (hb : Bytes l) (hk : 40 ≤ k) : PCodecKeeps.replevinref01_Parse.f k l = some (prs l) := by
  unfold PCodecKeeps.replevinref01_Parse.f
  rw [show (9 : Int) = ((9 : Nat) : Int) from rfl, refGroups_f l (by omega) hlen hb hk]
  simp only [Option.bind_some, grpZ, grpR_9, prs]
  have := grp9_lt l
  rw [show wrap64 (((grp 9 l).1 : Nat) : Int) = ((grp 9 l).1 : Int) by unfold wrap64; omega]

end Go.Proofs.Ytbddllklagiajaa

namespace Go.Proofs.Ytbddllklagiajaa
open PCodecKeeps (info5)
open Go.RowKit Go.Proofs.YtbddllklagiajaaW.PrintWords Go.Proofs.YtbddllklagiajaaW.PrintLast Go.Proofs.YtbddllklagiajaaW.PrintMore
set_option linter.unusedVariables false
set_option linter.unusedSimpArgs false

theorem newWriter_calls (base : Nat) (w : World) (hb : base ≤ w.heap.size) :
    Calls Try.prog 26 #[] w fun e w' => e = .returned (.pointer (some ⟨w.heap.size, 0, none⟩)) ∧ Wr base w' w.heap.size (fun _ => False) [] 0 ∧ Below w.heap.size w w' ∧ w'.heap.size = w.heap.size + 1 := by
  go_enter Try.func26, Try.ntmps26
  go_wp2
  go_ret
  exact ⟨rfl, ⟨_, blk_new w _, hb, Kd.R_nil _ _ _ _ _⟩, below_alloc (Below.refl _ _) _, by simp⟩

theorem parse_a : PCodecNumbers.codec_Parse.f 20 [128, 0] = some (0, 0, 3) := by decide +kernel
theorem parse_b : PCodecNumbers.codec_Parse.f 20 [128] = some (0, 0, 28) := by decide +kernel
theorem known_out : strOfNums ((([] ++ enc 300) ++ enc (zig (-1))) ++ (enc 2 ++ bytesOf ⟨#[97, 98]⟩)) = ⟨#[172, 2, 1, 2, 97, 98]⟩ := by
  have h1 : enc 300 = [172, 2] := by rw [enc_big (by decide), enc_small (by decide)]; rfl
  have h2 : zig (-1) = 1 := by decide
  have h3 : enc 1 = [1] := enc_small (by decide)
  have h4 : enc 2 = [2] := enc_small (by decide)
  rw [h1, h2, h3, h4]
  decide +kernel

set_option maxHeartbeats 1000000 in
theorem known_calls (w : World) : Calls Try.prog 21 #[] w fun e w' => e = .returned (.bool true) ∧ Below w.heap.size w w' := by
  go_enter Try.func21, Try.ntmps21
  go_wp2_with fail
  refine (newWriter_calls w.heap.size w (Nat.le_refl _)).mono ?_
  rintro e w1 ⟨rfl, W1, B1, s1⟩
  have HW := Aside0.mk W1
  have HB := Aside0.mk B1
  clear W1 B1
  go_wp2_with fail
  refine (number_ok w.heap.size w.heap.size _ [] 300 w1 HW.out (fun _ h => h.elim) (by omega) (by omega) (by simp)).mono ?_
  rintro e w2 ⟨rfl, W2, F2⟩
  have B2 := HB.out.trans (F2.below (B := w.heap.size) (by rintro k (rfl | h); exact Nat.le_refl _; exact h.elim) HB.out.size)
  clear HW HB F2
  have HW := Aside0.mk W2.tight
  have HB := Aside0.mk B2
  clear W2 B2
  go_wp2_with fail
  refine (signed_ok w.heap.size w.heap.size _ _ (-1) w2 HW.out (fun _ h => ⟨h.2.1, h.2.2.2⟩) HB.out.size (by omega) (by omega) (by have := enc_len9 (n := 300) (by omega); simp; omega)).mono ?_
  rintro e w3 ⟨rfl, W3, F3⟩
  have B3 := HB.out.trans (F3.below (B := w.heap.size) (by rintro k (rfl | h); exact Nat.le_refl _; exact h.2.2.1) HB.out.size)
  clear HW HB F3
  have HW := Aside0.mk W3.tight
  have HB := Aside0.mk B3
  clear W3 B3
  go_wp2_with fail
  refine (text_ok w.heap.size w.heap.size _ _ _ w3 HW.out (fun _ h => ⟨h.2.1, h.2.2.2⟩) HB.out.size (by decide) (by have := enc_len9 (n := 300) (by omega); have := enc_len10 (n := zig (-1)) (by decide); simp; omega)).mono ?_
  rintro e w4 ⟨rfl, W4, F4⟩
  rw [show (⟨#[97, 98]⟩ : ByteArray).size = 2 from rfl] at W4
  have B4 := HB.out.trans (F4.below (B := w.heap.size) (by rintro k (rfl | h); exact Nat.le_refl _; exact h.2.2.1) HB.out.size)
  clear HW HB F4
  have HW := Aside0.mk W4.tight
  have HB := Aside0.mk B4
  clear W4 B4
  go_wp2_with fail
  refine (bytes_ok w.heap.size w.heap.size _ _ w4 HW.out (by have := enc_len9 (n := 300) (by omega); have := enc_len10 (n := zig (-1)) (by decide); have := enc_len9 (n := 2) (by omega); have : (bytesOf ⟨#[97, 98]⟩).length = 2 := rfl; simp [List.length_append] at *; omega)).mono ?_
  rintro e w5 ⟨v5, rfl, R5, B5⟩
  obtain ⟨A5, n5, c5, rfl⟩ := R_form' R5
  have B5' := below_step HB.out B5
  clear HW HB B5
  have HR := Aside0.mk R5
  have HB := Aside0.mk B5'
  have hx := Aside0.mk (Kd.R_reads' (R_block KB (W := w5) (base := w5.heap.size) (e := 5) (xs := [128, 0]) (inner := [.int .u8 128, .int .u8 0]) (ok := fun _ => True) (okp := fun _ => True) (Reps.snoc (ps := [128]) (cs := [.int .u8 128]) (Reps.snoc (Reps.none _ _) rfl rfl) rfl rfl) (fun _ h => h) trivial (Nat.le_refl _) (by simp))).2.2
  clear R5 B5'
  go_wp2_with fail
  refine (PCodecNumbers.codec_Parse.calls 20 _ _ [128, 0] _ _ _ _ hx.out (by simp) parse_a).mono ?_
  rintro e w6 ⟨rfl, D6⟩
  have B6 := (below_alloc (Below.refl _ _) _).trans (D6.below.mono (by simp))
  have B6' := below_step HB.out B6
  have R6 := Kd.R_below HR.out B6
  clear HR HB D6 hx B6
  have HR := Aside0.mk R6
  have HB := Aside0.mk B6'
  have hx := Aside0.mk (Kd.R_reads' (R_block KB (W := w6) (base := w6.heap.size) (e := 5) (xs := [128]) (inner := [.int .u8 128]) (ok := fun _ => True) (okp := fun _ => True) (Reps.snoc (Reps.none _ _) rfl rfl) (fun _ h => h) trivial (Nat.le_refl _) (by simp))).2.2
  clear R6 B6'
  go_wp2_with fail
  refine (PCodecNumbers.codec_Parse.calls 20 _ _ [128] _ _ _ _ hx.out (by simp) parse_b).mono ?_
  rintro e w7 ⟨rfl, D7⟩
  have B7 := (below_alloc (Below.refl _ _) _).trans (D7.below.mono (by simp))
  have B7' := below_step HB.out B7
  have R7 := Kd.R_reads' (Kd.R_below HR.out B7)
  have hcv := Kd.C_string (P := Try.prog) (c := c5) Try.underlying22 Try.underlying5 Try.underlying9 R7.2.2
  rw [← R7.1, known_out] at hcv
  have HB2 := Aside0.mk B7'
  clear HR HB D7 hx B7 R7 B7'
  go_wp2
  go_ret
  exact ⟨rfl, HB2.out⟩

end Go.Proofs.Ytbddllklagiajaa
