/- Values that came in: a slice of them, read as a list. -/
import Derived.Test.YtbddllklagiajaaVe
import Derived.Deep.Slices
import Derived.Deep.Fields
import Derived.ChangeSame
namespace Go.Proofs.Ytbddllklagiajaa
open PCodecKeeps (S51 k51 z51)
open Go.RowKit Go.Proofs.YtbddllklagiajaaW.PrintWords Go.Proofs.YtbddllklagiajaaW.PrintLast Go.Proofs.YtbddllklagiajaaW.PrintMore
open Go.ChangeShapes Go.WideShapes Go.Deep
set_option linter.unusedVariables false
section
variable {H : Type} {enc : TypeId × Value → H} {w : World} {base : Nat} {spare : Nat → Bool} {held : Bool}

/-- A struct's fields of one cell each: field j is cell j, read by its own type. -/
theorem field_at {e : TypeId} {fs : Array Field} {fuel : Nat} {cs : List Value} {x : DataW H × List MemPlace} (he : Try.prog.underlying e = some (.struct fs)) (hone : oneCellFields Try.prog fs = true) (hC : Try.prog.cellsOf e = fs.size)
    (h : DataW.trod enc Try.prog w base spare held fuel e cs = some x) : cs.length = fs.size ∧ ∀ (j : Nat) (f : Field), fs[j]? = some f → ∃ v y n, cs[j]? = some v ∧ DataW.trod enc Try.prog w base spare held n f.type [v] = some y := by
  obtain ⟨ys, n, _, _, hlen, hyl, hf⟩ := DataW.trod_struct he h
  refine ⟨hlen.trans hC, fun j f hj => ?_⟩
  obtain ⟨ho, hk⟩ := hone_of hone j f hj
  have hjl : j < fs.size := (Array.getElem?_eq_some_iff.1 hj).1
  have h1 := hf j f hj
  have hjc : j < cs.length := by omega
  rw [ho, hk, List.drop_eq_getElem_cons hjc, List.take_succ_cons, List.take_zero, List.getElem?_eq_getElem (by omega)] at h1
  exact ⟨cs[j], _, n, List.getElem?_eq_getElem hjc, h1⟩

theorem wf_u8 {x : Int} (h : (Lit.int .u8 x).wf = true) : 0 ≤ x ∧ x ≤ 255 := by
  simp [Lit.wf, IntKind.min, IntKind.max, IntKind.bits, IntKind.signed] at h
  omega
theorem wf_i64 {x : Int} (h : (Lit.int .i64 x).wf = true) : -9223372036854775808 ≤ x ∧ x ≤ 9223372036854775807 := by
  simp [Lit.wf, IntKind.min, IntKind.max, IntKind.bits, IntKind.signed] at h
  omega

theorem cells51 : Try.prog.cellsOf 51 = 5 := by kernel_rfl

theorem open_vals {a : Option Addr} {len cap fuel : Nat} {x : DataW H × List MemPlace} (h : DataW.trod enc Try.prog w base spare held fuel 36 [.slice a len cap] = some x) :
    ∃ l : List S51, l.length = len ∧ k51.C w a len l ∧ (∀ v ∈ l, OkV v) ∧ len ≤ 9223372036854775807 ∧ len ≤ cap := by
  rcases open_slice Try.underlying36 h with ⟨hcs, _⟩ | ⟨ad, len', cap', m, n, D, Pl, hcs, hb, hl, hm, hmm, hx, hi⟩
  · simp at hcs
    obtain ⟨rfl, rfl, rfl⟩ := hcs
    exact ⟨[], rfl, Kd.C_nil k51 w, fun v hv => by simp at hv, by omega, by omega⟩
  · simp at hcs
    obtain ⟨rfl, rfl, rfl⟩ := hcs
    have hlm : len ≤ m := by rw [hmm]; split <;> omega
    have key : ∀ i, i < len → ∃ v : S51, OkV v ∧ ∀ j u, [Value.int .u8 v.f0, .int .i64 v.f1, .bool v.f2, .string v.f3, .int .i64 v.f4][j]? = some u → w.cell? (ad.add (i * 5 + j)) = some u := by
      intro i hil
      obtain ⟨cs', hc, ht⟩ := hi i (by omega)
      rw [cells51] at hc
      obtain ⟨_, hcl, hat⟩ := World.cells?_some hc
      obtain ⟨hlen, hf⟩ := field_at Try.underlying51 (by kernel_rfl) cells51 ht
      obtain ⟨v0, y0, n0, c0, t0⟩ := hf 0 _ rfl
      obtain ⟨v1, y1, n1, c1, t1⟩ := hf 1 _ rfl
      obtain ⟨v2, y2, n2, c2, t2⟩ := hf 2 _ rfl
      obtain ⟨v3, y3, n3, c3, t3⟩ := hf 3 _ rfl
      obtain ⟨v4, y4, n4, c4, t4⟩ := hf 4 _ rfl
      obtain ⟨x0, e0, _, w0⟩ := DataW.trod_int Try.underlying5 t0
      obtain ⟨x1, e1, _, w1⟩ := DataW.trod_int Try.underlying3 t1
      obtain ⟨x2, e2, _⟩ := DataW.trod_bool Try.underlying4 t2
      obtain ⟨x3, e3, _, w3⟩ := DataW.trod_string Try.underlying9 t3
      obtain ⟨x4, e4, _, w4⟩ := DataW.trod_int Try.underlying3 t4
      simp only [List.cons.injEq, and_true] at e0 e1 e2 e3 e4
      subst e0 e1 e2 e3 e4
      unfold maxLen at w3
      refine ⟨⟨x0, x1, x2, x3, x4⟩, ⟨wf_u8 w0, wf_i64 w1, wf_i64 w4, w3⟩, fun j u hu => ?_⟩
      have hj : j < 5 := by
        have := (List.getElem?_eq_some_iff.1 hu).1
        simpa using this
      rw [← Deep.add_add, hat j hj]
      match j, hj, hu with
      | 0, _, hu => rw [c0, ← hu]; rfl
      | 1, _, hu => rw [c1, ← hu]; rfl
      | 2, _, hu => rw [c2, ← hu]; rfl
      | 3, _, hu => rw [c3, ← hu]; rfl
      | 4, _, hu => rw [c4, ← hu]; rfl
    obtain ⟨f, hf⟩ := @choose_lt S51 ⟨z51⟩ len _ key
    unfold maxLen at hm
    refine ⟨(List.range len).map f, by simp, ⟨by simp, by omega, fun _ => ⟨ad, rfl, fun j p hj => ?_⟩⟩, fun v hv => ?_, by omega, hl⟩
    · have hjl : j < len := by have := (List.getElem?_eq_some_iff.1 hj).1; simpa using this
      have hp : f j = p := by simpa [hjl] using hj
      subst hp
      exact ⟨_, rfl, PCodecKeeps.k51_mk w (f j), (hf j hjl).2⟩
    · obtain ⟨i, hil, rfl⟩ := List.mem_map.1 hv
      exact (hf i (List.mem_range.1 hil)).1
end
end Go.Proofs.Ytbddllklagiajaa
