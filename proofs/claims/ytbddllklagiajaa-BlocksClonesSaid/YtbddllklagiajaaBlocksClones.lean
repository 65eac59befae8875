/-
  Proved: for every first block, both counts and both lists of operations, BlocksClones returns true and leaves the lists as they were. Conditions: none.
-/
import Derived.Test.YtbddllklagiajaaRows
import Derived.Test.YtbddllklagiajaaX19
import Derived.WalkKit
import Derived.ProofKit
import Derived.OpenShut
import Derived.ShutString
import Derived.ChangeOld
import Derived.Below
import Derived.SizedLaws
namespace Go.Proofs.Ytbddllklagiajaa.blocksClones
open Go.ChangeShapes Go.WideShapes Go.ChangeAt Go.RowKit
open Go.ChangeMaps (open_string shut_string)
open Go.Proofs.YtbddllklagiajaaW.PrintWords Go.Proofs.YtbddllklagiajaaW.PrintLast Go.Proofs.YtbddllklagiajaaW.PrintMore
set_option linter.unusedVariables false

theorem own : ownKnob Try.prog.godebug = none := by kernel_rfl
theorem laidOut : laidOutB Try.prog = true := by kernel_rfl

/-- A slice of integers that came in: nil, or a row of 'cap' cells. -/
def IsRow (k : IntKind) (w : World) (a : Option Addr) (len cap : Nat) (zs : List Int) : Prop :=
  (a = none ∧ len = 0 ∧ cap = 0 ∧ zs = []) ∨
  ∃ x, a = some x ∧ len ≤ cap ∧ cap ≤ maxLen ∧ zs.length = cap ∧ (∀ i, i < zs.length → w.cell? (x.add i) = some (.int k (zs.getD i 0))) ∧ ∀ n ∈ zs, (Lit.int k n).wf = true

theorem wf_u16 {x : Int} (h : (Lit.int .u16 x).wf = true) : 0 ≤ x ∧ x ≤ 65535 := by
  simp [Lit.wf, IntKind.min, IntKind.max, IntKind.bits, IntKind.signed] at h
  omega

theorem okWide_array {P : Program} {w : World} {r : Reach} {base : Nat} {t : TypeId} {v : Value} {n : Nat} {e : TypeId} (ht : P.underlying t = some (.array n e)) (h : Value.okWide P w r base t v) : ∃ cs, v = .agg cs ∧ cs.size = P.cellsOf t := by
  simp only [Value.okWide, ht] at h
  obtain ⟨cs, h1, h2, _⟩ := h
  exact ⟨cs, h1, h2⟩

theorem trod_array2 {H : Type} {enc : TypeId × Value → H} {P : Program} {w : World} {base : Nat} {spare : Nat → Bool} {held : Bool} {t e : TypeId} {fuel : Nat} {c0 c1 : Value} {x : DataW H × List MemPlace} (ht : P.underlying t = some (.array 2 e)) (hce : P.cellsOf e = 1)
    (h : DataW.trod enc P w base spare held fuel t [c0, c1] = some x) :
    ∃ y0 y1 n, DataW.trod enc P w base spare held n e [c0] = some y0 ∧ DataW.trod enc P w base spare held n e [c1] = some y1 := by
  cases fuel with
  | zero => simp [DataW.trod] at h
  | succ n =>
    unfold DataW.trod at h
    rw [ht] at h
    have r2 : List.range 2 = [0, 1] := rfl
    simp [r2, hce] at h
    obtain ⟨_, h⟩ := h
    cases h0 : DataW.trod enc P w base spare held n e [c0] with
    | none => simp [h0] at h
    | some y0 =>
      cases h1 : DataW.trod enc P w base spare held n e [c1] with
      | none => simp [h0, h1] at h
      | some y1 => exact ⟨y0, y1, n, h0, h1⟩

theorem pair_of {cs : Array Value} (h : cs.size = 2) : ∃ c0 c1, cs = #[c0, c1] := by
  rcases cs with ⟨l⟩
  rcases l with _ | ⟨a, _ | ⟨b, _ | ⟨c, l⟩⟩⟩ <;> simp at h
  exact ⟨a, b, rfl⟩

theorem cells59 : Try.prog.cellsOf 59 = 1 := by kernel_rfl
theorem cells5 : Try.prog.cellsOf 5 = 1 := by kernel_rfl
section
variable {H : Type} {enc : TypeId × Value → H} {w : World} {base b2 : Nat} {spare : Nat → Bool} {held : Bool} {r : Reach}
theorem open_ops1 {c : Value} {fuel : Nat} {x : DataW H × List MemPlace} (h : DataW.trod enc Try.prog w base spare held fuel 59 [c] = some x) :
    ∃ (a : Option Addr) (len cap : Nat) (l : List OpV), c = .slice a len cap ∧ OpsIn w a len l ∧ len ≤ 9223372036854775807 ∧ len ≤ cap := by
  rcases Go.Deep.open_slice Try.underlying59 h with ⟨hcs, _⟩ | ⟨ad, len', cap', m, n, D, Pl, hcs, _⟩
  · simp at hcs
    subst hcs
    obtain ⟨l, hl⟩ := open_ops h
    exact ⟨_, _, _, l, rfl, hl⟩
  · simp at hcs
    subst hcs
    obtain ⟨l, hl⟩ := open_ops h
    exact ⟨_, _, _, l, rfl, hl⟩
set_option maxRecDepth 100000 in
theorem open_opsx2 {t : TypeId} {v : Value} {fuel : Nat} {x : DataW H × List MemPlace} (ht : Try.prog.underlying t = some (.array 2 59)) (hc : Try.prog.cellsOf t = 2) (hv : Value.okWide Try.prog w r b2 t v) (h : DataW.trod enc Try.prog w base spare held fuel t v.cells.toList = some x) :
    ∃ (a : Option Addr) (len cap : Nat) (l : List OpV) (b : Option Addr) (ken kap : Nat) (m : List OpV), v = .agg #[.slice a len cap, .slice b ken kap] ∧ (OpsIn w a len l ∧ len ≤ 9223372036854775807 ∧ len ≤ cap) ∧ OpsIn w b ken m ∧ ken ≤ 9223372036854775807 ∧ ken ≤ kap := by
  obtain ⟨cs, rfl, hcs⟩ := okWide_array ht hv
  rw [hc] at hcs
  obtain ⟨c0, c1, rfl⟩ := pair_of hcs
  obtain ⟨y0, y1, n, h0, h1⟩ := trod_array2 ht cells59 h
  obtain ⟨a, len, cap, l, rfl, hl⟩ := open_ops1 h0
  obtain ⟨b, ken, kap, m, rfl, hm⟩ := open_ops1 h1
  exact ⟨_, _, _, _, _, _, _, _, rfl, hl, hm⟩
set_option maxRecDepth 100000 in
theorem open_u8x2 {t : TypeId} {v : Value} {fuel : Nat} {x : DataW H × List MemPlace} (ht : Try.prog.underlying t = some (.array 2 5)) (hc : Try.prog.cellsOf t = 2) (hv : Value.okWide Try.prog w r b2 t v) (h : DataW.trod enc Try.prog w base spare held fuel t v.cells.toList = some x) :
    ∃ (a b : Int), v = .agg #[.int .u8 a, .int .u8 b] ∧ (0 ≤ a ∧ a ≤ 255) ∧ 0 ≤ b ∧ b ≤ 255 := by
  obtain ⟨cs, rfl, hcs⟩ := okWide_array ht hv
  rw [hc] at hcs
  obtain ⟨c0, c1, rfl⟩ := pair_of hcs
  obtain ⟨y0, y1, n, h0, h1⟩ := trod_array2 ht cells5 h
  obtain ⟨x0, e0, _, w0⟩ := DataW.trod_int Try.underlying5 h0
  obtain ⟨x1, e1, _, w1⟩ := DataW.trod_int Try.underlying5 h1
  simp only [List.cons.injEq, and_true] at e0 e1
  subst e0 e1
  exact ⟨x0, x1, rfl, wf_u8 w0, wf_u8 w1⟩
end

theorem walk (a0 : Int) (a1 b1 : Int) (a2 : Option Addr) (len2 cap2 : Nat) (l2 : List OpV) (b2 : Option Addr) (ken2 kap2 : Nat) (m2 : List OpV) (w : World) (w0 : (Lit.int .u16 a0).wf = true) (w1 : (0 ≤ a1 ∧ a1 ≤ 255) ∧ 0 ≤ b1 ∧ b1 ≤ 255) (w2 : (OpsIn w a2 len2 l2 ∧ len2 ≤ 9223372036854775807 ∧ len2 ≤ cap2) ∧ OpsIn w b2 ken2 m2 ∧ ken2 ≤ 9223372036854775807 ∧ ken2 ≤ kap2) :
    Calls Try.prog 15 #[.int .u16 a0, .agg #[.int .u8 a1, .int .u8 b1], .agg #[.slice a2 len2 cap2, .slice b2 ken2 kap2]] w fun e w' => e = .returned (.bool true) ∧ Below w.heap.size w w' := by
  exact blocksClones_walk a0 a1 b1 a2 len2 cap2 l2 b2 ken2 kap2 m2 w (wf_u16 w0) w1.1 w1.2 w2.1.1 w2.1.2.1 w2.2.1 w2.2.2.1

set_option maxRecDepth 100000 in
theorem lifted (os : Os) (started : os.Started) (H : Type) (enc : TypeId × Value → H) :
    ReturnsInHanded {} Try.checked os 15 .any (Rows.blocksClonesSpec.pre6 enc Try.prog Try.f15 Rows.blocksClonesRow.domain false) (Rows.blocksClonesSpec.post enc Try.prog Try.f15 false true false false) := by
  refine returnsInHanded_of_change (C := Try.checked) own started (by kernel_rfl) Try.func15
    (ChangeSpec.witness6 (enc := enc) (C := Try.checked) false ⟨#[], #[.int .u16 0, .agg #[.int .u8 0, .int .u8 0], .agg #[.slice none 0 0, .slice none 0 0]], []⟩ 8 (by kernel_rfl) (by kernel_rfl) (by kernel_rfl) (by kernel_rfl)) ?_
  intro W base args ds gs before hval0 hW hcnd _
  have hval : ∀ (j : Nat) t v, Try.f15.params[j]? = some t → args[j]? = some v → Value.okWide Try.prog W .any base t v := hval0
  have hW' := hW
  obtain ⟨p, q, hA0, hV, rfl, hfz, hnd⟩ := hW
  have hA : DataW.TrodAll enc Try.prog W 0 (fun _ => true) true Try.f15.params.toList args.toList ds p := hA0
  rw [Try.params15] at hA hval
  obtain ⟨v0, vs0, d0, ds0, p0, q0, hargs, rfl, rfl, h0, r0⟩ := trodAll_cons hA
  obtain ⟨v1, vs1, d1, ds1, p1, q1, rfl, rfl, rfl, h1, r1⟩ := trodAll_cons r0
  obtain ⟨v2, vs2, d2, ds2, p2, q2, rfl, rfl, rfl, h2, r2⟩ := trodAll_cons r1
  obtain ⟨rfl, rfl, rfl⟩ := trodAll_nil r2
  obtain rfl : args = #[v0, v1, v2] := by cases args; simp_all
  obtain ⟨rfl, rfl⟩ := trodVars_none hV
  obtain ⟨a0, rfl, rfl, rfl, w0⟩ := open_int Try.underlying58 (hval 0 58 v0 rfl rfl) h0
  have k1 := h1
  have lt1 : ∀ x ∈ p1, x.block < W.heap.size := by obtain ⟨m, hm⟩ := k1; exact DataW.trod_lt m _ _ _ hm
  obtain ⟨fuel1, hf1⟩ := h1
  obtain ⟨a1, b1, rfl, w1⟩ := open_u8x2 Try.underlying89 (by kernel_rfl) (hval 1 89 v1 rfl rfl) hf1
  have k2 := h2
  have lt2 : ∀ x ∈ p2, x.block < W.heap.size := by obtain ⟨m, hm⟩ := k2; exact DataW.trod_lt m _ _ _ hm
  obtain ⟨fuel2, hf2⟩ := h2
  obtain ⟨a2, len2, cap2, l2, b2, ken2, kap2, m2, rfl, w2⟩ := open_opsx2 Try.underlying90 (by kernel_rfl) (hval 2 90 v2 rfl rfl) hf2
  clear hA0 hval0
  refine (walk a0 a1 b1 a2 len2 cap2 l2 b2 ken2 kap2 m2 W w0 w1 w2).mono fun e W' ⟨he, bel⟩ => ?_
  subst he
  exact ⟨_, rfl, _, _, _, [], _, [], hW', trodAll_mk1 (shut_bool Try.underlying4 _), (trodAll_cons_mk (shut_int Try.underlying58 w0) (trodAll_cons_mk (Below.trod laidOut (by kernel_rfl) (of_decide_eq_true (by kernel_rfl)) k1 bel lt1) (trodAll_cons_mk (Below.trod laidOut (by kernel_rfl) (of_decide_eq_true (by kernel_rfl)) k2 bel lt2) trodAll_mk0))), rfl, bel.frame _, fun h => by cases h⟩

theorem over : Rows.blocksClonesRow.holds Try.pinned (OpenSpec.ofChange Rows.blocksClonesSpec) :=
  OpenClaim.holds_of_wide 15 Try.f15 rfl rfl rfl rfl rfl rfl rfl ⟨rfl, rfl, rfl, rfl, rfl⟩ rfl rfl rfl rfl rfl (by kernel_rfl) Try.func15 (by kernel_rfl)
    (of_decide_eq_true (by kernel_rfl)) (by unfold Func.isWrapper; first | (rw [if_pos (by decide +kernel)]; kernel_rfl) | (rw [if_neg (by decide +kernel)]; exact ⟨rfl, rfl⟩))
    (fun os started H enc _ => lifted os started H enc)

theorem proved : Rows.BlocksClonesSaid := over
#print axioms proved
end Go.Proofs.Ytbddllklagiajaa.blocksClones
