/-
  PROVED: 'replevinlaw20.ImageChecks': WHATEVER THE INPUT: true; the input reads as it did.
-/
import Derived.Test.YtbddllklagiajaaDoorRows
import Derived.Test.YtbddllklagiajaaDoorTie
import Derived.Test.YtbddllklagiajaaDoorCards
import Derived.Test.YtbddllklagiajaaDoorZa
import Derived.WalkKit
import Derived.ProofKit
import Derived.OpenShut
import Derived.ShutString
import Derived.ChangeOld
import Derived.Below
import Derived.SizedLaws
import Derived.LaidMore
import Derived.Stop.Joined
import Derived.SevenTiedAt
import Derived.Lib.LaidTab
import Derived.Lib.SmallJoins
namespace Go.Proofs.YtbddllklagiajaaDoor.imageChecks
open Go.ChangeShapes Go.WideShapes Go.ChangeAt Go.RowKit Go.Joins Go.Deep
open Go.ChangeMaps (open_string shut_string)
open Go.Proofs.YtbddllklagiajaaDoorW.PrintWords Go.Proofs.YtbddllklagiajaaDoorW.PrintLast Go.Proofs.YtbddllklagiajaaDoorW.PrintMore
set_option linter.unusedVariables false

theorem own : ownKnob Tryd.prog.godebug = none := by kernel_rfl
theorem laidOut : laidOutB Tryd.prog = true := by kernel_rfl
abbrev L : List (String × DataW Unit) := [("replevin/sha256.constants", Rows.laid_replevin_sha256_constants)]
theorem gK : Tryd.prog.globalNamed "replevin/sha256.constants" = some 0 := by kernel_rfl
theorem tK : (Tryd.prog.globals[0]?).map (·.type) = some 123 := by kernel_rfl
theorem laidK : (Rows.laid_replevin_sha256_constants : DataW Unit) = Lib.tabData .u32 kS := rfl
set_option maxRecDepth 100000 in
/-- The door's own heap meets the condition. -/
theorem door_met (os : Os) (args : Array Value) : laidMetH Tryd.prog L ((World.doorLaid Tryd.prog 400 os).forCall (fun _ _ => 0) ⟨#[], args, []⟩).memory :=
  laidMetH_of_parts3 (fuel := 8) (laidMet_of_run' 8 (by kernel_rfl) (by kernel_rfl)) (by kernel_rfl) (by kernel_rfl)
/-- What the condition gives: the table lies in the variable. -/
theorem kt_of {W : World} (h : laidMetH Tryd.prog L W) : KT W := by
  rw [MakeChecks.laidMetH_plain _ _ _ (by kernel_rfl)] at h
  have hT : Lib.TabIs Tryd.prog W "replevin/sha256.constants" .u32 kS := Lib.tabIs_of_head gK tK Tryd.underlying123 Tryd.underlying83 (by kernel_rfl) (by kernel_rfl) (by have h' := h; unfold L at h'; rw [laidK] at h'; exact h')
  have hc : ∀ i, i < 64 → W.cell? ⟨0, i, none⟩ = some (.int .u32 (kS.getD i 0)) := fun i hi => hT.cell gK i (Nat.lt_of_lt_of_le hi (by decide +kernel))
  refine ⟨?_, hc⟩
  have h0 := hc 0 (by decide)
  unfold World.cell? at h0
  rcases Nat.eq_zero_or_pos W.heap.size with h1 | h1
  · rw [Array.getElem?_eq_none (by omega)] at h0; simp at h0
  · exact h1

theorem walk (c0 d0 : ByteArray) (z0 e0 : Int) (w : World) (hK : KT w) (w0 : c0.size ≤ maxLen ∧ d0.size ≤ maxLen ∧ (Lit.int .i64 z0).wf = true ∧ (Lit.int .i64 e0).wf = true) :
    Calls Tryd.prog 5 #[.agg #[.string c0, .string d0, .int .i64 z0, .int .i64 e0]] w fun e w' => e = .returned (.bool true) ∧ Below w.heap.size w w' := by
  exact checks_calls c0 d0 z0 e0 w hK

set_option maxRecDepth 100000 in
theorem lifted (os : Os) (started : os.Started) (H : Type) (enc : TypeId × Value → H) :
    ReturnsInHanded {} Tryd.checked os 5 .any (fun w args => (Rows.imageChecksSpec.pre enc Tryd.prog Tryd.f5 [] false w args ∧ laidMetH Tryd.prog L w) ∧ sizedMet enc Tryd.prog Tryd.f5 (OpenSpec.ofChange Rows.imageChecksSpec) false w args)
      (Rows.imageChecksSpec.post enc Tryd.prog Tryd.f5 false true false false) := by
  refine returnsInHanded_of_change_and (C := Tryd.checked) (X := fun w _ => laidMetH Tryd.prog L w) (fun _ _ _ hh h => h.of_heap hh) own started (by kernel_rfl) Tryd.func5
    (ChangeSpec.witness_shaped (enc := enc) (C := Tryd.checked) (os := os) (X := fun w _ => laidMetH Tryd.prog L w) false (World.doorLaid Tryd.prog 400 os) #[.agg #[.string ByteArray.empty, .string ByteArray.empty, .int .i64 0, .int .i64 0]] 8 rfl (World.shaped_of_RefB (by kernel_rfl) (by kernel_rfl)) (by kernel_rfl) (by kernel_rfl) (by kernel_rfl) (door_met os _)) ?_
  intro W base args ds gs before hval0 hW _ _ hL _
  have hval : ∀ (j : Nat) t v, Tryd.f5.params[j]? = some t → args[j]? = some v → Value.okWide Tryd.prog W .any base t v := hval0
  have hW' := hW
  obtain ⟨p, q, hA0, hV, rfl, hfz, hnd⟩ := hW
  have hA : DataW.TrodAll enc Tryd.prog W 0 (fun _ => true) true Tryd.f5.params.toList args.toList ds p := hA0
  rw [Tryd.params5] at hA hval
  obtain ⟨v0, vs0, d0, ds0, p0, q0, hargs, rfl, rfl, h0, r0⟩ := trodAll_cons hA
  obtain ⟨rfl, rfl, rfl⟩ := trodAll_nil r0
  obtain rfl : args = #[v0] := by cases args; simp_all
  obtain ⟨rfl, rfl⟩ := trodVars_none hV
  have k0 := h0
  have lt0 : ∀ x ∈ p0, x.block < W.heap.size := by obtain ⟨m, hm⟩ := k0; exact DataW.trod_lt m _ _ _ hm
  obtain ⟨x0, x1, x2, x3, y0, y1, y2, y3, n0, rfl, _, _, t0, t1, t2, t3⟩ := open_agg4 Tryd.underlying23 (by kernel_rfl) (by kernel_rfl) (hval 0 23 v0 rfl rfl) h0
  obtain ⟨c0, u0, _, wc⟩ := DataW.trod_string Tryd.underlying9 t0
  obtain ⟨d0', u1, _, wd⟩ := DataW.trod_string Tryd.underlying9 t1
  obtain ⟨z0, u2, _, wz⟩ := DataW.trod_int Tryd.underlying3 t2
  obtain ⟨e0, u3, _, we⟩ := DataW.trod_int Tryd.underlying3 t3
  simp only [List.cons.injEq, and_true] at u0 u1 u2 u3
  subst u0 u1 u2 u3
  have w0 := (⟨wc, wd, wz, we⟩ : c0.size ≤ maxLen ∧ d0'.size ≤ maxLen ∧ (Lit.int .i64 z0).wf = true ∧ (Lit.int .i64 e0).wf = true)
  clear hA0 hval0
  refine (walk c0 d0' z0 e0 W (kt_of hL) w0).mono fun e W' ⟨he, bel⟩ => ?_
  subst he
  exact ⟨_, rfl, _, _, _, [], _, [], hW', trodAll_mk1 (shut_bool Tryd.underlying4 _), (trodAll_cons_mk (Below.trod laidOut (by kernel_rfl) (of_decide_eq_true (by kernel_rfl)) k0 bel lt0) trodAll_mk0), rfl, bel.frame _, fun h => by cases h⟩

theorem over : Rows.imageChecksRow.holds Tryd.pinned (OpenSpec.ofChange Rows.imageChecksSpec) :=
  OpenClaim.holds_of_wide 5 Tryd.f5 rfl rfl rfl rfl rfl rfl rfl ⟨rfl, rfl, rfl, rfl, rfl⟩ rfl rfl rfl rfl rfl (by kernel_rfl) Tryd.func5 (by kernel_rfl)
    (of_decide_eq_true (by kernel_rfl)) (by unfold Func.isWrapper; first | (rw [if_pos (by decide +kernel)]; kernel_rfl) | (rw [if_neg (by decide +kernel)]; exact ⟨rfl, rfl⟩))
    (fun os started H enc _ => lifted os started H enc)

theorem proved : Rows.ImageChecksCardSaid :=
  Claim7.holds_tied_plain_at .later [] [.data] true (true, "ddea6ce16e1ac7bb7b5e4cb001bcb5be417f5c0cac29985ad431d693c65e8a9e") false
    over (fun _ h => by cases h) (by kernel_rfl) (fun _ h => by cases h) imageChecks_row_tie rfl ⟨rfl, rfl⟩ (by kernel_rfl) rfl
    (fun f fn hf hfn => by
      obtain rfl : f = 5 := Option.some.inj ((show Tryd.prog.funcNamed "replevin/replevinlaw20.ImageChecks" = some 5 by kernel_rfl).symm.trans hf) |>.symm
      obtain rfl : fn = Tryd.f5 := (Option.some.inj (Tryd.func5.symm.trans hfn)).symm
      exact ⟨by kernel_rfl, fun j t ht => by
        rw [Tryd.params5] at ht
        have hm : t ∈ [23] := by simpa using Array.mem_of_getElem? ht
        have hall : ([23].all fun u => !Tryd.prog.wantsStandIn u) = true := by kernel_rfl
        exact (show Tryd.prog.wantsStandIn t = false by simpa using List.all_eq_true.1 hall t hm)⟩)
    (by kernel_rfl)
#print axioms proved
end Go.Proofs.YtbddllklagiajaaDoor.imageChecks
