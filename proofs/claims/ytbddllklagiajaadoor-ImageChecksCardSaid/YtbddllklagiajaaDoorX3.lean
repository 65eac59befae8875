/- The walk of CodecParses. The functions that a Reader hands to 'read'. Readers: their state in memory; NewReader; 'read' at each function that the methods hand to it. A Reader's methods. Pure laws: what Decode reads. image.Decode. Pure laws of an image's text: an encoding is read back; what is accepted is an encoding. strings.Builder's WriteString, Len and String, strings.Repeat: the library's contracts at this program. (Image).Memory. replevinlaw20.known. replevinlaw20.long (the walk as print.sh wrote it for ImageMemory). -/
import Derived.Test.YtbddllklagiajaaDoorX2
import Derived.ProofKit
import Derived.Laws.Tables
import Derived.BigQuiet
import Derived.Shelf.Strings.Repeat
import Derived.Shelf.Strings.BuilderF
import Derived.Test.YtbddllklagiajaaDoorProg
import Derived.Test.YtbddllklagiajaaDoorPImageDecodesx2
namespace Go.Proofs.YtbddllklagiajaaDoor
open PImageDecodes (info5)
open Go.RowKit Go.Proofs.YtbddllklagiajaaDoorW.PrintWords Go.Proofs.YtbddllklagiajaaDoorW.PrintLast Go.Proofs.YtbddllklagiajaaDoorW.PrintMore
set_option linter.unusedVariables false
set_option linter.unusedSimpArgs false

theorem parse_calls (A : Option Addr) (n c : Nat) (l : List Int) (w : World) (hn : l.length = n) (hc : n ≤ c) (hC : KB.C w A n l) (hb : Bytes l) (hl : n ≤ 9223372036854775806) :
    Calls Tryd.prog 68 #[.slice A n c] w fun e w' => e = .returned (.tuple #[.int .i64 (prs l).1, .int .i64 (prs l).2.1, .int .i64 (prs l).2.2]) ∧ Drawn0 w w' := by
  subst hn
  exact PCodecNumbers.codec_Parse.calls 40 A c l _ _ _ w hC hc (Parse_f l hl hb (by omega))

theorem refParse_calls (A : Option Addr) (n c : Nat) (l : List Int) (w : World) (hn : l.length = n) (hc : n ≤ c) (hC : KB.C w A n l) (hb : Bytes l) (hl : n ≤ 9223372036854775806) :
    Calls Tryd.prog 73 #[.slice A n c] w fun e w' => e = .returned (.tuple #[.int .i64 (prs l).1, .int .i64 (prs l).2.1, .int .i64 (prs l).2.2]) ∧ Drawn0 w w' := by
  subst hn
  exact PImageDecodes.replevinref01_Parse.calls 40 A c l _ _ _ w hC hc (refParse_f l hl hb (by omega))

end Go.Proofs.YtbddllklagiajaaDoor

namespace Go.Proofs.YtbddllklagiajaaDoor
open PImageDecodes (info5)
open Go.RowKit Go.Proofs.YtbddllklagiajaaDoorW.PrintWords Go.Proofs.YtbddllklagiajaaDoorW.PrintLast Go.Proofs.YtbddllklagiajaaDoorW.PrintMore
set_option linter.unusedVariables false
set_option linter.unusedSimpArgs false

theorem unzig_odd {u : Nat} (h : u % 2 = 1) : -1 - ((u / 2 : Nat) : Int) = unzig u := by unfold unzig; rw [if_pos h]
theorem unzig_even {u : Nat} (h : ¬ u % 2 = 1) : ((u / 2 : Nat) : Int) = unzig u := by unfold unzig; rw [if_neg h]

set_option maxHeartbeats 1000000 in
set_option maxRecDepth 100000 in
theorem numFn_calls (A : Option Addr) (n c bx : Nat) (most : Int) (l : List Int) (w : World) (hn : l.length = n) (hc : n ≤ c) (hC : KB.C w A n l) (hb : Bytes l) (hl : n ≤ 9223372036854775806) (hcell : w.cell? ⟨bx, 0, none⟩ = some (.int .i64 most)) :
    Calls Tryd.prog 70 #[.slice A n c, .pointer (some ⟨bx, 0, none⟩)] w fun e w' => e = .returned (.tuple #[.int .i64 (numR most l).1, .int .i64 (numR most l).2.1, .int .i64 (numR most l).2.2]) ∧ Drawn0 w w' := by
  have HC := Aside0.mk hC
  have HBy := Aside0.mk hb
  obtain ⟨⟨r1, r2, r3⟩, hr⟩ : ∃ r, prs l = r := ⟨_, rfl⟩
  have HR := Aside0.mk hr
  by_cases he : r3 = 0
  · by_cases hm : most < r1
    · have hs : numR most l = (0, 0, 2) := by unfold numR; rw [hr, if_pos ⟨he, hm⟩]
      rw [hs]
      subst he
      have hm1 : decide (most < r1) = true := decide_eq_true hm
      clear hC hb hr hs
      go_enter Tryd.func70, Tryd.ntmps70
      go_wp2_with fail
      refine (parse_calls A n c l w hn hc HC.out HBy.out hl).mono ?_
      rw [HR.out]
      rintro e w1 ⟨rfl, ⟨m, rfl⟩⟩
      go_wp2
      go_ret3
      exact ⟨rfl, ⟨⟨m, rfl⟩⟩⟩
    · have hs : numR most l = (r1, r2, r3) := by unfold numR; rw [hr, if_neg (fun h => hm h.2)]
      rw [hs]
      subst he
      have hm1 : decide (most < r1) = false := decide_eq_false hm
      clear hC hb hr hs
      go_enter Tryd.func70, Tryd.ntmps70
      go_wp2_with fail
      refine (parse_calls A n c l w hn hc HC.out HBy.out hl).mono ?_
      rw [HR.out]
      rintro e w1 ⟨rfl, ⟨m, rfl⟩⟩
      go_wp2
      go_ret3
      exact ⟨rfl, ⟨⟨m, rfl⟩⟩⟩
  · have hs : numR most l = (r1, r2, r3) := by unfold numR; rw [hr, if_neg (fun h => he h.1)]
    rw [hs]
    have he1 : (r3 == 0) = false := beq_eq_false_iff_ne.mpr he
    clear hC hb hr hs
    go_enter Tryd.func70, Tryd.ntmps70
    go_wp2_with fail
    refine (parse_calls A n c l w hn hc HC.out HBy.out hl).mono ?_
    rw [HR.out]
    rintro e w1 ⟨rfl, ⟨m, rfl⟩⟩
    go_wp2
    go_ret3
    exact ⟨rfl, ⟨⟨m, rfl⟩⟩⟩

set_option maxHeartbeats 2000000 in
set_option maxRecDepth 100000 in
theorem txtFn_calls (A : Option Addr) (n c bx : Nat) (most : Int) (l : List Int) (w : World) (hn : l.length = n) (hc : n ≤ c) (hC : KB.C w A n l) (hb : Bytes l) (hl : n ≤ 4611686018427387904) (hcell : w.cell? ⟨bx, 0, none⟩ = some (.int .i64 most)) :
    Calls Tryd.prog 67 #[.slice A n c, .pointer (some ⟨bx, 0, none⟩)] w fun e w' => e = .returned (.tuple #[.string (txtR most l).1, .int .i64 (txtR most l).2.1, .int .i64 (txtR most l).2.2]) ∧ Drawn0 w w' := by
  have HC := Aside0.mk hC
  have HBy := Aside0.mk hb
  have hways : (∃ f : Int, prs l = (0, 0, f) ∧ f ≠ 0) ∨ (∃ n k : Nat, prs l = ((n : Int), (k : Int), 0) ∧ n < 9223372036854775808 ∧ 0 < k ∧ k ≤ 9 ∧ k ≤ l.length) := by
    rcases prs_cases l hb with h | h | ⟨n, k, h1, h2, h3, h4, h5, _⟩
    · exact .inl ⟨3, h, by decide⟩
    · exact .inl ⟨28, h, by decide⟩
    · exact .inr ⟨n, k, h1, h2, h3, h4, h5⟩
  obtain ⟨mm, hmm⟩ : ∃ mm, min most 16777216 = mm := ⟨_, rfl⟩
  have hif : (if (16777216 : Int) < most then (16777216 : Int) else most) = mm := by rw [← hmm]; omega
  have hmm2 : mm ≤ 16777216 := by omega
  rcases hways with ⟨f, hr, hf⟩ | ⟨r, k, hr, hr1, hk0, hk9, hkl⟩
  · have HR := Aside0.mk hr
    have hs : txtR most l = (⟨#[]⟩, 0, f) := by unfold txtR; rw [hr, if_pos hf]
    rw [hs]
    have hf1 : (f != 0) = true := bne_iff_ne.mpr hf
    clear hC hb hr hs hmm hif
    go_enter Tryd.func67, Tryd.ntmps67
    go_wp2_with fail
    refine (parse_calls A n c l w hn hc HC.out HBy.out (by omega)).mono ?_
    rw [HR.out]
    rintro e w1 ⟨rfl, ⟨m, rfl⟩⟩
    go_wp2
    go_ret3
    exact ⟨rfl, ⟨⟨m, rfl⟩⟩⟩
  · have HR := Aside0.mk hr
    by_cases h1 : mm < (r : Int)
    · have hs : txtR most l = (⟨#[]⟩, 0, 5) := by unfold txtR; rw [hr, if_neg (by simp), hmm, if_pos h1]
      rw [hs]
      have hd : decide (mm < (r : Int)) = true := decide_eq_true h1
      clear hC hb hr hs hmm
      go_enter Tryd.func67, Tryd.ntmps67
      go_wp2_with fail
      refine (parse_calls A n c l w hn hc HC.out HBy.out (by omega)).mono ?_
      rw [HR.out]
      rintro e w1 ⟨rfl, ⟨m, rfl⟩⟩
      go_wp2
      go_ret3
      exact ⟨rfl, ⟨⟨m, rfl⟩⟩⟩
    · have hd : decide (mm < (r : Int)) = false := decide_eq_false h1
      by_cases h2 : (n : Int) - (k : Int) < (r : Int)
      · have hs : txtR most l = (⟨#[]⟩, 0, 28) := by unfold txtR; rw [hr, if_neg (by simp), hmm, if_neg h1, hn, if_pos h2]
        rw [hs]
        have hd2 : decide ((n : Int) - (k : Int) < (r : Int)) = true := decide_eq_true h2
        have hkn : k ≤ n := by omega
        clear hC hb hr hs hmm
        go_enter Tryd.func67, Tryd.ntmps67
        go_wp2_with fail
        refine (parse_calls A n c l w hn hc HC.out HBy.out (by omega)).mono ?_
        rw [HR.out]
        rintro e w1 ⟨rfl, ⟨m, rfl⟩⟩
        go_wp2
        go_ret3
        exact ⟨rfl, ⟨⟨m, rfl⟩⟩⟩
      · have hs : txtR most l = (strOfNums ((l.drop k).take r), (k : Int) + r, 0) := by unfold txtR; rw [hr, if_neg (by simp), hmm, if_neg h1, hn, if_neg h2]; rfl
        rw [hs]
        have hd2 : decide ((n : Int) - (k : Int) < (r : Int)) = false := decide_eq_false h2
        have hkn : k + r ≤ n := by omega
        obtain ⟨sx, hsx⟩ : ∃ sx, strOfNums ((l.drop k).take r) = sx := ⟨_, rfl⟩
        by_cases hck : c = k
        · have hr0 : r = 0 := by omega
          subst hr0
          subst hck
          have hcv : ∀ m, (convert 46 9 (.slice A 0 0)).run Tryd.prog (w.drewN m) = .ok (.string sx) (w.drewN m) := by
            intro m
            rw [← hsx]
            exact Kd.C_string (P := Tryd.prog) (c := 0) Tryd.underlying46 Tryd.underlying5 Tryd.underlying9 (show KB.C (w.drewN m) A 0 [] from ⟨rfl, by omega, fun h => absurd h (by omega)⟩)
          rw [hsx]
          have hc0 : decide (mm < ((0 : Nat) : Int)) = false := hd
          clear hC hb hr hs hmm hsx hd
          go_enter Tryd.func67, Tryd.ntmps67
          go_wp2_with fail
          refine (parse_calls A n c l w hn hc HC.out HBy.out (by omega)).mono ?_
          rw [HR.out]
          rintro e w1 ⟨rfl, ⟨m, rfl⟩⟩
          have hcm := hcv m
          clear hcv
          go_wp2
          go_ret3
          exact ⟨rfl, ⟨⟨m, rfl⟩⟩⟩
        · have hmid := Kd.C_mid (xs := l) (c := c) (lo := k) (hi := k + r) (by rw [hn]; exact HC.out) (by omega) (by omega) (by omega)
          rw [if_neg hck, show ((l.take (k + r)).drop k) = (l.drop k).take r by rw [List.drop_take]; congr 1; omega] at hmid
          have hln : ((l.drop k).take r).length = r := by rw [List.length_take, List.length_drop]; omega
          rw [hln] at hmid
          have hcv : ∀ m, (convert 46 9 (.slice (A.map (·.add k)) r (c - k))).run Tryd.prog (w.drewN m) = .ok (.string sx) (w.drewN m) := by
            intro m
            rw [← hsx]
            refine Kd.C_string (P := Tryd.prog) (c := c - k) Tryd.underlying46 Tryd.underlying5 Tryd.underlying9 (Kd.C_drewN ?_ m)
            simpa [Kd.int, Kd.scalar] using hmid
          rw [hsx]
          have hckb : ¬ c = k := hck
          clear hC hb hr hs hmm hsx hmid hln
          go_enter Tryd.func67, Tryd.ntmps67
          go_wp2_with fail
          refine (parse_calls A n c l w hn hc HC.out HBy.out (by omega)).mono ?_
          rw [HR.out]
          rintro e w1 ⟨rfl, ⟨m, rfl⟩⟩
          have hcm := hcv m
          clear hcv
          go_wp2
          go_ret3
          exact ⟨rfl, ⟨⟨m, rfl⟩⟩⟩

end Go.Proofs.YtbddllklagiajaaDoor

namespace Go.Proofs.YtbddllklagiajaaDoor
open PImageDecodes (info5)
open Go.RowKit Go.Proofs.YtbddllklagiajaaDoorW.PrintWords Go.Proofs.YtbddllklagiajaaDoorW.PrintLast Go.Proofs.YtbddllklagiajaaDoorW.PrintMore
set_option linter.unusedVariables false
set_option linter.unusedSimpArgs false

/-- A Reader lies at block g: its bytes, how many have been read, its error. -/
def Rd (base : Nat) (w : World) (g : Nat) (P : Nat → Prop) (b : List Int) (at_ : Nat) (f : Int) : Prop :=
  ∃ A n c, w.heap[g]? = some (.cells #[.slice A n c, .int .i64 (at_ : Int), .int .i64 f] 99 (0, 0)) ∧ base ≤ g ∧ KB.R 5 w base P (.slice A n c) b ∧ at_ ≤ b.length

namespace Rd
variable {base g : Nat} {w w' : World} {P P' S : Nat → Prop} {b : List Int} {at_ : Nat} {f : Int}
theorem mono (h : Rd base w g P b at_ f) (hp : ∀ k, P k → P' k) : Rd base w g P' b at_ f := by
  obtain ⟨A, n, c, hb, hg, hr, ha⟩ := h
  exact ⟨A, n, c, hb, hg, Kd.R_mono hr hp, ha⟩
theorem frm (h : Rd base w g P b at_ f) (hk : Frm w w' S) (hg : ¬ S g) (hS : ∀ k, P k → ¬ S k) : Rd base w' g P b at_ f := by
  obtain ⟨A, n, c, hb, hg', hr, ha⟩ := h
  exact ⟨A, n, c, hk.blk hb hg, hg', Kd.R_kept hr hk.kept hS, ha⟩
theorem tight (h : Rd base w g P b at_ f) : Rd base w g (fun k => P k ∧ k ≠ g ∧ base ≤ k ∧ k < w.heap.size) b at_ f := by
  obtain ⟨A, n, c, hb, hg', hr, ha⟩ := h
  refine ⟨A, n, c, hb, hg', ?_, ha⟩
  have h1 := Kd.R_types hr hb (by intro q hq; simp [KB, Kd.int, Kd.scalar] at hq; omega)
  exact Kd.R_mono (Kd.R_bound h1) (fun k hk => ⟨hk.1.1, hk.1.2, hk.2.1, hk.2.2.1⟩)
theorem lt (h : Rd base w g P b at_ f) : g < w.heap.size := by
  obtain ⟨A, n, c, hb, _⟩ := h
  exact blk_lt hb
theorem len (h : Rd base w g P b at_ f) : at_ ≤ b.length := by
  obtain ⟨A, n, c, _, _, _, ha⟩ := h
  exact ha
end Rd

set_option maxHeartbeats 800000 in
theorem newReader_calls (base : Nat) (A : Option Addr) (n c : Nat) (l : List Int) (w : World) (hb : base ≤ w.heap.size) (hl : l.length = n) (hC : KB.C w A n l) (hn : n ≤ 140737488355328) :
    Calls Tryd.prog 49 #[.slice A n c] w fun e w' => ∃ g, e = .returned (.pointer (some ⟨g, 0, none⟩)) ∧ Rd base w' g (fun k => w.heap.size ≤ k) l 0 0 ∧ w.heap.size ≤ g ∧ Below w.heap.size w w' := by
  have HC := Aside0.mk hC
  have HL := Aside0.mk hl
  have HE := Aside0.mk (R_block KB (W := w) (base := w.heap.size) (e := 5) (xs := []) (inner := []) (ok := fun k => w.heap.size ≤ k) (okp := fun k => w.heap.size ≤ k) (Reps.none _ _) (fun _ h => h) (Nat.le_refl _) (Nat.le_refl _) (by simp))
  clear hC hl
  go_enter Tryd.func49, Tryd.ntmps49
  go_wp2_with ((with_reducible refine gate_dst (N := 5) rfl ?_); at_builtin; refine Kd.R_append_row (Value.int .u8) 0 (h1 := fun _ => rfl) (w0 := w) w.heap.size rfl (.tmp 3) (.tmp 4) 46 5 (.int .u8 0) 1 rfl Tryd.underlying46 info5 rfl (by decide) _ [] l A n c (fun k => w.heap.size ≤ k) rfl rfl ?aF ?aO ?aR ?aB ?aS ?aL ?_; (case aF => exact fun k hk => by rw [World.size_alloc] at hk; omega); (case aO => exact HE.out); (case aR => exact Kd.C_alloc HC.out _); (case aB => exact below_alloc (Below.refl _ _) _); (case aS => simp); (case aL => simp; omega); intro v3 w3 hr3 hb3 hg3 hat3; obtain ⟨A3, n3, c3, rfl⟩ := R_form' hr3; have HR3 := Aside0.mk hr3; have HB3 := Aside0.mk hb3; clear hr3 hb3 hg3 hat3)
  go_ret
  have hs3 := HB3.out.size
  exact ⟨w3.heap.size, rfl, ⟨A3, n3, c3, blk_new w3 _, by omega, Kd.R_lower (Kd.R_alloc HR3.out _) hb, Nat.zero_le _⟩, hs3, below_alloc HB3.out _⟩

theorem Frm.cellAt (w : World) (m g i : Nat) (v : Value) : Frm w ((w.drewN m).setCell ⟨g, i, none⟩ v) (fun k => k = g) := ((Frm.refl w (fun k => k = g)).drewN m).setCell (p := ⟨g, i, none⟩) (.inl rfl) v

/-- What 'read' is told of the rest of the bytes. -/
theorem rest_C {w : World} {A : Option Addr} {n c at_ : Nat} {b : List Int} (hC : KB.C w A n b) (hn : b.length = n) (hc : n ≤ c) (ha : at_ ≤ n) : KB.C w (if c = at_ then A else A.map (·.add at_)) (n - at_) (b.drop at_) := by
  have h := Kd.C_drop (xs := b) (m := at_) (c := c) (by rw [hn]; exact hC) (by omega) (by omega)
  rw [List.length_drop, hn] at h
  simpa [Kd.int, Kd.scalar] using h

set_option maxHeartbeats 2000000 in
set_option maxRecDepth 100000 in
/-- 'read' at function 96, nothing having failed. -/
theorem readNumber_calls (base g : Nat) (P : Nat → Prop) (b : List Int) (at_ : Nat) (w : World) (bx : Nat) (h : Rd base w g P b at_ 0) (v : Int) (sz : Nat) (szI e : Int) (hsz : e = 0 → szI = sz ∧ at_ + sz ≤ b.length) (hbl : b.length ≤ 1000000000000)
    (hcall : ∀ A n c, b.length - at_ = n → n ≤ c → KB.C w.drew A n (b.drop at_) → Calls Tryd.prog 70 #[.slice A n c, .pointer (some ⟨bx, 0, none⟩)] w.drew fun e' w' => e' = .returned (.tuple #[.int .i64 v, .int .i64 szI, .int .i64 e]) ∧ Drawn0 w.drew w') :
    Calls Tryd.prog 69 #[.pointer (some ⟨g, 0, none⟩), .func (.func 70) #[] #[.pointer (some ⟨bx, 0, none⟩)]] w fun e' w' => e' = .returned (if e = 0 then .int .i64 v else .int .i64 0) ∧ Rd base w' g P b (if e = 0 then at_ + sz else at_) e ∧ Frm w w' (fun k => k = g) := by
  obtain ⟨A, n, c, hb, hg, hr, ha⟩ := h.tight
  have h0 : w.cell? ⟨g, 0, none⟩ = some (.slice A n c) := blk_cell hb 0
  have h1 : w.cell? ⟨g, 1, none⟩ = some (.int .i64 (at_ : Int)) := blk_cell hb 1
  have h2 : w.cell? ⟨g, 2, none⟩ = some (.int .i64 0) := blk_cell hb 2
  have f1 : w.frozen? ⟨g, 1, none⟩ = false := blk_frozen hb 1
  have f2 : w.frozen? ⟨g, 2, none⟩ = false := blk_frozen hb 2
  have hrd := Kd.R_reads' hr
  have hn : n = b.length := hrd.1
  have hcn : n ≤ c := hrd.2.1
  have han : at_ ≤ n := by omega
  have hnl : n ≤ 1000000000000 := by omega
  obtain ⟨A', hA'⟩ : ∃ A', (if c = at_ then A else A.map (·.add at_)) = A' := ⟨_, rfl⟩
  have hC := rest_C (A := A) (c := c) (by rw [hn]; exact hrd.2.2) hn.symm hcn han
  rw [hA'] at hC
  have HX := Aside0.mk (hcall A' (n - at_) (c - at_) (by omega) (by omega) (Kd.C_drew hC))
  have HB := Aside0.mk hb
  have HR := Aside0.mk hr
  have HN := Aside0.mk hn
  have HS := Aside0.mk hsz
  clear hb hr hrd hn hbl ha hcall hC hsz h
  by_cases he : e = 0
  · subst he
    obtain ⟨hs1, hs2⟩ := HS.out rfl
    have hs2' : at_ + sz ≤ n := by rw [HN.out]; exact hs2
    subst hs1
    clear HS hs2
    go_enter Tryd.func69, Tryd.ntmps69
    go_wp2_with fail
    refine start_ (n := 18) (S := fun w' => w'.cell? ⟨g, 0, none⟩ = some (.slice A n c) ∧ w'.cell? ⟨g, 1, none⟩ = some (.int .i64 (at_ : Int)) ∧ True ∧ True) (ds := []) #[false, false, false, false, false, false, false, false, false, false, false, false, false, false, false, false, false, false] (by kernel_rfl) rfl rfl ⟨h0, h1, trivial, trivial⟩ (fun hHeld => ?_)
    refine pure_ (i := 0) (N := some 20) (v := ?_) (a' := ?_) #[true, false, false, false, false, false, false, false, false, false, false, false, false, false, false, false, false, false] rfl rfl (by kernel_rfl) (fun _ _ _ h => h) (Or.inl ⟨by rfl, ?_⟩) ?_ ?_
    rotate_left
    · intro w'
      go_simp
      with_reducible rfl
    rotate_left
    · simp only [Act.put, List.setIfInBounds_toArray, List.set_cons_zero, List.set_cons_succ, i64_w, i32_w]
      rfl
    refine pure_ (i := 1) (N := some 21) (v := ?_) (a' := ?_) #[true, true, false, false, false, false, false, false, false, false, false, false, false, false, false, false, false, false] rfl rfl (by kernel_rfl) (fun _ _ _ h => h) (Or.inl ⟨by rfl, ?_⟩) ?_ ?_
    rotate_left
    · intro w'
      go_simp
      with_reducible rfl
    rotate_left
    · simp only [Act.put, List.setIfInBounds_toArray, List.set_cons_zero, List.set_cons_succ, i64_w, i32_w]
      rfl
    refine pure_ (i := 2) (N := some 22) (v := ?_) (a' := ?_) #[true, true, true, false, false, false, false, false, false, false, false, false, false, false, false, false, false, false] rfl rfl (by kernel_rfl) (fun _ _ _ h => h) (Or.inl ⟨by rfl, ?_⟩) ?_ ?_
    rotate_left
    · intro w'
      go_simp
      with_reducible rfl
    rotate_left
    · simp only [Act.put, List.setIfInBounds_toArray, List.set_cons_zero, List.set_cons_succ, i64_w, i32_w]
      rfl
    refine pure_ (i := 3) (N := some 23) (v := ?_) (a' := ?_) #[true, true, true, true, false, false, false, false, false, false, false, false, false, false, false, false, false, false] rfl rfl (by kernel_rfl) (fun _ _ _ h => h) (Or.inl ⟨by rfl, ?_⟩) ?_ ?_
    rotate_left
    · intro w'
      go_simp
      with_reducible rfl
    rotate_left
    · simp only [Act.put, List.setIfInBounds_toArray, List.set_cons_zero, List.set_cons_succ, i64_w, i32_w]
      rfl
    refine take_ (i := 4) (N := some 24) (v := ?_) (a' := ?_) #[true, true, true, true, true, false, false, false, false, false, false, false, false, false, false, false, false, false] rfl rfl (by kernel_rfl) (fun _ _ _ h => h) (Or.inl ⟨by rfl, ?_⟩) hHeld ?_ ?_
    rotate_left
    · rintro w' ⟨s0, s1, s2, s3⟩
      go_simp
      with_reducible rfl
    rotate_left
    · simp only [Act.put, List.setIfInBounds_toArray, List.set_cons_zero, List.set_cons_succ, i64_w, i32_w]
      rfl
    refine pure_ (i := 5) (N := some 25) (v := ?_) (a' := ?_) #[true, true, true, true, true, true, false, false, false, false, false, false, false, false, false, false, false, false] rfl rfl (by kernel_rfl) (fun _ _ _ h => h) (Or.inl ⟨by rfl, ?_⟩) ?_ ?_
    rotate_left
    · intro w'
      go_simp
      with_reducible rfl
    rotate_left
    · simp only [Act.put, List.setIfInBounds_toArray, List.set_cons_zero, List.set_cons_succ, i64_w, i32_w]
      rfl
    refine pure_ (i := 6) (N := some 26) (v := ?_) (a' := ?_) #[true, true, true, true, true, true, true, false, false, false, false, false, false, false, false, false, false, false] rfl rfl (by kernel_rfl) (fun _ _ _ h => h) (Or.inl ⟨by rfl, ?_⟩) ?_ ?_
    rotate_left
    · intro w'
      go_simp
      with_reducible rfl
    rotate_left
    · simp only [Act.put, List.setIfInBounds_toArray, List.set_cons_zero, List.set_cons_succ, i64_w, i32_w]
      rfl
    refine pure_ (i := 7) (N := some 27) (v := ?_) (a' := ?_) #[true, true, true, true, true, true, true, true, false, false, false, false, false, false, false, false, false, false] rfl rfl (by kernel_rfl) (fun _ _ _ h => h) (Or.inl ⟨by rfl, ?_⟩) ?_ ?_
    rotate_left
    · intro w'
      go_simp
      with_reducible rfl
    rotate_left
    · simp only [Act.put, List.setIfInBounds_toArray, List.set_cons_zero, List.set_cons_succ, i64_w, i32_w]
      rfl
    refine take_ (i := 8) (N := some 28) (v := ?_) (a' := ?_) #[true, true, true, true, true, true, true, true, true, false, false, false, false, false, false, false, false, false] rfl rfl (by kernel_rfl) (fun _ _ _ h => h) (Or.inl ⟨by rfl, ?_⟩) hHeld ?_ ?_
    rotate_left
    · rintro w' ⟨s0, s1, s2, s3⟩
      go_simp
      with_reducible rfl
    rotate_left
    · simp only [Act.put, List.setIfInBounds_toArray, List.set_cons_zero, List.set_cons_succ, i64_w, i32_w]
      rfl
    refine pure_ (i := 9) (N := some 29) (v := ?_) (a' := ?_) #[true, true, true, true, true, true, true, true, true, true, false, false, false, false, false, false, false, false] rfl rfl (by kernel_rfl) (fun _ _ _ h => h) (Or.inl ⟨by rfl, ?_⟩) ?_ ?_
    rotate_left
    · intro w'
      go_simp
      with_reducible rfl
    rotate_left
    · simp only [Act.put, List.setIfInBounds_toArray, List.set_cons_zero, List.set_cons_succ, i64_w, i32_w]
      rfl
    refine one_ (i := 10) (N := some 30) #[true, true, true, true, true, true, true, true, true, true, true, false, false, false, false, false, false, false] rfl rfl (by kernel_rfl) (by decide) (fun K hK => ?_)
    refine call_ 70 #[.slice A' (n - at_) (c - at_), .pointer (some ⟨bx, 0, none⟩)] (by rfl) rfl ?hrun ?_
    case hrun => go_simp
    refine HX.out.mono ?_
    rintro e w1 ⟨rfl, ⟨m, rfl⟩⟩
    refine ⟨_, rfl, ?_⟩
    refine hK.out _ _ ⟨h0, h1, trivial, trivial⟩ (fun hHeld => ?_)
    clear hK K hHeld
    refine pure_ (i := 11) (N := some 19) (v := ?_) (a' := ?_) #[true, true, true, true, true, true, true, true, true, true, true, true, false, false, false, false, false, false] rfl rfl (by kernel_rfl) (fun _ _ _ h => h) (Or.inl ⟨by rfl, ?_⟩) ?_ ?_
    rotate_left
    · intro w'
      go_simp
      with_reducible rfl
    rotate_left
    · simp only [Act.put, List.setIfInBounds_toArray, List.set_cons_zero, List.set_cons_succ, i64_w, i32_w]
      rfl
    refine pure_ (i := 12) (N := some 31) (v := ?_) (a' := ?_) #[true, true, true, true, true, true, true, true, true, true, true, true, true, false, false, false, false, false] rfl rfl (by kernel_rfl) (fun _ _ _ h => h) (Or.inl ⟨by rfl, ?_⟩) ?_ ?_
    rotate_left
    · intro w'
      go_simp
      with_reducible rfl
    rotate_left
    · simp only [Act.put, List.setIfInBounds_toArray, List.set_cons_zero, List.set_cons_succ, i64_w, i32_w]
      rfl
    refine pure_ (i := 13) (N := some 32) (v := ?_) (a' := ?_) #[true, true, true, true, true, true, true, true, true, true, true, true, true, true, false, false, false, false] rfl rfl (by kernel_rfl) (fun _ _ _ h => h) (Or.inl ⟨by rfl, ?_⟩) ?_ ?_
    rotate_left
    · intro w'
      go_simp
      with_reducible rfl
    rotate_left
    · simp only [Act.put, List.setIfInBounds_toArray, List.set_cons_zero, List.set_cons_succ, i64_w, i32_w]
      rfl
    refine pure_ (i := 14) (N := some 33) (v := ?_) (a' := ?_) #[true, true, true, true, true, true, true, true, true, true, true, true, true, true, true, false, false, false] rfl rfl (by kernel_rfl) (fun _ _ _ h => h) (Or.inl ⟨by rfl, ?_⟩) ?_ ?_
    rotate_left
    · intro w'
      go_simp
      with_reducible rfl
    rotate_left
    · simp only [Act.put, List.setIfInBounds_toArray, List.set_cons_zero, List.set_cons_succ, i64_w, i32_w]
      rfl
    refine pure_ (i := 15) (N := some 6) (v := ?_) (a' := ?_) #[true, true, true, true, true, true, true, true, true, true, true, true, true, true, true, true, false, false] rfl rfl (by kernel_rfl) (fun _ _ _ h => h) (Or.inl ⟨by rfl, ?_⟩) ?_ ?_
    rotate_left
    · intro w'
      go_simp
      with_reducible rfl
    rotate_left
    · simp only [Act.put, List.setIfInBounds_toArray, List.set_cons_zero, List.set_cons_succ, i64_w, i32_w]
      rfl
    refine pure_ (i := 16) (N := some 7) (v := ?_) (a' := ?_) #[true, true, true, true, true, true, true, true, true, true, true, true, true, true, true, true, true, false] rfl rfl (by kernel_rfl) (fun _ _ _ h => h) (Or.inl ⟨by rfl, ?_⟩) ?_ ?_
    rotate_left
    · intro w'
      go_simp
      with_reducible rfl
    rotate_left
    · simp only [Act.put, List.setIfInBounds_toArray, List.set_cons_zero, List.set_cons_succ, i64_w, i32_w]
      rfl
    refine pure_ (i := 17) (N := some 8) (v := ?_) (a' := ?_) #[true, true, true, true, true, true, true, true, true, true, true, true, true, true, true, true, true, true] rfl rfl (by kernel_rfl) (fun _ _ _ h => h) (Or.inl ⟨by rfl, ?_⟩) ?_ ?_
    rotate_left
    · intro w'
      go_simp
      with_reducible rfl
    rotate_left
    · simp only [Act.put, List.setIfInBounds_toArray, List.set_cons_zero, List.set_cons_succ, i64_w, i32_w]
      rfl
    refine done_ (by kernel_rfl) ?_
    go_wp2
    go_ret
    refine ⟨rfl, ⟨A, n, c, ?_, hg, Kd.R_mono (Kd.R_far (p := ⟨g, 1, none⟩) (Kd.R_drewN HR.out (1 + m)) (fun k hk => hk.2.1) _) (fun k hk => hk.1), by have := HN.out; simp; omega⟩, Frm.cellAt _ _ _ _ _⟩
    have hb2 := blk_set (blk_drewN HB.out (1 + m)) 1 (.int .i64 ((at_ : Int) + (sz : Int)))
    simpa using hb2
  · have he1 : (e != 0) = true := bne_iff_ne.mpr he
    rw [if_neg he, if_neg he]
    clear HS
    go_enter Tryd.func69, Tryd.ntmps69
    go_wp2_with fail
    refine start_ (n := 18) (S := fun w' => w'.cell? ⟨g, 0, none⟩ = some (.slice A n c) ∧ w'.cell? ⟨g, 1, none⟩ = some (.int .i64 (at_ : Int)) ∧ True ∧ True) (ds := []) #[false, false, false, false, false, false, false, false, false, false, false, false, false, false, false, false, false, false] (by kernel_rfl) rfl rfl ⟨h0, h1, trivial, trivial⟩ (fun hHeld => ?_)
    refine pure_ (i := 0) (N := some 20) (v := ?_) (a' := ?_) #[true, false, false, false, false, false, false, false, false, false, false, false, false, false, false, false, false, false] rfl rfl (by kernel_rfl) (fun _ _ _ h => h) (Or.inl ⟨by rfl, ?_⟩) ?_ ?_
    rotate_left
    · intro w'
      go_simp
      with_reducible rfl
    rotate_left
    · simp only [Act.put, List.setIfInBounds_toArray, List.set_cons_zero, List.set_cons_succ, i64_w, i32_w]
      rfl
    refine pure_ (i := 1) (N := some 21) (v := ?_) (a' := ?_) #[true, true, false, false, false, false, false, false, false, false, false, false, false, false, false, false, false, false] rfl rfl (by kernel_rfl) (fun _ _ _ h => h) (Or.inl ⟨by rfl, ?_⟩) ?_ ?_
    rotate_left
    · intro w'
      go_simp
      with_reducible rfl
    rotate_left
    · simp only [Act.put, List.setIfInBounds_toArray, List.set_cons_zero, List.set_cons_succ, i64_w, i32_w]
      rfl
    refine pure_ (i := 2) (N := some 22) (v := ?_) (a' := ?_) #[true, true, true, false, false, false, false, false, false, false, false, false, false, false, false, false, false, false] rfl rfl (by kernel_rfl) (fun _ _ _ h => h) (Or.inl ⟨by rfl, ?_⟩) ?_ ?_
    rotate_left
    · intro w'
      go_simp
      with_reducible rfl
    rotate_left
    · simp only [Act.put, List.setIfInBounds_toArray, List.set_cons_zero, List.set_cons_succ, i64_w, i32_w]
      rfl
    refine pure_ (i := 3) (N := some 23) (v := ?_) (a' := ?_) #[true, true, true, true, false, false, false, false, false, false, false, false, false, false, false, false, false, false] rfl rfl (by kernel_rfl) (fun _ _ _ h => h) (Or.inl ⟨by rfl, ?_⟩) ?_ ?_
    rotate_left
    · intro w'
      go_simp
      with_reducible rfl
    rotate_left
    · simp only [Act.put, List.setIfInBounds_toArray, List.set_cons_zero, List.set_cons_succ, i64_w, i32_w]
      rfl
    refine take_ (i := 4) (N := some 24) (v := ?_) (a' := ?_) #[true, true, true, true, true, false, false, false, false, false, false, false, false, false, false, false, false, false] rfl rfl (by kernel_rfl) (fun _ _ _ h => h) (Or.inl ⟨by rfl, ?_⟩) hHeld ?_ ?_
    rotate_left
    · rintro w' ⟨s0, s1, s2, s3⟩
      go_simp
      with_reducible rfl
    rotate_left
    · simp only [Act.put, List.setIfInBounds_toArray, List.set_cons_zero, List.set_cons_succ, i64_w, i32_w]
      rfl
    refine pure_ (i := 5) (N := some 25) (v := ?_) (a' := ?_) #[true, true, true, true, true, true, false, false, false, false, false, false, false, false, false, false, false, false] rfl rfl (by kernel_rfl) (fun _ _ _ h => h) (Or.inl ⟨by rfl, ?_⟩) ?_ ?_
    rotate_left
    · intro w'
      go_simp
      with_reducible rfl
    rotate_left
    · simp only [Act.put, List.setIfInBounds_toArray, List.set_cons_zero, List.set_cons_succ, i64_w, i32_w]
      rfl
    refine pure_ (i := 6) (N := some 26) (v := ?_) (a' := ?_) #[true, true, true, true, true, true, true, false, false, false, false, false, false, false, false, false, false, false] rfl rfl (by kernel_rfl) (fun _ _ _ h => h) (Or.inl ⟨by rfl, ?_⟩) ?_ ?_
    rotate_left
    · intro w'
      go_simp
      with_reducible rfl
    rotate_left
    · simp only [Act.put, List.setIfInBounds_toArray, List.set_cons_zero, List.set_cons_succ, i64_w, i32_w]
      rfl
    refine pure_ (i := 7) (N := some 27) (v := ?_) (a' := ?_) #[true, true, true, true, true, true, true, true, false, false, false, false, false, false, false, false, false, false] rfl rfl (by kernel_rfl) (fun _ _ _ h => h) (Or.inl ⟨by rfl, ?_⟩) ?_ ?_
    rotate_left
    · intro w'
      go_simp
      with_reducible rfl
    rotate_left
    · simp only [Act.put, List.setIfInBounds_toArray, List.set_cons_zero, List.set_cons_succ, i64_w, i32_w]
      rfl
    refine take_ (i := 8) (N := some 28) (v := ?_) (a' := ?_) #[true, true, true, true, true, true, true, true, true, false, false, false, false, false, false, false, false, false] rfl rfl (by kernel_rfl) (fun _ _ _ h => h) (Or.inl ⟨by rfl, ?_⟩) hHeld ?_ ?_
    rotate_left
    · rintro w' ⟨s0, s1, s2, s3⟩
      go_simp
      with_reducible rfl
    rotate_left
    · simp only [Act.put, List.setIfInBounds_toArray, List.set_cons_zero, List.set_cons_succ, i64_w, i32_w]
      rfl
    refine pure_ (i := 9) (N := some 29) (v := ?_) (a' := ?_) #[true, true, true, true, true, true, true, true, true, true, false, false, false, false, false, false, false, false] rfl rfl (by kernel_rfl) (fun _ _ _ h => h) (Or.inl ⟨by rfl, ?_⟩) ?_ ?_
    rotate_left
    · intro w'
      go_simp
      with_reducible rfl
    rotate_left
    · simp only [Act.put, List.setIfInBounds_toArray, List.set_cons_zero, List.set_cons_succ, i64_w, i32_w]
      rfl
    refine one_ (i := 10) (N := some 30) #[true, true, true, true, true, true, true, true, true, true, true, false, false, false, false, false, false, false] rfl rfl (by kernel_rfl) (by decide) (fun K hK => ?_)
    refine call_ 70 #[.slice A' (n - at_) (c - at_), .pointer (some ⟨bx, 0, none⟩)] (by rfl) rfl ?hrun ?_
    case hrun => go_simp
    refine HX.out.mono ?_
    rintro e w1 ⟨rfl, ⟨m, rfl⟩⟩
    refine ⟨_, rfl, ?_⟩
    refine hK.out _ _ ⟨h0, h1, trivial, trivial⟩ (fun hHeld => ?_)
    clear hK K hHeld
    refine pure_ (i := 11) (N := some 19) (v := ?_) (a' := ?_) #[true, true, true, true, true, true, true, true, true, true, true, true, false, false, false, false, false, false] rfl rfl (by kernel_rfl) (fun _ _ _ h => h) (Or.inl ⟨by rfl, ?_⟩) ?_ ?_
    rotate_left
    · intro w'
      go_simp
      with_reducible rfl
    rotate_left
    · simp only [Act.put, List.setIfInBounds_toArray, List.set_cons_zero, List.set_cons_succ, i64_w, i32_w]
      rfl
    refine pure_ (i := 12) (N := some 31) (v := ?_) (a' := ?_) #[true, true, true, true, true, true, true, true, true, true, true, true, true, false, false, false, false, false] rfl rfl (by kernel_rfl) (fun _ _ _ h => h) (Or.inl ⟨by rfl, ?_⟩) ?_ ?_
    rotate_left
    · intro w'
      go_simp
      with_reducible rfl
    rotate_left
    · simp only [Act.put, List.setIfInBounds_toArray, List.set_cons_zero, List.set_cons_succ, i64_w, i32_w]
      rfl
    refine pure_ (i := 13) (N := some 32) (v := ?_) (a' := ?_) #[true, true, true, true, true, true, true, true, true, true, true, true, true, true, false, false, false, false] rfl rfl (by kernel_rfl) (fun _ _ _ h => h) (Or.inl ⟨by rfl, ?_⟩) ?_ ?_
    rotate_left
    · intro w'
      go_simp
      with_reducible rfl
    rotate_left
    · simp only [Act.put, List.setIfInBounds_toArray, List.set_cons_zero, List.set_cons_succ, i64_w, i32_w]
      rfl
    refine pure_ (i := 14) (N := some 33) (v := ?_) (a' := ?_) #[true, true, true, true, true, true, true, true, true, true, true, true, true, true, true, false, false, false] rfl rfl (by kernel_rfl) (fun _ _ _ h => h) (Or.inl ⟨by rfl, ?_⟩) ?_ ?_
    rotate_left
    · intro w'
      go_simp
      with_reducible rfl
    rotate_left
    · simp only [Act.put, List.setIfInBounds_toArray, List.set_cons_zero, List.set_cons_succ, i64_w, i32_w]
      rfl
    refine pure_ (i := 15) (N := some 6) (v := ?_) (a' := ?_) #[true, true, true, true, true, true, true, true, true, true, true, true, true, true, true, true, false, false] rfl rfl (by kernel_rfl) (fun _ _ _ h => h) (Or.inl ⟨by rfl, ?_⟩) ?_ ?_
    rotate_left
    · intro w'
      go_simp
      with_reducible rfl
    rotate_left
    · simp only [Act.put, List.setIfInBounds_toArray, List.set_cons_zero, List.set_cons_succ, i64_w, i32_w]
      rfl
    refine pure_ (i := 16) (N := some 7) (v := ?_) (a' := ?_) #[true, true, true, true, true, true, true, true, true, true, true, true, true, true, true, true, true, false] rfl rfl (by kernel_rfl) (fun _ _ _ h => h) (Or.inl ⟨by rfl, ?_⟩) ?_ ?_
    rotate_left
    · intro w'
      go_simp
      with_reducible rfl
    rotate_left
    · simp only [Act.put, List.setIfInBounds_toArray, List.set_cons_zero, List.set_cons_succ, i64_w, i32_w]
      rfl
    refine pure_ (i := 17) (N := some 8) (v := ?_) (a' := ?_) #[true, true, true, true, true, true, true, true, true, true, true, true, true, true, true, true, true, true] rfl rfl (by kernel_rfl) (fun _ _ _ h => h) (Or.inl ⟨by rfl, ?_⟩) ?_ ?_
    rotate_left
    · intro w'
      go_simp
      with_reducible rfl
    rotate_left
    · simp only [Act.put, List.setIfInBounds_toArray, List.set_cons_zero, List.set_cons_succ, i64_w, i32_w]
      rfl
    refine done_ (by kernel_rfl) ?_
    go_wp2
    go_ret
    refine ⟨rfl, ⟨A, n, c, ?_, hg, Kd.R_mono (Kd.R_far (p := ⟨g, 2, none⟩) (Kd.R_drewN HR.out (1 + m)) (fun k hk => hk.2.1) _) (fun k hk => hk.1), by have := HN.out; omega⟩, Frm.cellAt _ _ _ _ _⟩
    have hb2 := blk_set (blk_drewN HB.out (1 + m)) 2 (.int .i64 e)
    simpa using hb2

/-- .. something having failed before: nothing is read. -/
theorem readNumber_failed (base g : Nat) (P : Nat → Prop) (b : List Int) (at_ : Nat) (f : Int) (w : World) (bx : Nat) (h : Rd base w g P b at_ f) (hf : f ≠ 0) :
    Calls Tryd.prog 69 #[.pointer (some ⟨g, 0, none⟩), .func (.func 70) #[] #[.pointer (some ⟨bx, 0, none⟩)]] w fun e' w' => e' = .returned (.int .i64 0) ∧ w' = w := by
  obtain ⟨A, n, c, hb, hg, hr, ha⟩ := h
  have h2 : w.cell? ⟨g, 2, none⟩ = some (.int .i64 f) := blk_cell hb 2
  have hf1 : (f != 0) = true := bne_iff_ne.mpr hf
  clear hb hr hf
  go_enter Tryd.func69, Tryd.ntmps69
  go_wp2
  go_ret
  exact ⟨rfl, rfl⟩

set_option maxHeartbeats 2000000 in
set_option maxRecDepth 100000 in
/-- 'read' at function 100, nothing having failed. -/
theorem readText_calls (base g : Nat) (P : Nat → Prop) (b : List Int) (at_ : Nat) (w : World) (bx : Nat) (h : Rd base w g P b at_ 0) (v : ByteArray) (sz : Nat) (szI e : Int) (hsz : e = 0 → szI = sz ∧ at_ + sz ≤ b.length) (hbl : b.length ≤ 1000000000000)
    (hcall : ∀ A n c, b.length - at_ = n → n ≤ c → KB.C w.drew A n (b.drop at_) → Calls Tryd.prog 67 #[.slice A n c, .pointer (some ⟨bx, 0, none⟩)] w.drew fun e' w' => e' = .returned (.tuple #[.string v, .int .i64 szI, .int .i64 e]) ∧ Drawn0 w.drew w') :
    Calls Tryd.prog 66 #[.pointer (some ⟨g, 0, none⟩), .func (.func 67) #[] #[.pointer (some ⟨bx, 0, none⟩)]] w fun e' w' => e' = .returned (if e = 0 then .string v else .string ⟨#[]⟩) ∧ Rd base w' g P b (if e = 0 then at_ + sz else at_) e ∧ Frm w w' (fun k => k = g) := by
  obtain ⟨A, n, c, hb, hg, hr, ha⟩ := h.tight
  have h0 : w.cell? ⟨g, 0, none⟩ = some (.slice A n c) := blk_cell hb 0
  have h1 : w.cell? ⟨g, 1, none⟩ = some (.int .i64 (at_ : Int)) := blk_cell hb 1
  have h2 : w.cell? ⟨g, 2, none⟩ = some (.int .i64 0) := blk_cell hb 2
  have f1 : w.frozen? ⟨g, 1, none⟩ = false := blk_frozen hb 1
  have f2 : w.frozen? ⟨g, 2, none⟩ = false := blk_frozen hb 2
  have hrd := Kd.R_reads' hr
  have hn : n = b.length := hrd.1
  have hcn : n ≤ c := hrd.2.1
  have han : at_ ≤ n := by omega
  have hnl : n ≤ 1000000000000 := by omega
  obtain ⟨A', hA'⟩ : ∃ A', (if c = at_ then A else A.map (·.add at_)) = A' := ⟨_, rfl⟩
  have hC := rest_C (A := A) (c := c) (by rw [hn]; exact hrd.2.2) hn.symm hcn han
  rw [hA'] at hC
  have HX := Aside0.mk (hcall A' (n - at_) (c - at_) (by omega) (by omega) (Kd.C_drew hC))
  have HB := Aside0.mk hb
  have HR := Aside0.mk hr
  have HN := Aside0.mk hn
  have HS := Aside0.mk hsz
  clear hb hr hrd hn hbl ha hcall hC hsz h
  by_cases he : e = 0
  · subst he
    obtain ⟨hs1, hs2⟩ := HS.out rfl
    have hs2' : at_ + sz ≤ n := by rw [HN.out]; exact hs2
    subst hs1
    clear HS hs2
    go_enter Tryd.func66, Tryd.ntmps66
    go_wp2_with fail
    refine start_ (n := 18) (S := fun w' => w'.cell? ⟨g, 0, none⟩ = some (.slice A n c) ∧ w'.cell? ⟨g, 1, none⟩ = some (.int .i64 (at_ : Int)) ∧ True ∧ True) (ds := []) #[false, false, false, false, false, false, false, false, false, false, false, false, false, false, false, false, false, false] (by kernel_rfl) rfl rfl ⟨h0, h1, trivial, trivial⟩ (fun hHeld => ?_)
    refine pure_ (i := 0) (N := some 20) (v := ?_) (a' := ?_) #[true, false, false, false, false, false, false, false, false, false, false, false, false, false, false, false, false, false] rfl rfl (by kernel_rfl) (fun _ _ _ h => h) (Or.inl ⟨by rfl, ?_⟩) ?_ ?_
    rotate_left
    · intro w'
      go_simp
      with_reducible rfl
    rotate_left
    · simp only [Act.put, List.setIfInBounds_toArray, List.set_cons_zero, List.set_cons_succ, i64_w, i32_w]
      rfl
    refine pure_ (i := 1) (N := some 21) (v := ?_) (a' := ?_) #[true, true, false, false, false, false, false, false, false, false, false, false, false, false, false, false, false, false] rfl rfl (by kernel_rfl) (fun _ _ _ h => h) (Or.inl ⟨by rfl, ?_⟩) ?_ ?_
    rotate_left
    · intro w'
      go_simp
      with_reducible rfl
    rotate_left
    · simp only [Act.put, List.setIfInBounds_toArray, List.set_cons_zero, List.set_cons_succ, i64_w, i32_w]
      rfl
    refine pure_ (i := 2) (N := some 22) (v := ?_) (a' := ?_) #[true, true, true, false, false, false, false, false, false, false, false, false, false, false, false, false, false, false] rfl rfl (by kernel_rfl) (fun _ _ _ h => h) (Or.inl ⟨by rfl, ?_⟩) ?_ ?_
    rotate_left
    · intro w'
      go_simp
      with_reducible rfl
    rotate_left
    · simp only [Act.put, List.setIfInBounds_toArray, List.set_cons_zero, List.set_cons_succ, i64_w, i32_w]
      rfl
    refine pure_ (i := 3) (N := some 23) (v := ?_) (a' := ?_) #[true, true, true, true, false, false, false, false, false, false, false, false, false, false, false, false, false, false] rfl rfl (by kernel_rfl) (fun _ _ _ h => h) (Or.inl ⟨by rfl, ?_⟩) ?_ ?_
    rotate_left
    · intro w'
      go_simp
      with_reducible rfl
    rotate_left
    · simp only [Act.put, List.setIfInBounds_toArray, List.set_cons_zero, List.set_cons_succ, i64_w, i32_w]
      rfl
    refine take_ (i := 4) (N := some 24) (v := ?_) (a' := ?_) #[true, true, true, true, true, false, false, false, false, false, false, false, false, false, false, false, false, false] rfl rfl (by kernel_rfl) (fun _ _ _ h => h) (Or.inl ⟨by rfl, ?_⟩) hHeld ?_ ?_
    rotate_left
    · rintro w' ⟨s0, s1, s2, s3⟩
      go_simp
      with_reducible rfl
    rotate_left
    · simp only [Act.put, List.setIfInBounds_toArray, List.set_cons_zero, List.set_cons_succ, i64_w, i32_w]
      rfl
    refine pure_ (i := 5) (N := some 25) (v := ?_) (a' := ?_) #[true, true, true, true, true, true, false, false, false, false, false, false, false, false, false, false, false, false] rfl rfl (by kernel_rfl) (fun _ _ _ h => h) (Or.inl ⟨by rfl, ?_⟩) ?_ ?_
    rotate_left
    · intro w'
      go_simp
      with_reducible rfl
    rotate_left
    · simp only [Act.put, List.setIfInBounds_toArray, List.set_cons_zero, List.set_cons_succ, i64_w, i32_w]
      rfl
    refine pure_ (i := 6) (N := some 26) (v := ?_) (a' := ?_) #[true, true, true, true, true, true, true, false, false, false, false, false, false, false, false, false, false, false] rfl rfl (by kernel_rfl) (fun _ _ _ h => h) (Or.inl ⟨by rfl, ?_⟩) ?_ ?_
    rotate_left
    · intro w'
      go_simp
      with_reducible rfl
    rotate_left
    · simp only [Act.put, List.setIfInBounds_toArray, List.set_cons_zero, List.set_cons_succ, i64_w, i32_w]
      rfl
    refine pure_ (i := 7) (N := some 27) (v := ?_) (a' := ?_) #[true, true, true, true, true, true, true, true, false, false, false, false, false, false, false, false, false, false] rfl rfl (by kernel_rfl) (fun _ _ _ h => h) (Or.inl ⟨by rfl, ?_⟩) ?_ ?_
    rotate_left
    · intro w'
      go_simp
      with_reducible rfl
    rotate_left
    · simp only [Act.put, List.setIfInBounds_toArray, List.set_cons_zero, List.set_cons_succ, i64_w, i32_w]
      rfl
    refine take_ (i := 8) (N := some 28) (v := ?_) (a' := ?_) #[true, true, true, true, true, true, true, true, true, false, false, false, false, false, false, false, false, false] rfl rfl (by kernel_rfl) (fun _ _ _ h => h) (Or.inl ⟨by rfl, ?_⟩) hHeld ?_ ?_
    rotate_left
    · rintro w' ⟨s0, s1, s2, s3⟩
      go_simp
      with_reducible rfl
    rotate_left
    · simp only [Act.put, List.setIfInBounds_toArray, List.set_cons_zero, List.set_cons_succ, i64_w, i32_w]
      rfl
    refine pure_ (i := 9) (N := some 29) (v := ?_) (a' := ?_) #[true, true, true, true, true, true, true, true, true, true, false, false, false, false, false, false, false, false] rfl rfl (by kernel_rfl) (fun _ _ _ h => h) (Or.inl ⟨by rfl, ?_⟩) ?_ ?_
    rotate_left
    · intro w'
      go_simp
      with_reducible rfl
    rotate_left
    · simp only [Act.put, List.setIfInBounds_toArray, List.set_cons_zero, List.set_cons_succ, i64_w, i32_w]
      rfl
    refine one_ (i := 10) (N := some 30) #[true, true, true, true, true, true, true, true, true, true, true, false, false, false, false, false, false, false] rfl rfl (by kernel_rfl) (by decide) (fun K hK => ?_)
    refine call_ 67 #[.slice A' (n - at_) (c - at_), .pointer (some ⟨bx, 0, none⟩)] (by rfl) rfl ?hrun ?_
    case hrun => go_simp
    refine HX.out.mono ?_
    rintro e w1 ⟨rfl, ⟨m, rfl⟩⟩
    refine ⟨_, rfl, ?_⟩
    refine hK.out _ _ ⟨h0, h1, trivial, trivial⟩ (fun hHeld => ?_)
    clear hK K hHeld
    refine pure_ (i := 11) (N := some 19) (v := ?_) (a' := ?_) #[true, true, true, true, true, true, true, true, true, true, true, true, false, false, false, false, false, false] rfl rfl (by kernel_rfl) (fun _ _ _ h => h) (Or.inl ⟨by rfl, ?_⟩) ?_ ?_
    rotate_left
    · intro w'
      go_simp
      with_reducible rfl
    rotate_left
    · simp only [Act.put, List.setIfInBounds_toArray, List.set_cons_zero, List.set_cons_succ, i64_w, i32_w]
      rfl
    refine pure_ (i := 12) (N := some 31) (v := ?_) (a' := ?_) #[true, true, true, true, true, true, true, true, true, true, true, true, true, false, false, false, false, false] rfl rfl (by kernel_rfl) (fun _ _ _ h => h) (Or.inl ⟨by rfl, ?_⟩) ?_ ?_
    rotate_left
    · intro w'
      go_simp
      with_reducible rfl
    rotate_left
    · simp only [Act.put, List.setIfInBounds_toArray, List.set_cons_zero, List.set_cons_succ, i64_w, i32_w]
      rfl
    refine pure_ (i := 13) (N := some 32) (v := ?_) (a' := ?_) #[true, true, true, true, true, true, true, true, true, true, true, true, true, true, false, false, false, false] rfl rfl (by kernel_rfl) (fun _ _ _ h => h) (Or.inl ⟨by rfl, ?_⟩) ?_ ?_
    rotate_left
    · intro w'
      go_simp
      with_reducible rfl
    rotate_left
    · simp only [Act.put, List.setIfInBounds_toArray, List.set_cons_zero, List.set_cons_succ, i64_w, i32_w]
      rfl
    refine pure_ (i := 14) (N := some 33) (v := ?_) (a' := ?_) #[true, true, true, true, true, true, true, true, true, true, true, true, true, true, true, false, false, false] rfl rfl (by kernel_rfl) (fun _ _ _ h => h) (Or.inl ⟨by rfl, ?_⟩) ?_ ?_
    rotate_left
    · intro w'
      go_simp
      with_reducible rfl
    rotate_left
    · simp only [Act.put, List.setIfInBounds_toArray, List.set_cons_zero, List.set_cons_succ, i64_w, i32_w]
      rfl
    refine pure_ (i := 15) (N := some 6) (v := ?_) (a' := ?_) #[true, true, true, true, true, true, true, true, true, true, true, true, true, true, true, true, false, false] rfl rfl (by kernel_rfl) (fun _ _ _ h => h) (Or.inl ⟨by rfl, ?_⟩) ?_ ?_
    rotate_left
    · intro w'
      go_simp
      with_reducible rfl
    rotate_left
    · simp only [Act.put, List.setIfInBounds_toArray, List.set_cons_zero, List.set_cons_succ, i64_w, i32_w]
      rfl
    refine pure_ (i := 16) (N := some 7) (v := ?_) (a' := ?_) #[true, true, true, true, true, true, true, true, true, true, true, true, true, true, true, true, true, false] rfl rfl (by kernel_rfl) (fun _ _ _ h => h) (Or.inl ⟨by rfl, ?_⟩) ?_ ?_
    rotate_left
    · intro w'
      go_simp
      with_reducible rfl
    rotate_left
    · simp only [Act.put, List.setIfInBounds_toArray, List.set_cons_zero, List.set_cons_succ, i64_w, i32_w]
      rfl
    refine pure_ (i := 17) (N := some 8) (v := ?_) (a' := ?_) #[true, true, true, true, true, true, true, true, true, true, true, true, true, true, true, true, true, true] rfl rfl (by kernel_rfl) (fun _ _ _ h => h) (Or.inl ⟨by rfl, ?_⟩) ?_ ?_
    rotate_left
    · intro w'
      go_simp
      with_reducible rfl
    rotate_left
    · simp only [Act.put, List.setIfInBounds_toArray, List.set_cons_zero, List.set_cons_succ, i64_w, i32_w]
      rfl
    refine done_ (by kernel_rfl) ?_
    go_wp2
    go_ret
    refine ⟨rfl, ⟨A, n, c, ?_, hg, Kd.R_mono (Kd.R_far (p := ⟨g, 1, none⟩) (Kd.R_drewN HR.out (1 + m)) (fun k hk => hk.2.1) _) (fun k hk => hk.1), by have := HN.out; simp; omega⟩, Frm.cellAt _ _ _ _ _⟩
    have hb2 := blk_set (blk_drewN HB.out (1 + m)) 1 (.int .i64 ((at_ : Int) + (sz : Int)))
    simpa using hb2
  · have he1 : (e != 0) = true := bne_iff_ne.mpr he
    rw [if_neg he, if_neg he]
    clear HS
    go_enter Tryd.func66, Tryd.ntmps66
    go_wp2_with fail
    refine start_ (n := 18) (S := fun w' => w'.cell? ⟨g, 0, none⟩ = some (.slice A n c) ∧ w'.cell? ⟨g, 1, none⟩ = some (.int .i64 (at_ : Int)) ∧ True ∧ True) (ds := []) #[false, false, false, false, false, false, false, false, false, false, false, false, false, false, false, false, false, false] (by kernel_rfl) rfl rfl ⟨h0, h1, trivial, trivial⟩ (fun hHeld => ?_)
    refine pure_ (i := 0) (N := some 20) (v := ?_) (a' := ?_) #[true, false, false, false, false, false, false, false, false, false, false, false, false, false, false, false, false, false] rfl rfl (by kernel_rfl) (fun _ _ _ h => h) (Or.inl ⟨by rfl, ?_⟩) ?_ ?_
    rotate_left
    · intro w'
      go_simp
      with_reducible rfl
    rotate_left
    · simp only [Act.put, List.setIfInBounds_toArray, List.set_cons_zero, List.set_cons_succ, i64_w, i32_w]
      rfl
    refine pure_ (i := 1) (N := some 21) (v := ?_) (a' := ?_) #[true, true, false, false, false, false, false, false, false, false, false, false, false, false, false, false, false, false] rfl rfl (by kernel_rfl) (fun _ _ _ h => h) (Or.inl ⟨by rfl, ?_⟩) ?_ ?_
    rotate_left
    · intro w'
      go_simp
      with_reducible rfl
    rotate_left
    · simp only [Act.put, List.setIfInBounds_toArray, List.set_cons_zero, List.set_cons_succ, i64_w, i32_w]
      rfl
    refine pure_ (i := 2) (N := some 22) (v := ?_) (a' := ?_) #[true, true, true, false, false, false, false, false, false, false, false, false, false, false, false, false, false, false] rfl rfl (by kernel_rfl) (fun _ _ _ h => h) (Or.inl ⟨by rfl, ?_⟩) ?_ ?_
    rotate_left
    · intro w'
      go_simp
      with_reducible rfl
    rotate_left
    · simp only [Act.put, List.setIfInBounds_toArray, List.set_cons_zero, List.set_cons_succ, i64_w, i32_w]
      rfl
    refine pure_ (i := 3) (N := some 23) (v := ?_) (a' := ?_) #[true, true, true, true, false, false, false, false, false, false, false, false, false, false, false, false, false, false] rfl rfl (by kernel_rfl) (fun _ _ _ h => h) (Or.inl ⟨by rfl, ?_⟩) ?_ ?_
    rotate_left
    · intro w'
      go_simp
      with_reducible rfl
    rotate_left
    · simp only [Act.put, List.setIfInBounds_toArray, List.set_cons_zero, List.set_cons_succ, i64_w, i32_w]
      rfl
    refine take_ (i := 4) (N := some 24) (v := ?_) (a' := ?_) #[true, true, true, true, true, false, false, false, false, false, false, false, false, false, false, false, false, false] rfl rfl (by kernel_rfl) (fun _ _ _ h => h) (Or.inl ⟨by rfl, ?_⟩) hHeld ?_ ?_
    rotate_left
    · rintro w' ⟨s0, s1, s2, s3⟩
      go_simp
      with_reducible rfl
    rotate_left
    · simp only [Act.put, List.setIfInBounds_toArray, List.set_cons_zero, List.set_cons_succ, i64_w, i32_w]
      rfl
    refine pure_ (i := 5) (N := some 25) (v := ?_) (a' := ?_) #[true, true, true, true, true, true, false, false, false, false, false, false, false, false, false, false, false, false] rfl rfl (by kernel_rfl) (fun _ _ _ h => h) (Or.inl ⟨by rfl, ?_⟩) ?_ ?_
    rotate_left
    · intro w'
      go_simp
      with_reducible rfl
    rotate_left
    · simp only [Act.put, List.setIfInBounds_toArray, List.set_cons_zero, List.set_cons_succ, i64_w, i32_w]
      rfl
    refine pure_ (i := 6) (N := some 26) (v := ?_) (a' := ?_) #[true, true, true, true, true, true, true, false, false, false, false, false, false, false, false, false, false, false] rfl rfl (by kernel_rfl) (fun _ _ _ h => h) (Or.inl ⟨by rfl, ?_⟩) ?_ ?_
    rotate_left
    · intro w'
      go_simp
      with_reducible rfl
    rotate_left
    · simp only [Act.put, List.setIfInBounds_toArray, List.set_cons_zero, List.set_cons_succ, i64_w, i32_w]
      rfl
    refine pure_ (i := 7) (N := some 27) (v := ?_) (a' := ?_) #[true, true, true, true, true, true, true, true, false, false, false, false, false, false, false, false, false, false] rfl rfl (by kernel_rfl) (fun _ _ _ h => h) (Or.inl ⟨by rfl, ?_⟩) ?_ ?_
    rotate_left
    · intro w'
      go_simp
      with_reducible rfl
    rotate_left
    · simp only [Act.put, List.setIfInBounds_toArray, List.set_cons_zero, List.set_cons_succ, i64_w, i32_w]
      rfl
    refine take_ (i := 8) (N := some 28) (v := ?_) (a' := ?_) #[true, true, true, true, true, true, true, true, true, false, false, false, false, false, false, false, false, false] rfl rfl (by kernel_rfl) (fun _ _ _ h => h) (Or.inl ⟨by rfl, ?_⟩) hHeld ?_ ?_
    rotate_left
    · rintro w' ⟨s0, s1, s2, s3⟩
      go_simp
      with_reducible rfl
    rotate_left
    · simp only [Act.put, List.setIfInBounds_toArray, List.set_cons_zero, List.set_cons_succ, i64_w, i32_w]
      rfl
    refine pure_ (i := 9) (N := some 29) (v := ?_) (a' := ?_) #[true, true, true, true, true, true, true, true, true, true, false, false, false, false, false, false, false, false] rfl rfl (by kernel_rfl) (fun _ _ _ h => h) (Or.inl ⟨by rfl, ?_⟩) ?_ ?_
    rotate_left
    · intro w'
      go_simp
      with_reducible rfl
    rotate_left
    · simp only [Act.put, List.setIfInBounds_toArray, List.set_cons_zero, List.set_cons_succ, i64_w, i32_w]
      rfl
    refine one_ (i := 10) (N := some 30) #[true, true, true, true, true, true, true, true, true, true, true, false, false, false, false, false, false, false] rfl rfl (by kernel_rfl) (by decide) (fun K hK => ?_)
    refine call_ 67 #[.slice A' (n - at_) (c - at_), .pointer (some ⟨bx, 0, none⟩)] (by rfl) rfl ?hrun ?_
    case hrun => go_simp
    refine HX.out.mono ?_
    rintro e w1 ⟨rfl, ⟨m, rfl⟩⟩
    refine ⟨_, rfl, ?_⟩
    refine hK.out _ _ ⟨h0, h1, trivial, trivial⟩ (fun hHeld => ?_)
    clear hK K hHeld
    refine pure_ (i := 11) (N := some 19) (v := ?_) (a' := ?_) #[true, true, true, true, true, true, true, true, true, true, true, true, false, false, false, false, false, false] rfl rfl (by kernel_rfl) (fun _ _ _ h => h) (Or.inl ⟨by rfl, ?_⟩) ?_ ?_
    rotate_left
    · intro w'
      go_simp
      with_reducible rfl
    rotate_left
    · simp only [Act.put, List.setIfInBounds_toArray, List.set_cons_zero, List.set_cons_succ, i64_w, i32_w]
      rfl
    refine pure_ (i := 12) (N := some 31) (v := ?_) (a' := ?_) #[true, true, true, true, true, true, true, true, true, true, true, true, true, false, false, false, false, false] rfl rfl (by kernel_rfl) (fun _ _ _ h => h) (Or.inl ⟨by rfl, ?_⟩) ?_ ?_
    rotate_left
    · intro w'
      go_simp
      with_reducible rfl
    rotate_left
    · simp only [Act.put, List.setIfInBounds_toArray, List.set_cons_zero, List.set_cons_succ, i64_w, i32_w]
      rfl
    refine pure_ (i := 13) (N := some 32) (v := ?_) (a' := ?_) #[true, true, true, true, true, true, true, true, true, true, true, true, true, true, false, false, false, false] rfl rfl (by kernel_rfl) (fun _ _ _ h => h) (Or.inl ⟨by rfl, ?_⟩) ?_ ?_
    rotate_left
    · intro w'
      go_simp
      with_reducible rfl
    rotate_left
    · simp only [Act.put, List.setIfInBounds_toArray, List.set_cons_zero, List.set_cons_succ, i64_w, i32_w]
      rfl
    refine pure_ (i := 14) (N := some 33) (v := ?_) (a' := ?_) #[true, true, true, true, true, true, true, true, true, true, true, true, true, true, true, false, false, false] rfl rfl (by kernel_rfl) (fun _ _ _ h => h) (Or.inl ⟨by rfl, ?_⟩) ?_ ?_
    rotate_left
    · intro w'
      go_simp
      with_reducible rfl
    rotate_left
    · simp only [Act.put, List.setIfInBounds_toArray, List.set_cons_zero, List.set_cons_succ, i64_w, i32_w]
      rfl
    refine pure_ (i := 15) (N := some 6) (v := ?_) (a' := ?_) #[true, true, true, true, true, true, true, true, true, true, true, true, true, true, true, true, false, false] rfl rfl (by kernel_rfl) (fun _ _ _ h => h) (Or.inl ⟨by rfl, ?_⟩) ?_ ?_
    rotate_left
    · intro w'
      go_simp
      with_reducible rfl
    rotate_left
    · simp only [Act.put, List.setIfInBounds_toArray, List.set_cons_zero, List.set_cons_succ, i64_w, i32_w]
      rfl
    refine pure_ (i := 16) (N := some 7) (v := ?_) (a' := ?_) #[true, true, true, true, true, true, true, true, true, true, true, true, true, true, true, true, true, false] rfl rfl (by kernel_rfl) (fun _ _ _ h => h) (Or.inl ⟨by rfl, ?_⟩) ?_ ?_
    rotate_left
    · intro w'
      go_simp
      with_reducible rfl
    rotate_left
    · simp only [Act.put, List.setIfInBounds_toArray, List.set_cons_zero, List.set_cons_succ, i64_w, i32_w]
      rfl
    refine pure_ (i := 17) (N := some 8) (v := ?_) (a' := ?_) #[true, true, true, true, true, true, true, true, true, true, true, true, true, true, true, true, true, true] rfl rfl (by kernel_rfl) (fun _ _ _ h => h) (Or.inl ⟨by rfl, ?_⟩) ?_ ?_
    rotate_left
    · intro w'
      go_simp
      with_reducible rfl
    rotate_left
    · simp only [Act.put, List.setIfInBounds_toArray, List.set_cons_zero, List.set_cons_succ, i64_w, i32_w]
      rfl
    refine done_ (by kernel_rfl) ?_
    go_wp2
    go_ret
    refine ⟨rfl, ⟨A, n, c, ?_, hg, Kd.R_mono (Kd.R_far (p := ⟨g, 2, none⟩) (Kd.R_drewN HR.out (1 + m)) (fun k hk => hk.2.1) _) (fun k hk => hk.1), by have := HN.out; omega⟩, Frm.cellAt _ _ _ _ _⟩
    have hb2 := blk_set (blk_drewN HB.out (1 + m)) 2 (.int .i64 e)
    simpa using hb2

/-- .. something having failed before: nothing is read. -/
theorem readText_failed (base g : Nat) (P : Nat → Prop) (b : List Int) (at_ : Nat) (f : Int) (w : World) (bx : Nat) (h : Rd base w g P b at_ f) (hf : f ≠ 0) :
    Calls Tryd.prog 66 #[.pointer (some ⟨g, 0, none⟩), .func (.func 67) #[] #[.pointer (some ⟨bx, 0, none⟩)]] w fun e' w' => e' = .returned (.string ⟨#[]⟩) ∧ w' = w := by
  obtain ⟨A, n, c, hb, hg, hr, ha⟩ := h
  have h2 : w.cell? ⟨g, 2, none⟩ = some (.int .i64 f) := blk_cell hb 2
  have hf1 : (f != 0) = true := bne_iff_ne.mpr hf
  clear hb hr hf
  go_enter Tryd.func66, Tryd.ntmps66
  go_wp2
  go_ret
  exact ⟨rfl, rfl⟩

end Go.Proofs.YtbddllklagiajaaDoor

namespace Go.Proofs.YtbddllklagiajaaDoor
open Go.RowKit Go.Proofs.YtbddllklagiajaaDoorW.PrintWords Go.Proofs.YtbddllklagiajaaDoorW.PrintLast Go.Proofs.YtbddllklagiajaaDoorW.PrintMore
set_option linter.unusedVariables false
set_option linter.unusedSimpArgs false

/-- What a method of a Reader leaves. -/
def Read {α : Type} (V : α → Value) (base g : Nat) (P : Nat → Prop) (b : List Int) (w : World) (r : α × Nat × Int) (e : Ending) (w' : World) : Prop :=
  e = .returned (V r.1) ∧ Rd base w' g P b r.2.1 r.2.2 ∧ Frm w w' (fun k => k = g)

theorem Read.of {α : Type} {V : α → Value} {base g : Nat} {P : Nat → Prop} {b : List Int} {w w' : World} {z : α} {r : α × Int × Int} {at_ : Nat} {e : Ending}
    (h : e = .returned (if r.2.2 = 0 then V r.1 else V z) ∧ Rd base w' g P b (if r.2.2 = 0 then at_ + r.2.1.toNat else at_) r.2.2 ∧ Frm w w' (fun k => k = g)) : Read V base g P b w (rStep z r (at_, 0)) e w' := by
  unfold rStep
  rw [if_pos rfl]
  by_cases he : r.2.2 = 0
  · rw [if_pos he] at h ⊢
    rw [if_pos he, he] at h
    exact h
  · rw [if_neg he] at h ⊢
    rw [if_neg he] at h
    exact h

theorem Read.failed {α : Type} {V : α → Value} {base g : Nat} {P : Nat → Prop} {b : List Int} {w w' : World} {z : α} {r : α × Int × Int} {s : Nat × Int} {e : Ending} (hf : s.2 ≠ 0) (hR : Rd base w g P b s.1 s.2)
    (h : e = .returned (V z) ∧ w' = w) : Read V base g P b w (rStep z r s) e w' := by
  unfold rStep
  rw [if_neg hf]
  obtain ⟨rfl, rfl⟩ := h
  exact ⟨rfl, hR, Frm.refl _ _⟩

section
variable (base g : Nat) (P : Nat → Prop) (b : List Int) (s : Nat × Int) (w : World) (h : Rd base w g P b s.1 s.2) (hby : Bytes b) (hbl : b.length ≤ 1000000000000)
include h hby hbl

theorem num_any (bx : Nat) (most : Int) (hbx : w.cell? ⟨bx, 0, none⟩ = some (.int .i64 most)) :
    Calls Tryd.prog 69 #[.pointer (some ⟨g, 0, none⟩), .func (.func 70) #[] #[.pointer (some ⟨bx, 0, none⟩)]] w (Read (.int .i64) base g P b w (rStep 0 (numR most (b.drop s.1)) s)) := by
  obtain ⟨at_, f⟩ := s
  dsimp only at *
  have hrb : Bytes (b.drop at_) := fun x hx => hby x (List.mem_of_mem_drop hx)
  have hal := h.len
  by_cases hf : f = 0
  · subst hf
    refine (readNumber_calls base g P b at_ w bx h (numR most (b.drop at_)).1 (numR most (b.drop at_)).2.1.toNat (numR most (b.drop at_)).2.1 (numR most (b.drop at_)).2.2
      (fun he => by have := numR_size most _ hrb he; rw [List.length_drop] at this; omega) hbl
      (fun A n c hn hc hC => numFn_calls A n c bx most (b.drop at_) w.drew (by rw [List.length_drop]; omega) hc hC hrb (by omega) hbx)).mono (fun e w' hh => Read.of hh)
  · exact (readNumber_failed base g P b at_ f w bx h hf).mono (fun e w' hh => Read.failed (s := (at_, f)) hf h hh)

theorem txt_any (bx : Nat) (most : Int) (hbx : w.cell? ⟨bx, 0, none⟩ = some (.int .i64 most)) :
    Calls Tryd.prog 66 #[.pointer (some ⟨g, 0, none⟩), .func (.func 67) #[] #[.pointer (some ⟨bx, 0, none⟩)]] w (Read .string base g P b w (rStep (⟨#[]⟩ : ByteArray) (txtR most (b.drop s.1)) s)) := by
  obtain ⟨at_, f⟩ := s
  dsimp only at *
  have hrb : Bytes (b.drop at_) := fun x hx => hby x (List.mem_of_mem_drop hx)
  have hal := h.len
  by_cases hf : f = 0
  · subst hf
    refine (readText_calls base g P b at_ w bx h (txtR most (b.drop at_)).1 (txtR most (b.drop at_)).2.1.toNat (txtR most (b.drop at_)).2.1 (txtR most (b.drop at_)).2.2
      (fun he => by have := txtR_size most _ hrb he; rw [List.length_drop] at this; omega) hbl
      (fun A n c hn hc hC => txtFn_calls A n c bx most (b.drop at_) w.drew (by rw [List.length_drop]; omega) hc hC hrb (by omega) hbx)).mono (fun e w' hh => Read.of hh)
  · exact (readText_failed base g P b at_ f w bx h hf).mono (fun e w' hh => Read.failed (s := (at_, f)) hf h hh)

theorem Number_calls (most : Int) : Calls Tryd.prog 51 #[.pointer (some ⟨g, 0, none⟩), .int .i64 most] w (Read (.int .i64) base g P b w (rStep 0 (numR most (b.drop s.1)) s)) := by
  have hF : Frm w (w.alloc (.cells #[.int .i64 most] 3)) (fun _ => False) := (Frm.refl _ _).alloc _
  have HX := Aside0.mk (num_any base g P b s (w.alloc (.cells #[.int .i64 most] 3)) (h.frm hF (fun h => h) (fun _ _ h => h)) hby hbl w.heap.size most (blk_cell (blk_new w _) 0))
  obtain ⟨r, hr⟩ : ∃ r, rStep 0 (numR most (b.drop s.1)) s = r := ⟨_, rfl⟩
  rw [hr] at HX ⊢
  have HF := Aside0.mk hF
  clear hr h hby hbl hF
  go_enter Tryd.func51, Tryd.ntmps51
  go_wp2_with fail
  refine HX.out.mono ?_
  rintro e w' ⟨rfl, h2, h3⟩
  have HZ := Aside0.mk h2
  have HZ3 := Aside0.mk (((Frm.refl w (fun k => k = g)).alloc _).then_ h3 (fun _ h => .inl h))
  clear h2 h3
  go_wp2
  go_ret
  exact ⟨rfl, HZ.out, HZ3.out⟩

theorem Text_calls (most : Int) : Calls Tryd.prog 50 #[.pointer (some ⟨g, 0, none⟩), .int .i64 most] w (Read .string base g P b w (rStep (⟨#[]⟩ : ByteArray) (txtR most (b.drop s.1)) s)) := by
  have hF : Frm w (w.alloc (.cells #[.int .i64 most] 3)) (fun _ => False) := (Frm.refl _ _).alloc _
  have HX := Aside0.mk (txt_any base g P b s (w.alloc (.cells #[.int .i64 most] 3)) (h.frm hF (fun h => h) (fun _ _ h => h)) hby hbl w.heap.size most (blk_cell (blk_new w _) 0))
  obtain ⟨r, hr⟩ : ∃ r, rStep (⟨#[]⟩ : ByteArray) (txtR most (b.drop s.1)) s = r := ⟨_, rfl⟩
  rw [hr] at HX ⊢
  have HF := Aside0.mk hF
  clear hr h hby hbl hF
  go_enter Tryd.func50, Tryd.ntmps50
  go_wp2_with fail
  refine HX.out.mono ?_
  rintro e w' ⟨rfl, h2, h3⟩
  have HZ := Aside0.mk h2
  have HZ3 := Aside0.mk (((Frm.refl w (fun k => k = g)).alloc _).then_ h3 (fun _ h => .inl h))
  clear h2 h3
  go_wp2
  go_ret
  exact ⟨rfl, HZ.out, HZ3.out⟩
end

set_option maxHeartbeats 800000 in
theorem rest_calls (base g : Nat) (P : Nat → Prop) (b : List Int) (at_ : Nat) (f : Int) (w : World) (h : Rd base w g P b at_ f) (hbl : b.length ≤ 1000000000000) :
    Calls Tryd.prog 71 #[.pointer (some ⟨g, 0, none⟩)] w fun e w' => e = .returned (.int .i64 ((b.length - at_ : Nat) : Int)) ∧ ∃ m, w' = w.drewN m := by
  obtain ⟨A, n, c, hb, hg, hr, ha⟩ := h
  have h0 : w.cell? ⟨g, 0, none⟩ = some (.slice A n c) := blk_cell hb 0
  have h1 : w.cell? ⟨g, 1, none⟩ = some (.int .i64 (at_ : Int)) := blk_cell hb 1
  have hn := (Kd.R_reads' hr).1
  have ha2 : at_ ≤ n := by omega
  have hn2 : n ≤ 1000000000000 := by omega
  rw [← hn]
  clear hb hr hn ha hbl
  go_enter Tryd.func71, Tryd.ntmps71
  go_wp2_with fail
  go_quiet (fail)
  go_wp2
  go_ret
  refine ⟨?_, ⟨_, rfl⟩⟩
  have : ((n - at_ : Nat) : Int) = (n : Int) - (at_ : Int) := by omega
  rw [this]
  rfl

def closeR (b : List Int) (s : Nat × Int) : Int := if s.2 = 0 ∧ 0 < b.length - s.1 then 5 else s.2

set_option maxHeartbeats 800000 in
theorem close_calls (base g : Nat) (P : Nat → Prop) (b : List Int) (s : Nat × Int) (w : World) (h : Rd base w g P b s.1 s.2) (hbl : b.length ≤ 1000000000000) :
    Calls Tryd.prog 52 #[.pointer (some ⟨g, 0, none⟩)] w fun e w' => e = .returned (.int .i64 (closeR b s)) ∧ ∃ m, w' = w.drewN m := by
  obtain ⟨at_, f⟩ := s
  unfold closeR
  dsimp only at *
  have HR := Aside0.mk (rest_calls base g P b at_ f w h hbl)
  obtain ⟨A, n, c, hb, hg, hr, ha⟩ := h
  have h2 : w.cell? ⟨g, 2, none⟩ = some (.int .i64 f) := blk_cell hb 2
  clear hb hr ha hbl
  obtain ⟨z, hze⟩ : ∃ z, b.length - at_ = z := ⟨_, rfl⟩
  rw [hze] at HR ⊢
  clear hze
  by_cases hf : f = 0
  · subst hf
    by_cases hz : 0 < z
    · rw [if_pos ⟨rfl, hz⟩]
      have hz1 : decide (0 < z) = true := decide_eq_true hz
      go_enter Tryd.func52, Tryd.ntmps52
      go_wp2_with fail
      refine HR.out.mono ?_
      rintro e w' ⟨rfl, m, rfl⟩
      go_wp2
      go_ret
      exact ⟨rfl, ⟨_, rfl⟩⟩
    · rw [if_neg (fun h => hz h.2)]
      have hz1 : decide (0 < z) = false := decide_eq_false hz
      go_enter Tryd.func52, Tryd.ntmps52
      go_wp2_with fail
      refine HR.out.mono ?_
      rintro e w' ⟨rfl, m, rfl⟩
      go_wp2
      go_ret
      exact ⟨rfl, ⟨_, rfl⟩⟩
  · rw [if_neg (fun h => hf h.1)]
    have hf1 : (f == 0) = false := beq_eq_false_iff_ne.mpr hf
    clear hf
    go_enter Tryd.func52, Tryd.ntmps52
    go_wp2
    go_ret
    exact ⟨rfl, ⟨0, rfl⟩⟩

end Go.Proofs.YtbddllklagiajaaDoor

namespace Go.Proofs.YtbddllklagiajaaDoor
open Go.RowKit Go.Proofs.YtbddllklagiajaaDoorW.PrintWords Go.Proofs.YtbddllklagiajaaDoorW.PrintLast Go.Proofs.YtbddllklagiajaaDoorW.PrintMore
set_option linter.unusedVariables false
set_option linter.unusedSimpArgs false

/-- A number that was read is in its range. -/
theorem numS_range (most : Int) (l : List Int) (hb : Bytes l) (s : Nat × Int) (hm : 0 ≤ most) : 0 ≤ (rStep (0 : Int) (numR most l) s).1 ∧ (rStep (0 : Int) (numR most l) s).1 ≤ most := by
  unfold rStep
  split
  · split
    · rename_i h
      unfold numR at h ⊢
      by_cases h1 : (prs l).2.2 = 0 ∧ most < (prs l).1
      · rw [if_pos h1] at h; simp at h
      rw [if_neg h1] at h ⊢
      rcases prs_cases l hb with hr | hr | ⟨n, k, hr, _⟩
      · rw [hr] at h; simp at h
      · rw [hr] at h; simp at h
      · rw [hr] at h1 ⊢; simp at h1 ⊢; omega
    · exact ⟨Int.le_refl _, hm⟩
  · exact ⟨Int.le_refl _, hm⟩
theorem txtS_size (most : Int) (l : List Int) (hb : Bytes l) (s : Nat × Int) (hm : 0 ≤ most) : ((rStep (⟨#[]⟩ : ByteArray) (txtR most l) s).1.size : Int) ≤ most := by
  unfold rStep
  split
  · split
    · rename_i h
      unfold txtR at h ⊢
      rcases prs_cases l hb with hr | hr | ⟨n, k, hr, _, h3, h4, h5, _⟩
      · rw [hr, if_pos (by simp)] at h; simp at h
      · rw [hr, if_pos (by simp)] at h; simp at h
      · rw [hr, if_neg (by simp)] at h ⊢
        by_cases h6 : min most 16777216 < (n : Int)
        · rw [if_pos h6] at h; simp at h
        rw [if_neg h6] at h ⊢
        by_cases h7 : (l.length : Int) - (k : Int) < (n : Int)
        · rw [if_pos h7] at h; simp at h
        rw [if_neg h7]
        dsimp only
        have e : (strOfNums (List.take n (List.drop k l))).size = (List.take n (List.drop k l)).length := by
          rw [← bytesOf_length]
          unfold bytesOf
          rw [strOfNums_data]
          simp
        simp only [Int.toNat_natCast]
        rw [e, List.length_take]
        omega
    · exact hm
  · exact hm

end Go.Proofs.YtbddllklagiajaaDoor

namespace Go.Proofs.YtbddllklagiajaaDoor
open Go.RowKit Go.Proofs.YtbddllklagiajaaDoorW.PrintWords Go.Proofs.YtbddllklagiajaaDoorW.PrintLast Go.Proofs.YtbddllklagiajaaDoorW.PrintMore
set_option linter.unusedVariables false
set_option linter.unusedSimpArgs false

theorem setRow_below' (w : World) (g : Nat) (cs : Array Value) : Below g w (w.setRow g cs) :=
  ⟨rfl, rfl, rfl, by simp, fun k hk => setRow_other w g k _ (fun e => by omega)⟩

theorem all_one4 (a b : ByteArray) (z e : Int) : (#[.string a, .string b, .int .i64 z, .int .i64 e] : Array Value).all (·.oneCell') = true := by simp [Value.oneCell']
theorem info26 : (Tryd.prog.info? 26).map (·.size) = some (#[.string ⟨#[]⟩, .string ⟨#[]⟩, .int .i64 0, .int .i64 0] : Array Value).size := by kernel_rfl

/-- What is read of an image's parts, one after the other. -/
def dA (p : List Int) : ByteArray × Nat × Int := rStep (⟨#[]⟩ : ByteArray) (txtR 4096 (p.drop 0)) (0, 0)
def dB (p : List Int) : ByteArray × Nat × Int := rStep (⟨#[]⟩ : ByteArray) (txtR 4096 (p.drop (dA p).2.1)) (dA p).2
def dC (p : List Int) : Int × Nat × Int := rStep 0 (numR 4096 (p.drop (dB p).2.1)) (dB p).2
def dD (p : List Int) : Int × Nat × Int := rStep 0 (numR 4096 (p.drop (dC p).2.1)) (dC p).2
def okD (p : List Int) : Prop := closeR p (dD p).2 = 0 ∧ chkI (dA p).1 (dB p).1 (dC p).1 (dD p).1 = 0
instance (p : List Int) : Decidable (okD p) := inferInstanceAs (Decidable (_ ∧ _))

/-- A text that begins as executable files do. -/
def isI (s : ByteArray) : Bool := decide (4 ≤ s.size) && (s.extract 0 4).toList == ([127, 82, 80, 76] : List UInt8)
theorem isImage_f (s : ByteArray) : PImageDecodes.image_IsImage.f s = some (isI s) := by
  unfold PImageDecodes.image_IsImage.f PImageDecodes.strings_HasPrefix.f PImageDecodes.stringslite_HasPrefix.f isI
  have h4 : ((⟨#[127, 82, 80, 76]⟩ : ByteArray).size : Int) = 4 := rfl
  have hl : (⟨#[127, 82, 80, 76]⟩ : ByteArray).toList = [127, 82, 80, 76] := by rw [Lib.toList_data]
  rw [h4, hl]
  by_cases h : 4 ≤ s.size
  · rw [if_pos (by omega), if_pos (by omega), if_pos (by omega), decide_eq_true h]
    rfl
  · rw [if_neg (by omega), decide_eq_false h]
    rfl

/-- What Decode answers: the image, and the error. -/
def decI (s : ByteArray) : (ByteArray × ByteArray × Int × Int) × Int :=
  if 4200 < s.size then ((⟨#[]⟩, ⟨#[]⟩, 0, 0), 5) else if isI s = false then ((⟨#[]⟩, ⟨#[]⟩, 0, 0), 3) else if s.size < 12 then ((⟨#[]⟩, ⟨#[]⟩, 0, 0), 4)
  else if strOfNums (sum8 ((bytesOf s).take (s.size - 8))) ≠ s.extract (s.size - 8) s.size then ((⟨#[]⟩, ⟨#[]⟩, 0, 0), 27)
  else if okD (((bytesOf s).take (s.size - 8)).drop 4) then (((dA (((bytesOf s).take (s.size - 8)).drop 4)).1, (dB (((bytesOf s).take (s.size - 8)).drop 4)).1, (dC (((bytesOf s).take (s.size - 8)).drop 4)).1, (dD (((bytesOf s).take (s.size - 8)).drop 4)).1), 0)
  else ((⟨#[]⟩, ⟨#[]⟩, 0, 0), 3)

set_option maxHeartbeats 8000000 in
set_option maxRecDepth 100000 in
theorem decode_calls (s : ByteArray) (w : World) (hK : KT w) (hs : s.size ≤ 1000000) :
    Calls Tryd.prog 21 #[.string s] w fun en w' => en = .returned (.tuple #[.agg #[.string (decI s).1.1, .string (decI s).1.2.1, .int .i64 (decI s).1.2.2.1, .int .i64 (decI s).1.2.2.2], .int .i64 (decI s).2]) ∧ Below w.heap.size w w' := by
  have IC := Aside0.mk (fun W => PImageDecodes.image_IsImage.calls s _ W (isImage_f s))
  have hb0 := blk_new w (.cells #[.string ⟨#[]⟩, .string ⟨#[]⟩, .int .i64 0, .int .i64 0] 26)
  have B0 := below_alloc (Below.refl w.heap.size w) (.cells #[.string ⟨#[]⟩, .string ⟨#[]⟩, .int .i64 0, .int .i64 0] 26)
  have HK := Aside0.mk hK
  clear hK
  unfold decI
  by_cases h1 : 4200 < s.size
  · rw [if_pos h1]
    have hi : (4200 : Int) < (s.size : Int) := by omega
    go_enter Tryd.func21, Tryd.ntmps21
    go_wp2_with fail
    (try simp only [Exit.inBlock, Exit.then])
    refine bodyPost_ret (results_ct rfl _ _ w.heap.size 26 _ (0, 0) _ rfl hb0 Tryd.underlying26 rfl (by kernel_rfl)) rfl ?_
    exact ⟨rfl, B0⟩
  rw [if_neg h1]
  have hi1 : ¬ (4200 : Int) < (s.size : Int) := by omega
  cases h2 : isI s
  · rw [if_pos rfl]
    rw [h2] at IC
    go_enter Tryd.func21, Tryd.ntmps21
    go_wp2_with fail
    refine (IC.out _).mono ?_
    rintro en w1 ⟨rfl, ⟨m, rfl⟩⟩
    obtain ⟨w2, hw2⟩ : ∃ w2, (w.alloc (.cells #[.string ⟨#[]⟩, .string ⟨#[]⟩, .int .i64 0, .int .i64 0] 26)).drewN m = w2 := ⟨_, rfl⟩
    have hb1 : w2.heap[w.heap.size]? = some (.cells #[.string ⟨#[]⟩, .string ⟨#[]⟩, .int .i64 0, .int .i64 0] 26 (0, 0)) := by rw [← hw2]; exact hb0
    have hB1 : Below w.heap.size w w2 := by rw [← hw2]; exact pw_below_drewN B0 m
    have HX := Aside0.mk hb1
    have HB1 := Aside0.mk hB1
    rw [hw2]
    clear hb1 hB1 hw2 hb0 B0
    go_wp2_with ((with_reducible refine gate_store (t := 26) (p := 2) rfl ?_); refine wpList_store_row rfl 26 (.tmp 2) (.tmp 16) rfl w.heap.size #[.string ⟨#[]⟩, .string ⟨#[]⟩, .int .i64 0, .int .i64 0] rfl rfl 26 _ HX.out info26 rfl (all_one4 _ _ _ _) ?_)
    have AR := setRow_heap w2 w.heap.size _ #[.string ⟨#[]⟩, .string ⟨#[]⟩, .int .i64 0, .int .i64 0] 26 _ HX.out
    (try simp only [Exit.inBlock, Exit.then])
    refine bodyPost_ret (results_ct rfl _ _ w.heap.size 26 #[.string ⟨#[]⟩, .string ⟨#[]⟩, .int .i64 0, .int .i64 0] (0, 0) _ rfl AR Tryd.underlying26 rfl (by kernel_rfl)) rfl ?_
    exact ⟨rfl, HB1.out.trans (setRow_below' _ w.heap.size _)⟩
  rw [if_neg (by simp)]
  rw [h2] at IC
  by_cases h3 : s.size < 12
  · rw [if_pos h3]
    have hi3 : (s.size : Int) < 12 := by omega
    go_enter Tryd.func21, Tryd.ntmps21
    go_wp2_with fail
    refine (IC.out _).mono ?_
    rintro en w1 ⟨rfl, ⟨m, rfl⟩⟩
    obtain ⟨w2, hw2⟩ : ∃ w2, (w.alloc (.cells #[.string ⟨#[]⟩, .string ⟨#[]⟩, .int .i64 0, .int .i64 0] 26)).drewN m = w2 := ⟨_, rfl⟩
    have hb1 : w2.heap[w.heap.size]? = some (.cells #[.string ⟨#[]⟩, .string ⟨#[]⟩, .int .i64 0, .int .i64 0] 26 (0, 0)) := by rw [← hw2]; exact hb0
    have hB1 : Below w.heap.size w w2 := by rw [← hw2]; exact pw_below_drewN B0 m
    have HX := Aside0.mk hb1
    have HB1 := Aside0.mk hB1
    rw [hw2]
    clear hb1 hB1 hw2 hb0 B0
    go_wp2_with ((with_reducible refine gate_store (t := 26) (p := 2) rfl ?_); refine wpList_store_row rfl 26 (.tmp 2) (.tmp 21) rfl w.heap.size #[.string ⟨#[]⟩, .string ⟨#[]⟩, .int .i64 0, .int .i64 0] rfl rfl 26 _ HX.out info26 rfl (all_one4 _ _ _ _) ?_)
    have AR := setRow_heap w2 w.heap.size _ #[.string ⟨#[]⟩, .string ⟨#[]⟩, .int .i64 0, .int .i64 0] 26 _ HX.out
    (try simp only [Exit.inBlock, Exit.then])
    refine bodyPost_ret (results_ct rfl _ _ w.heap.size 26 #[.string ⟨#[]⟩, .string ⟨#[]⟩, .int .i64 0, .int .i64 0] (0, 0) _ rfl AR Tryd.underlying26 rfl (by kernel_rfl)) rfl ?_
    exact ⟨rfl, HB1.out.trans (setRow_below' _ w.heap.size _)⟩
  rw [if_neg h3]
  have hi3 : ¬ (s.size : Int) < 12 := by omega
  obtain ⟨n, hn⟩ : ∃ n, s.size = n := ⟨_, rfl⟩
  obtain ⟨m8, hm8⟩ : ∃ m, n - 8 = m := ⟨_, rfl⟩
  have hq8 : IntKind.i64.wrap ((n : Int) - 8) = (m8 : Int) := by rw [IntKind.wrap_i64]; omega
  rw [hn] at h1 h3 hi1 hi3
  rw [hn, hm8]
  have hmn : (m8 : Int) ≤ (n : Int) := by omega
  have hbb : bytesOf (s.extract 0 m8) = (bytesOf s).take m8 := by rw [bytesOf_extract, List.drop_zero, Nat.sub_zero]
  have hbs : (s.extract 0 m8).size = m8 := by rw [ByteArray.size_extract]; omega
  have CK := Aside0.mk (fun W (hW : KT W) => check_calls (s.extract 0 m8) W hW (by omega))
  rw [hbb] at CK
  obtain ⟨ck, hck⟩ : ∃ ck, strOfNums (sum8 ((bytesOf s).take m8)) = ck := ⟨_, rfl⟩
  obtain ⟨sm, hsm⟩ : ∃ sm, s.extract m8 n = sm := ⟨_, rfl⟩
  obtain ⟨b, hb⟩ : ∃ b, s.extract 0 m8 = b := ⟨_, rfl⟩
  rw [hck, hb] at CK
  rw [hck, hsm]
  rw [hb] at hbb hbs
  obtain ⟨p, hp⟩ : ∃ p, ((bytesOf s).take m8).drop 4 = p := ⟨_, rfl⟩
  rw [hp]
  obtain ⟨R, hR⟩ : ∃ R : (ByteArray × ByteArray × Int × Int) × Int, (if ck ≠ sm then ((⟨#[]⟩, ⟨#[]⟩, 0, 0), 27) else if okD p then (((dA p).1, (dB p).1, (dC p).1, (dD p).1), 0) else ((⟨#[]⟩, ⟨#[]⟩, 0, 0), 3)) = R := ⟨_, rfl⟩
  rw [hR]
  have HR := Aside0.mk hR
  clear hR
  go_enter Tryd.func21, Tryd.ntmps21
  go_wp2_with fail
  refine (IC.out _).mono ?_
  rintro en w1 ⟨rfl, ⟨m, rfl⟩⟩
  obtain ⟨w2, hw2⟩ : ∃ w2, (w.alloc (.cells #[.string ⟨#[]⟩, .string ⟨#[]⟩, .int .i64 0, .int .i64 0] 26)).drewN m = w2 := ⟨_, rfl⟩
  have hb1 : w2.heap[w.heap.size]? = some (.cells #[.string ⟨#[]⟩, .string ⟨#[]⟩, .int .i64 0, .int .i64 0] 26 (0, 0)) := by rw [← hw2]; exact hb0
  have hB1 : Below w.heap.size w w2 := by rw [← hw2]; exact pw_below_drewN B0 m
  have HX := Aside0.mk hb1
  have HB1 := Aside0.mk hB1
  rw [hw2]
  clear hb1 hB1 hw2 hb0 B0 IC
  go_wp2_with fail
  go_quiet (fail)
  go_wp2_with fail
  obtain ⟨w3, hw3⟩ : ∃ W, w2.drewN nq = W := ⟨_, rfl⟩
  have hb3 : w3.heap[w.heap.size]? = some (.cells #[.string ⟨#[]⟩, .string ⟨#[]⟩, .int .i64 0, .int .i64 0] 26 (0, 0)) := by rw [← hw3]; exact HX.out
  have hB3 : Below w.heap.size w w3 := by rw [← hw3]; exact pw_below_drewN HB1.out nq
  rw [hw3]
  clear hw3 HX HB1
  refine (CK.out w3 (HK.out.after hB3)).mono ?_
  rintro en w4 ⟨rfl, B4⟩
  have hb4 := (B4.block w.heap.size (blk_lt hb3)).trans hb3
  have hB4 := hB3.trans (B4.mono hB3.size)
  have HX := Aside0.mk hb4
  have HB4 := Aside0.mk hB4
  have HSI := Aside0.mk (blk_lt hb4)
  clear hb3 hB3 B4 hb4 hB4 CK HK
  by_cases hne : ck = sm
  case neg =>
    have hR := HR.out
    rw [if_pos hne] at hR
    subst hR
    clear HR
    have hlt : (ck.toList == sm.toList) = false := by
      refine beq_eq_false_iff_ne.2 fun h => hne ?_
      rw [Lib.toList_data, Lib.toList_data] at h
      exact ByteArray.ext (Array.toList_inj.1 h)
    go_wp2_with ((with_reducible refine gate_store (t := 26) (p := 2) rfl ?_); refine wpList_store_row rfl 26 (.tmp 2) (.tmp 36) rfl w.heap.size #[.string ⟨#[]⟩, .string ⟨#[]⟩, .int .i64 0, .int .i64 0] rfl rfl 26 _ HX.out info26 rfl (all_one4 _ _ _ _) ?_)
    have AR := setRow_heap w4 w.heap.size _ #[.string ⟨#[]⟩, .string ⟨#[]⟩, .int .i64 0, .int .i64 0] 26 _ HX.out
    (try simp only [Exit.inBlock, Exit.then])
    refine bodyPost_ret (results_ct rfl _ _ w.heap.size 26 #[.string ⟨#[]⟩, .string ⟨#[]⟩, .int .i64 0, .int .i64 0] (0, 0) _ rfl AR Tryd.underlying26 rfl (by kernel_rfl)) rfl ?_
    exact ⟨rfl, HB4.out.trans (setRow_below' _ w.heap.size _)⟩
  have hR := HR.out
  rw [if_neg (by simpa using hne)] at hR
  subst hne
  clear hck hsm hb
  obtain ⟨x4, hx4⟩ : ∃ x, b.extract 4 m8 = x := ⟨_, rfl⟩
  have hxp : bytesOf x4 = p := by rw [← hx4, bytesOf_extract, hbb, hp, List.take_of_length_le]; rw [← hp, List.length_drop, List.length_take]; omega
  have hxs : x4.size = m8 - 4 := by rw [← hx4, ByteArray.size_extract, hbs]; omega
  have hpl : p.length = x4.size := by rw [← hxp]; exact bytesOf_length x4
  have hby : Bytes p := by rw [← hxp]; intro y hy; unfold bytesOf at hy; obtain ⟨u, _, rfl⟩ := List.mem_map.1 hy; have := u.toNat_lt; omega
  clear HR
  have HR := Aside0.mk hR
  clear hR
  have h4b : (4 : Int) ≤ (m8 : Int) := by omega
  have kb := fun W => print_bytes (P := Tryd.prog) 9 46 5 Tryd.underlying9 Tryd.underlying46 Tryd.underlying5 x4 W
  have HXP := Aside0.mk hxp
  have HXS := Aside0.mk hxs
  have HPL := Aside0.mk hpl
  have HBY := Aside0.mk hby
  clear hxp hxs hpl hby hp hbb
  go_wp2_with fail
  have hbw := bytes_below (Below.refl w4.heap.size w4) (Nat.le_refl _) 5 x4
  have hst := (Stab.bytes (S := fun _ => False) w4 x4 (by have := HXS.out; omega) (fun h => h) _ (grownCap_ge w4 x4.size 0 5)).now
  rw [HXP.out] at hst
  obtain ⟨A0, c0, e0, hc0, hC0⟩ := hst
  rw [HPL.out] at e0 hC0
  rw [e0]
  refine (newReader_calls w4.heap.size A0 x4.size c0 p (Lib.bytesWorld w4 5 x4) hbw.size HPL.out hC0 (by have := HXS.out; omega)).mono ?_
  rintro en w5 ⟨g, rfl, R1, hg1, B1⟩
  have hB5 := hbw.trans (B1.mono hbw.size)
  have hgw : w4.heap.size ≤ g := Nat.le_trans hbw.size hg1
  have HB5 := Aside0.mk hB5
  have HR1 := Aside0.mk R1
  have HG := Aside0.mk hgw
  clear B1 hB5 R1 hg1 hgw hbw hC0 hc0
  go_wp2_with fail
  have hbl : p.length ≤ 1000000000000 := by have := HPL.out; have := HXS.out; omega
  have hd0 : rStep (⟨#[]⟩ : ByteArray) (txtR 4096 (p.drop ((0 : Nat), (0 : Int)).1)) (0, 0) = dA p := rfl
  refine (Text_calls w4.heap.size g _ p (0, 0) w5 HR1.out HBY.out hbl 4096).mono ?_
  rintro en w6 ⟨rfl, R2, F2⟩
  rw [hd0] at R2 ⊢
  have HR2 := Aside0.mk R2
  have HF2 := Aside0.mk F2
  clear R2 F2 hd0 HR1
  go_wp2_with fail
  have hd1 : rStep (⟨#[]⟩ : ByteArray) (txtR 4096 (p.drop (dA p).2.1)) (dA p).2 = dB p := rfl
  refine (Text_calls w4.heap.size g _ p (dA p).2 w6 HR2.out HBY.out hbl 4096).mono ?_
  rintro en w7 ⟨rfl, R3, F3⟩
  rw [hd1] at R3 ⊢
  have HR3 := Aside0.mk R3
  have HF3 := Aside0.mk F3
  clear R3 F3 hd1 HR2
  go_wp2_with fail
  have hd2 : rStep (0 : Int) (numR 4096 (p.drop (dB p).2.1)) (dB p).2 = dC p := rfl
  refine (Number_calls w4.heap.size g _ p (dB p).2 w7 HR3.out HBY.out hbl 4096).mono ?_
  rintro en w8 ⟨rfl, R4, F4⟩
  rw [hd2] at R4 ⊢
  have HR4 := Aside0.mk R4
  have HF4 := Aside0.mk F4
  clear R4 F4 hd2 HR3
  go_wp2_with fail
  have hd3 : rStep (0 : Int) (numR 4096 (p.drop (dC p).2.1)) (dC p).2 = dD p := rfl
  refine (Number_calls w4.heap.size g _ p (dC p).2 w8 HR4.out HBY.out hbl 4096).mono ?_
  rintro en w9 ⟨rfl, R5, F5⟩
  rw [hd3] at R5 ⊢
  have hs1 : (dA p).1.size ≤ 4096 := by have := txtS_size 4096 (p.drop 0) (fun y hy => HBY.out y (List.mem_of_mem_drop hy)) (0, 0) (by omega); unfold dA; omega
  have hs2 : (dB p).1.size ≤ 4096 := by have := txtS_size 4096 (p.drop (dA p).2.1) (fun y hy => HBY.out y (List.mem_of_mem_drop hy)) (dA p).2 (by omega); unfold dB; omega
  have hB9 : Below w4.heap.size w4 w9 := by
    have z2 := HF2.out.size
    have z3 := HF3.out.size
    have z4 := HF4.out.size
    have z5 := HB5.out.size
    have f1 := HF2.out.below (B := w4.heap.size) (fun k hk => by have := HG.out; omega) z5
    have f2 := HF3.out.below (B := w4.heap.size) (fun k hk => by have := HG.out; omega) (by omega)
    have f3 := HF4.out.below (B := w4.heap.size) (fun k hk => by have := HG.out; omega) (by omega)
    have f4 := F5.below (B := w4.heap.size) (fun k hk => by have := HG.out; omega) (by omega)
    exact (((HB5.out.trans f1).trans f2).trans f3).trans f4
  have hX9 := (hB9.block w.heap.size HSI.out).trans HX.out
  have hT9 := HB4.out.trans (hB9.mono HB4.out.size)
  have hZ9 : w.heap.size < w9.heap.size := blk_lt hX9
  clear HX HB4 hB9 HF2 HF3 HF4 F5 HB5 HR4 HSI
  have hb0 := blk_new w9 (.cells #[.string ⟨#[]⟩, .string ⟨#[]⟩, .int .i64 0, .int .i64 0] 26)
  obtain ⟨a1, ha1⟩ : ∃ a, (dA p).1 = a := ⟨_, rfl⟩
  obtain ⟨a2, ha2⟩ : ∃ a, (dB p).1 = a := ⟨_, rfl⟩
  obtain ⟨a3, ha3⟩ : ∃ a, (dC p).1 = a := ⟨_, rfl⟩
  obtain ⟨a4, ha4⟩ : ∃ a, (dD p).1 = a := ⟨_, rfl⟩
  rw [ha1] at hs1
  rw [ha2] at hs2
  have hok : okD p ↔ closeR p (dD p).2 = 0 ∧ chkI a1 a2 a3 a4 = 0 := by unfold okD; rw [ha1, ha2, ha3, ha4]
  rw [ha1, ha2, ha3, ha4]
  have hR := HR.out
  rw [ha1, ha2, ha3, ha4] at hR
  clear ha1 ha2 ha3 ha4 HR
  obtain ⟨w10, hw10⟩ : ∃ W, (w9.alloc (.cells #[.string ⟨#[]⟩, .string ⟨#[]⟩, .int .i64 0, .int .i64 0] 26)).setRow w9.heap.size #[.string a1, .string a2, .int .i64 a3, .int .i64 a4] = W := ⟨_, rfl⟩
  have hB10 : Below w9.heap.size w9 w10 := by rw [← hw10]; exact (below_alloc (Below.refl _ _) _).trans (setRow_below' _ _ _)
  have hT6 : w10.heap[w9.heap.size]? = some (.cells #[.string a1, .string a2, .int .i64 a3, .int .i64 a4] 26 (0, 0)) := by rw [← hw10]; exact setRow_heap _ _ _ _ 26 _ hb0
  have hX10 := (hB10.block w.heap.size hZ9).trans hX9
  have hT10 := hT9.trans (hB10.mono hT9.size)
  have CL := Aside0.mk (close_calls w4.heap.size g _ p (dD p).2 w10 (R5.frm (Frm.of_fresh hB10 (fun _ => False)) (fun h => h) (fun _ _ h => h)) hbl)
  have VA := Aside0.mk (fun W => PImageDecodes.image_Image_valid.calls 2 a1 a2 a3 a4 _ W (valid_f a1 a2 a3 a4 (by omega) (by omega)))
  obtain ⟨cl, hcl⟩ : ∃ c, closeR p (dD p).2 = c := ⟨_, rfl⟩
  rw [hcl] at hok CL
  have H0 := Aside0.mk hb0
  have HW10 := Aside0.mk hw10
  have HT6 := Aside0.mk hT6
  have HX10 := Aside0.mk hX10
  have HT10 := Aside0.mk hT10
  have HR := Aside0.mk hR
  have HOK := Aside0.mk hok
  clear R5 hX9 hT9 hb0 hw10 hB10 hT6 hX10 hT10 hR hok hcl hbl
  go_wp2_with ((with_reducible refine gate_store (t := 26) (p := 6) rfl ?_); refine wpList_store_row rfl 26 (.tmp 6) (.tmp 49) rfl w9.heap.size #[.string a1, .string a2, .int .i64 a3, .int .i64 a4] rfl rfl 26 _ H0.out info26 rfl (all_one4 _ _ _ _) ?_; rw [HW10.out])
  refine CL.out.mono ?_
  rintro en w11' ⟨rfl, m11, rfl⟩
  obtain ⟨w11, hw11⟩ : ∃ W, w10.drewN m11 = W := ⟨_, rfl⟩
  have hT6' : w11.heap[w9.heap.size]? = some (.cells #[.string a1, .string a2, .int .i64 a3, .int .i64 a4] 26 (0, 0)) := by rw [← hw11]; exact HT6.out
  have hX' : w11.heap[w.heap.size]? = some (.cells #[.string ⟨#[]⟩, .string ⟨#[]⟩, .int .i64 0, .int .i64 0] 26 (0, 0)) := by rw [← hw11]; exact HX10.out
  have hT' : Below w.heap.size w w11 := by rw [← hw11]; exact pw_below_drewN HT10.out m11
  rw [hw11]
  clear hw11 HX10 HT10 HT6 CL H0 HW10
  have HX10 := Aside0.mk hX'
  have HT10 := Aside0.mk hT'
  have HT6 := Aside0.mk hT6'
  clear hX' hT' hT6'
  by_cases hcl : cl = 0
  case neg =>
    have hR := HR.out
    rw [if_neg (fun h => hcl (HOK.out.1 h).1)] at hR
    subst hR
    clear HR
    go_wp2_with ((with_reducible refine gate_store (t := 26) (p := 2) rfl ?_); refine wpList_store_row rfl 26 (.tmp 2) (.tmp 58) rfl w.heap.size #[.string ⟨#[]⟩, .string ⟨#[]⟩, .int .i64 0, .int .i64 0] rfl rfl 26 _ HX10.out info26 rfl (all_one4 _ _ _ _) ?_)
    have AR := setRow_heap w11 w.heap.size _ #[.string ⟨#[]⟩, .string ⟨#[]⟩, .int .i64 0, .int .i64 0] 26 _ HX10.out
    (try simp only [Exit.inBlock, Exit.then])
    refine bodyPost_ret (results_ct rfl _ _ w.heap.size 26 #[.string ⟨#[]⟩, .string ⟨#[]⟩, .int .i64 0, .int .i64 0] (0, 0) _ rfl AR Tryd.underlying26 rfl (by kernel_rfl)) rfl ?_
    exact ⟨rfl, HT10.out.trans (setRow_below' _ w.heap.size _)⟩
  subst hcl
  have y0 : w11.cell? ⟨w9.heap.size, 0, none⟩ = some (.string a1) := (blk_cell HT6.out 0).trans rfl
  have y1 : w11.cell? ⟨w9.heap.size, 1, none⟩ = some (.string a2) := (blk_cell HT6.out 1).trans rfl
  have y2 : w11.cell? ⟨w9.heap.size, 2, none⟩ = some (.int .i64 a3) := (blk_cell HT6.out 2).trans rfl
  have y3 : w11.cell? ⟨w9.heap.size, 3, none⟩ = some (.int .i64 a4) := (blk_cell HT6.out 3).trans rfl
  by_cases hck : chkI a1 a2 a3 a4 = 0
  case neg =>
    have hR := HR.out
    rw [if_neg (fun h => hck (HOK.out.1 h).2)] at hR
    subst hR
    clear HR
    have hvb : (chkI a1 a2 a3 a4 == 0) = false := beq_eq_false_iff_ne.2 hck
    rw [hvb] at VA
    clear hvb hck
    go_wp2_with fail
    refine (VA.out w11).mono ?_
    rintro en w12 ⟨rfl, B12⟩
    have hX' := (B12.block w.heap.size (blk_lt HX10.out)).trans HX10.out
    have hT' := HT10.out.trans (B12.mono HT10.out.size)
    clear HX10 HT10 B12
    have HX10 := Aside0.mk hX'
    have HT10 := Aside0.mk hT'
    clear hX' hT'
    go_wp2_with ((with_reducible refine gate_store (t := 26) (p := 2) rfl ?_); refine wpList_store_row rfl 26 (.tmp 2) (.tmp 58) rfl w.heap.size #[.string ⟨#[]⟩, .string ⟨#[]⟩, .int .i64 0, .int .i64 0] rfl rfl 26 _ HX10.out info26 rfl (all_one4 _ _ _ _) ?_)
    have AR := setRow_heap w12 w.heap.size _ #[.string ⟨#[]⟩, .string ⟨#[]⟩, .int .i64 0, .int .i64 0] 26 _ HX10.out
    (try simp only [Exit.inBlock, Exit.then])
    refine bodyPost_ret (results_ct rfl _ _ w.heap.size 26 #[.string ⟨#[]⟩, .string ⟨#[]⟩, .int .i64 0, .int .i64 0] (0, 0) _ rfl AR Tryd.underlying26 rfl (by kernel_rfl)) rfl ?_
    exact ⟨rfl, HT10.out.trans (setRow_below' _ w.heap.size _)⟩
  have hR := HR.out
  rw [if_pos (HOK.out.2 ⟨rfl, hck⟩)] at hR
  subst hR
  clear HR
  have hvb : (chkI a1 a2 a3 a4 == 0) = true := beq_iff_eq.2 hck
  rw [hvb] at VA
  clear hvb hck
  go_wp2_with fail
  refine (VA.out w11).mono ?_
  rintro en w12 ⟨rfl, B12⟩
  have hX' := (B12.block w.heap.size (blk_lt HX10.out)).trans HX10.out
  have hT' := HT10.out.trans (B12.mono HT10.out.size)
  have hT6' := (B12.block w9.heap.size (blk_lt HT6.out)).trans HT6.out
  clear HX10 HT10 HT6 B12 y0 y1 y2 y3
  have HX10 := Aside0.mk hX'
  have HT10 := Aside0.mk hT'
  have HT6 := Aside0.mk hT6'
  clear hX' hT' hT6'
  have z0 : w12.cell? ⟨w9.heap.size, 0, none⟩ = some (.string a1) := (blk_cell HT6.out 0).trans rfl
  have z1 : w12.cell? ⟨w9.heap.size, 1, none⟩ = some (.string a2) := (blk_cell HT6.out 1).trans rfl
  have z2 : w12.cell? ⟨w9.heap.size, 2, none⟩ = some (.int .i64 a3) := (blk_cell HT6.out 2).trans rfl
  have z3 : w12.cell? ⟨w9.heap.size, 3, none⟩ = some (.int .i64 a4) := (blk_cell HT6.out 3).trans rfl
  go_wp2_with ((with_reducible refine gate_store (t := 26) (p := 2) rfl ?_); refine wpList_store_row rfl 26 (.tmp 2) (.tmp 59) rfl w.heap.size #[.string a1, .string a2, .int .i64 a3, .int .i64 a4] rfl rfl 26 _ HX10.out info26 rfl (all_one4 _ _ _ _) ?_)
  have AR := setRow_heap w12 w.heap.size _ #[.string a1, .string a2, .int .i64 a3, .int .i64 a4] 26 _ HX10.out
  (try simp only [Exit.inBlock, Exit.then])
  refine bodyPost_ret (results_ct rfl _ _ w.heap.size 26 #[.string a1, .string a2, .int .i64 a3, .int .i64 a4] (0, 0) _ rfl AR Tryd.underlying26 rfl (by kernel_rfl)) rfl ?_
  exact ⟨rfl, HT10.out.trans (setRow_below' _ w.heap.size _)⟩
end Go.Proofs.YtbddllklagiajaaDoor

namespace Go.Proofs.YtbddllklagiajaaDoor
open Go.RowKit Go.Proofs.YtbddllklagiajaaDoorW.PrintWords Go.Proofs.YtbddllklagiajaaDoorW.PrintLast Go.Proofs.YtbddllklagiajaaDoorW.PrintMore
set_option linter.unusedVariables false
set_option linter.unusedSimpArgs false

theorem bytes_drop {l : List Int} (h : Bytes l) (k : Nat) : Bytes (l.drop k) := fun x hx => h x (List.mem_of_mem_drop hx)
theorem bytes_take {l : List Int} (h : Bytes l) (k : Nat) : Bytes (l.take k) := fun x hx => h x (List.mem_of_mem_take hx)

/-- A number that was read without an error. -/
theorem num_ok {most : Int} {l : List Int} (hb : Bytes l) {s : Nat × Int} (h : (rStep (0 : Int) (numR most l) s).2.2 = 0) :
    s.2 = 0 ∧ ∃ n k : Nat, prs l = ((n : Int), (k : Int), 0) ∧ n < 9223372036854775808 ∧ k ≤ l.length ∧ enc n = l.take k ∧ (n : Int) ≤ most ∧ rStep (0 : Int) (numR most l) s = ((n : Int), s.1 + k, 0) := by
  unfold rStep at h ⊢
  by_cases h1 : s.2 = 0
  · refine ⟨h1, ?_⟩
    rw [if_pos h1] at h ⊢
    unfold numR at h ⊢
    by_cases h2 : (prs l).2.2 = 0 ∧ most < (prs l).1
    · rw [if_pos h2] at h; simp at h
    rw [if_neg h2] at h ⊢
    rcases prs_cases l hb with hr | hr | ⟨n, k, hr, h3, h4, h5, h6, h7⟩
    · rw [hr] at h; simp at h
    · rw [hr] at h; simp at h
    · rw [hr] at h2 ⊢
      refine ⟨n, k, rfl, h3, h6, h7, ?_, ?_⟩
      · simp at h2; omega
      · simp
  · rw [if_neg h1] at h
    exact absurd h h1
/-- A text that was read without an error. -/
theorem txt_ok {most : Int} {l : List Int} (hb : Bytes l) {s : Nat × Int} (h : (rStep (⟨#[]⟩ : ByteArray) (txtR most l) s).2.2 = 0) :
    s.2 = 0 ∧ ∃ n k : Nat, prs l = ((n : Int), (k : Int), 0) ∧ n < 9223372036854775808 ∧ k + n ≤ l.length ∧ enc n = l.take k ∧ (n : Int) ≤ min most 16777216 ∧ rStep (⟨#[]⟩ : ByteArray) (txtR most l) s = (strOfNums ((l.drop k).take n), s.1 + (k + n), 0) := by
  unfold rStep at h ⊢
  by_cases h1 : s.2 = 0
  · refine ⟨h1, ?_⟩
    rw [if_pos h1] at h ⊢
    rcases prs_cases l hb with hr | hr | ⟨n, k, hr, h3, h4, h5, h6, h7⟩
    · have e : txtR most l = (⟨#[]⟩, 0, 3) := by unfold txtR; rw [hr]; dsimp only; rw [if_pos (by decide)]
      rw [e] at h; simp at h
    · have e : txtR most l = (⟨#[]⟩, 0, 28) := by unfold txtR; rw [hr]; dsimp only; rw [if_pos (by decide)]
      rw [e] at h; simp at h
    · by_cases h8 : min most 16777216 < (n : Int)
      · have e : txtR most l = (⟨#[]⟩, 0, 5) := by unfold txtR; rw [hr]; dsimp only; rw [if_neg (by decide), if_pos h8]
        rw [e] at h; simp at h
      by_cases h9 : (l.length : Int) - (k : Int) < (n : Int)
      · have e : txtR most l = (⟨#[]⟩, 0, 28) := by unfold txtR; rw [hr]; dsimp only; rw [if_neg (by decide), if_neg h8, if_pos h9]
        rw [e] at h; simp at h
      have e : txtR most l = (strOfNums ((l.drop k).take n), (k : Int) + (n : Int), 0) := by unfold txtR; rw [hr]; dsimp only; rw [if_neg (by decide), if_neg h8, if_neg h9, Int.toNat_natCast, Int.toNat_natCast]
      refine ⟨n, k, hr, h3, by omega, h7, by omega, ?_⟩
      rw [e, if_pos rfl]
      dsimp only
      rw [show ((k : Int) + (n : Int)).toNat = k + n by omega]
  · rw [if_neg h1] at h
    exact absurd h h1

theorem nums_size (l : List Int) : (strOfNums l).size = l.length := by
  rw [← bytesOf_length]
  unfold bytesOf
  rw [strOfNums_data]
  simp

theorem prs_enc {n : Nat} (r : List Int) (h : n < 9223372036854775808) : prs (enc n ++ r) = ((n : Int), ((enc n).length : Int), 0) := by
  unfold prs
  rw [grp_enc (most := 9) r (show n < 128 ^ 9 by omega) (by omega)]
  rfl
theorem drop_enc (n : Nat) (r : List Int) : (enc n ++ r).drop (enc n).length = r := by rw [List.drop_append_of_le_length (Nat.le_refl _), List.drop_length, List.nil_append]
theorem drop_at (a r : List Int) (n : Nat) (h : a.length = n) : (a ++ r).drop n = r := by subst h; rw [List.drop_append_of_le_length (Nat.le_refl _), List.drop_length, List.nil_append]
theorem take_at (a r : List Int) (n : Nat) (h : a.length = n) : (a ++ r).take n = a := by subst h; rw [List.take_append_of_le_length (Nat.le_refl _), List.take_length]
theorem num_enc (most : Int) (n : Nat) (r : List Int) (at_ : Nat) (h : (n : Int) ≤ most) (hn : n < 9223372036854775808) : rStep (0 : Int) (numR most (enc n ++ r)) (at_, 0) = ((n : Int), at_ + (enc n).length, 0) := by
  unfold numR
  rw [prs_enc r hn]
  dsimp only
  rw [if_neg (by omega)]
  unfold rStep
  simp
theorem txt_enc (most : Int) (c : ByteArray) (r : List Int) (at_ : Nat) (h : (c.size : Int) ≤ min most 16777216) : rStep (⟨#[]⟩ : ByteArray) (txtR most (enc c.size ++ (bytesOf c ++ r))) (at_, 0) = (c, at_ + ((enc c.size).length + c.size), 0) := by
  have e : txtR most (enc c.size ++ (bytesOf c ++ r)) = (c, ((enc c.size).length : Int) + (c.size : Int), 0) := by
    unfold txtR
    rw [prs_enc _ (show c.size < 9223372036854775808 by omega)]
    dsimp only
    have hl := bytesOf_length c
    have hln : (enc c.size ++ (bytesOf c ++ r)).length = (enc c.size).length + (c.size + r.length) := by rw [List.length_append, List.length_append, hl]
    rw [hln, if_neg (by decide), if_neg (by omega), if_neg (by omega), Int.toNat_natCast, Int.toNat_natCast, drop_enc, take_at _ _ _ hl, nums_bytesOf]
  rw [e]
  unfold rStep
  dsimp only
  rw [if_pos rfl, if_pos rfl, show (((enc c.size).length : Int) + (c.size : Int)).toNat = (enc c.size).length + c.size by omega]

theorem enc_len2 {n : Nat} (h : n < 16384) : (enc n).length ≤ 2 := enc_len 1 n (by omega)
theorem bytesOf_inj {a b : ByteArray} (h : bytesOf a = bytesOf b) : a = b := by rw [← nums_bytesOf a, h, nums_bytesOf]
theorem nums_mag : (strOfNums magI).toList = [127, 82, 80, 76] := by rw [Lib.toList_data]; rfl
theorem mag_by : Bytes magI := by intro x hx; simp [magI] at hx; omega
theorem isI_iff (s : ByteArray) : isI s = true ↔ (bytesOf s).take 4 = magI := by
  have hx : bytesOf (s.extract 0 4) = (bytesOf s).take 4 := by rw [bytesOf_extract, List.drop_zero]
  unfold isI
  rw [Bool.and_eq_true, decide_eq_true_iff, beq_iff_eq]
  constructor
  · rintro ⟨_, h⟩
    rw [← hx]
    have : s.extract 0 4 = strOfNums magI := by
      apply ByteArray.ext
      apply Array.ext'
      rw [← Lib.toList_data, ← Lib.toList_data, h, nums_mag]
    rw [this, bytesOf_nums _ mag_by]
  · intro h
    have hl := congrArg List.length h
    rw [List.length_take, bytesOf_length] at hl
    refine ⟨by simp [magI] at hl; omega, ?_⟩
    have : s.extract 0 4 = strOfNums magI := by rw [← nums_bytesOf (s.extract 0 4), hx, h]
    rw [this, nums_mag]

/-- The text of a valid image is short. -/
theorem enc_size {c d : ByteArray} {z e : Int} (h : chkI c d z e = 0) : (payI c d z e).length ≤ 4110 ∧ 4 ≤ (payI c d z e).length := by
  obtain ⟨h1, h2, h3, h4, h5, h6, h7, h8⟩ := chk_ok h
  have hu : c.size ≤ upI c.size := by unfold upI; omega
  have l1 := enc_len2 (show c.size < 16384 by omega)
  have l2 := enc_len2 (show d.size < 16384 by omega)
  have l3 := enc_len2 (show z.toNat < 16384 by omega)
  have l4 := enc_len2 (show e.toNat < 16384 by omega)
  have k1 := enc_pos c.size
  have k2 := enc_pos d.size
  have k3 := enc_pos z.toNat
  have k4 := enc_pos e.toNat
  have l5 := bytesOf_length c
  have l6 := bytesOf_length d
  unfold payI
  simp only [List.length_append, List.length_nil]
  omega
theorem encI_by (c d : ByteArray) (z e : Int) : Bytes (encI c d z e) := by
  unfold encI
  exact bytes_app (bytes_app mag_by (payI_by c d z e)) (sum8_by _)
theorem encI_len (c d : ByteArray) (z e : Int) : (encI c d z e).length = 4 + (payI c d z e).length + 8 := by
  unfold encI
  rw [List.length_append, List.length_append, sum8_len]
  rfl

/-- What is read of a valid image's parts. -/
theorem parts_enc {c d : ByteArray} {z e : Int} (h : chkI c d z e = 0) : okD (payI c d z e) ∧ (dA (payI c d z e)).1 = c ∧ (dB (payI c d z e)).1 = d ∧ (dC (payI c d z e)).1 = z ∧ (dD (payI c d z e)).1 = e := by
  have hc := h
  obtain ⟨h1, h2, h3, h4, h5, h6, h7, h8⟩ := chk_ok h
  have hu : c.size ≤ upI c.size := by unfold upI; omega
  obtain ⟨zn, rfl⟩ : ∃ zn : Nat, z = (zn : Int) := ⟨z.toNat, by omega⟩
  obtain ⟨en, rfl⟩ : ∃ en : Nat, e = (en : Int) := ⟨e.toNat, by omega⟩
  have lc := bytesOf_length c
  have ld := bytesOf_length d
  obtain ⟨p, hp⟩ : ∃ p, payI c d zn en = p := ⟨_, rfl⟩
  rw [hp]
  have e1 : p = enc c.size ++ (bytesOf c ++ (enc d.size ++ (bytesOf d ++ (enc zn ++ enc en)))) := by
    rw [← hp]; unfold payI; simp [List.append_assoc]
  have e2 : p.drop ((enc c.size).length + c.size) = enc d.size ++ (bytesOf d ++ (enc zn ++ enc en)) := by
    rw [e1, ← List.append_assoc]; exact drop_at _ _ _ (by rw [List.length_append, lc])
  have e3 : p.drop ((enc c.size).length + c.size + ((enc d.size).length + d.size)) = enc zn ++ enc en := by
    rw [← List.drop_drop, e2, ← List.append_assoc]; exact drop_at _ _ _ (by rw [List.length_append, ld])
  have e4 : p.drop ((enc c.size).length + c.size + ((enc d.size).length + d.size) + (enc zn).length) = enc en := by
    rw [← List.drop_drop, e3]; exact drop_enc _ _
  have hl : p.length = (enc c.size).length + c.size + ((enc d.size).length + d.size) + (enc zn).length + (enc en).length := by
    rw [e1]; simp only [List.length_append, lc, ld]; omega
  have a1 : dA p = (c, (enc c.size).length + c.size, 0) := by
    unfold dA
    rw [List.drop_zero, e1]
    have := txt_enc 4096 c (enc d.size ++ (bytesOf d ++ (enc zn ++ enc en))) 0 (by omega)
    rw [Nat.zero_add] at this
    exact this
  have a2 : dB p = (d, (enc c.size).length + c.size + ((enc d.size).length + d.size), 0) := by
    unfold dB
    rw [a1]
    dsimp only
    rw [e2]
    exact txt_enc 4096 d _ _ (by omega)
  have a3 : dC p = ((zn : Int), (enc c.size).length + c.size + ((enc d.size).length + d.size) + (enc zn).length, 0) := by
    unfold dC
    rw [a2]
    dsimp only
    rw [e3]
    exact num_enc 4096 zn _ _ (by omega) (by omega)
  have a4 : dD p = ((en : Int), (enc c.size).length + c.size + ((enc d.size).length + d.size) + (enc zn).length + (enc en).length, 0) := by
    unfold dD
    rw [a3]
    dsimp only
    rw [e4]
    have := num_enc 4096 en [] ((enc c.size).length + c.size + ((enc d.size).length + d.size) + (enc zn).length) (by omega) (by omega)
    rw [List.append_nil] at this
    exact this
  refine ⟨⟨?_, ?_⟩, by rw [a1], by rw [a2], by rw [a3], by rw [a4]⟩
  · rw [a4]
    unfold closeR
    dsimp only
    rw [if_neg (by omega)]
  · rw [a1, a2, a3, a4]
    exact hc

/-- Decode of an encoding. -/
theorem dec_enc {c d : ByteArray} {z e : Int} (h : chkI c d z e = 0) : decI (strOfNums (encI c d z e)) = ((c, d, z, e), 0) := by
  have hs := enc_size h
  have hb := bytesOf_nums _ (encI_by c d z e)
  have hl := encI_len c d z e
  obtain ⟨s, hse⟩ : ∃ s, strOfNums (encI c d z e) = s := ⟨_, rfl⟩
  have hsz : s.size = 4 + (payI c d z e).length + 8 := by rw [← hl, ← hse, ← bytesOf_length, hb]
  rw [hse] at hb ⊢
  have hml : (magI ++ payI c d z e).length = s.size - 8 := by rw [List.length_append, hsz]; simp [magI]
  have t8 : (bytesOf s).take (s.size - 8) = magI ++ payI c d z e := by rw [hb]; exact take_at _ _ _ hml
  have d8 : (bytesOf s).drop (s.size - 8) = sum8 (magI ++ payI c d z e) := by rw [hb]; exact drop_at _ _ _ hml
  have hI : isI s = true := by
    rw [isI_iff, hb]
    unfold encI
    rw [List.append_assoc]
    exact take_at _ _ _ rfl
  have hx : s.extract (s.size - 8) s.size = strOfNums (sum8 (magI ++ payI c d z e)) := by
    rw [← nums_bytesOf (s.extract (s.size - 8) s.size), bytesOf_extract, d8, List.take_of_length_le (by rw [sum8_len]; omega)]
  have hp : (magI ++ payI c d z e).drop 4 = payI c d z e := drop_at _ _ _ rfl
  obtain ⟨ok, p1, p2, p3, p4⟩ := parts_enc h
  unfold decI
  rw [if_neg (by omega), hI, if_neg (by simp), if_neg (by omega), t8, hx, if_neg (by simp), hp, if_pos ok, p1, p2, p3, p4]

/-- What is accepted is the encoding of a valid image. -/
theorem dec_canon (s : ByteArray) (h : (decI s).2 = 0) : chkI (decI s).1.1 (decI s).1.2.1 (decI s).1.2.2.1 (decI s).1.2.2.2 = 0 ∧ s = strOfNums (encI (decI s).1.1 (decI s).1.2.1 (decI s).1.2.2.1 (decI s).1.2.2.2) := by
  have hby := bytesOf_by s
  have hbl := bytesOf_length s
  unfold decI at h ⊢
  by_cases h1 : 4200 < s.size
  · rw [if_pos h1] at h; simp at h
  rw [if_neg h1] at h ⊢
  by_cases h2 : isI s = false
  · rw [if_pos h2] at h; simp at h
  rw [if_neg h2] at h ⊢
  have h2' := (isI_iff s).1 (by simpa using h2)
  by_cases h3 : s.size < 12
  · rw [if_pos h3] at h; simp at h
  rw [if_neg h3] at h ⊢
  obtain ⟨b, hb⟩ : ∃ b, (bytesOf s).take (s.size - 8) = b := ⟨_, rfl⟩
  rw [hb] at h ⊢
  by_cases h4 : strOfNums (sum8 b) = s.extract (s.size - 8) s.size
  case neg => rw [if_pos h4] at h; simp at h
  rw [if_neg (by simpa using h4)] at h ⊢
  obtain ⟨p, hp⟩ : ∃ p, b.drop 4 = p := ⟨_, rfl⟩
  rw [hp] at h ⊢
  by_cases h5 : okD p
  case neg => rw [if_neg h5] at h; simp at h
  rw [if_pos h5]
  dsimp only
  have hpb : Bytes p := by rw [← hp, ← hb]; exact bytes_drop (bytes_take hby _) _
  obtain ⟨hc, hk⟩ := h5
  refine ⟨hk, ?_⟩
  have hD : (dD p).2.2 = 0 ∧ p.length ≤ (dD p).2.1 := by
    unfold closeR at hc
    split at hc
    · simp at hc
    · rename_i hh
      refine ⟨hc, ?_⟩
      simp only [hc, true_and] at hh
      omega
  obtain ⟨hD, hDl⟩ := hD
  obtain ⟨hC, n4, k4, _, _, q4, e4, _, x4⟩ := num_ok (bytes_drop hpb _) (show (rStep (0 : Int) (numR 4096 (p.drop (dC p).2.1)) (dC p).2).2.2 = 0 from hD)
  obtain ⟨hB, n3, k3, _, _, q3, e3, _, x3⟩ := num_ok (bytes_drop hpb _) (show (rStep (0 : Int) (numR 4096 (p.drop (dB p).2.1)) (dB p).2).2.2 = 0 from hC)
  obtain ⟨hA, n2, k2, _, _, q2, e2, r2, x2⟩ := txt_ok (bytes_drop hpb _) (show (rStep (⟨#[]⟩ : ByteArray) (txtR 4096 (p.drop (dA p).2.1)) (dA p).2).2.2 = 0 from hB)
  obtain ⟨_, n1, k1, _, _, q1, e1, r1, x1⟩ := txt_ok (bytes_drop hpb 0) (show (rStep (⟨#[]⟩ : ByteArray) (txtR 4096 (p.drop 0)) (0, 0)).2.2 = 0 from hA)
  have y1 : dA p = (strOfNums (((p.drop 0).drop k1).take n1), 0 + (k1 + n1), 0) := x1
  rw [List.drop_zero] at y1 e1
  rw [Nat.zero_add] at y1
  rw [List.drop_zero] at q1
  have g1 : (dA p).2.1 = k1 + n1 := by rw [y1]
  have z1 : (dA p).1 = strOfNums ((p.drop k1).take n1) := by rw [y1]
  rw [g1] at q2 e2 x2
  have y2 : dB p = (strOfNums (((p.drop (k1 + n1)).drop k2).take n2), (dA p).2.1 + (k2 + n2), 0) := by unfold dB; rw [g1]; exact x2
  rw [g1] at y2
  have g2 : (dB p).2.1 = k1 + n1 + (k2 + n2) := by rw [y2]
  have z2 : (dB p).1 = strOfNums (((p.drop (k1 + n1)).drop k2).take n2) := by rw [y2]
  rw [g2] at q3 e3 x3
  have y3 : dC p = ((n3 : Int), (dB p).2.1 + k3, 0) := by unfold dC; rw [g2]; exact x3
  rw [g2] at y3
  have g3 : (dC p).2.1 = k1 + n1 + (k2 + n2) + k3 := by rw [y3]
  have z3 : (dC p).1 = (n3 : Int) := by rw [y3]
  rw [g3] at q4 e4 x4
  have y4 : dD p = ((n4 : Int), (dC p).2.1 + k4, 0) := by unfold dD; rw [g3]; exact x4
  rw [g3] at y4
  have g4 : (dD p).2.1 = k1 + n1 + (k2 + n2) + k3 + k4 := by rw [y4]
  have z4 : (dD p).1 = (n4 : Int) := by rw [y4]
  rw [g4] at hDl
  rw [z1, z2, z3, z4]
  clear x1 x2 x3 x4 y1 y2 y3 y4 g1 g2 g3 g4 z1 z2 z3 z4 hk hc hD hC hB hA h
  obtain ⟨X1, hX1⟩ : ∃ X, (p.drop k1).take n1 = X := ⟨_, rfl⟩
  obtain ⟨X2, hX2⟩ : ∃ X, ((p.drop (k1 + n1)).drop k2).take n2 = X := ⟨_, rfl⟩
  rw [hX1, hX2]
  simp only [List.length_drop] at q2 q3 q4
  have l1 : X1.length = n1 := by rw [← hX1, List.length_take, List.length_drop]; omega
  have l2 : X2.length = n2 := by rw [← hX2, List.length_take, List.length_drop, List.length_drop]; omega
  have b1 : Bytes X1 := by rw [← hX1]; exact bytes_take (bytes_drop hpb _) _
  have b2 : Bytes X2 := by rw [← hX2]; exact bytes_take (bytes_drop (bytes_drop hpb _) _) _
  have s1 : p = enc n1 ++ (X1 ++ p.drop (k1 + n1)) := by
    rw [← hX1, e1, ← List.drop_drop, List.take_append_drop, List.take_append_drop]
  have s2 : p.drop (k1 + n1) = enc n2 ++ (X2 ++ p.drop (k1 + n1 + (k2 + n2))) := by
    have d2 : p.drop (k1 + n1 + (k2 + n2)) = ((p.drop (k1 + n1)).drop k2).drop n2 := by rw [List.drop_drop, List.drop_drop]
    rw [← hX2, e2, d2, List.take_append_drop, List.take_append_drop]
  have s3 : p.drop (k1 + n1 + (k2 + n2)) = enc n3 ++ p.drop (k1 + n1 + (k2 + n2) + k3) := by
    have d3 : p.drop (k1 + n1 + (k2 + n2) + k3) = (p.drop (k1 + n1 + (k2 + n2))).drop k3 := by rw [List.drop_drop]
    rw [e3, d3, List.take_append_drop]
  have s4 : p.drop (k1 + n1 + (k2 + n2) + k3) = enc n4 := by
    rw [e4, List.take_of_length_le (by rw [List.length_drop]; omega)]
  have hpay : payI (strOfNums X1) (strOfNums X2) n3 n4 = p := by
    unfold payI
    rw [bytesOf_nums _ b1, bytesOf_nums _ b2, nums_size, nums_size, l1, l2, Int.toNat_natCast, Int.toNat_natCast]
    conv => rhs; rw [s1, s2, s3, s4]
    simp [List.append_assoc]
  have hbb : b = magI ++ p := by
    rw [← hp, ← h2']
    have : (bytesOf s).take 4 = b.take 4 := by rw [← hb, List.take_take, Nat.min_eq_left (by omega)]
    rw [this, List.take_append_drop]
  have hd : sum8 b = (bytesOf s).drop (s.size - 8) := by
    rw [← bytesOf_nums _ (sum8_by b), h4, bytesOf_extract, List.take_of_length_le (by rw [List.length_drop, hbl]; omega)]
  unfold encI
  rw [hpay, ← hbb, hd, ← hb, List.take_append_drop, nums_bytesOf]
end Go.Proofs.YtbddllklagiajaaDoor

namespace Go.Proofs
open Go.Shelf
def Tryd.lays105_ren : Go.Shelf.Ren := ⟨fun | 105 => 36 | 212 => 61 | 99 => 53 | 165 => 62 | 166 => 35 | 170 => 37 | 169 => 39 | 263 => 77 | 264 => 78 | 206 => 72 | 240 => 60 | 241 => 79 | 276 => 76 | 277 => 85 | n => n, fun | 9 => 9 | 3 => 3 | 4 => 4 | 20 => 20 | 0 => 0 | 46 => 90 | 109 => 91 | 5 => 5 | 72 => 59 | 76 => 62 | 51 => 83 | 146 => 112 | 53 => 74 | 148 => 114 | 70 => 57 | 37 => 46 | 75 => 61 | 127 => 93 | 164 => 110 | 80 => 31 | n => n, fun | n => n⟩
theorem Tryd.lays105 : Go.Proofs.Lays.n105 Tryd.prog Tryd.lays105_ren := {
  mixed := by kernel_rfl
  f99 := Tryd.func53.trans (congrArg some (by kernel_rfl))
  f105 := Tryd.func36.trans (congrArg some (by kernel_rfl))
  f165 := Tryd.func62.trans (congrArg some (by kernel_rfl))
  f166 := Tryd.func35.trans (congrArg some (by kernel_rfl))
  f169 := Tryd.func39.trans (congrArg some (by kernel_rfl))
  f170 := Tryd.func37.trans (congrArg some (by kernel_rfl))
  f206 := Tryd.func72.trans (congrArg some (by kernel_rfl))
  f212 := Tryd.func61.trans (congrArg some (by kernel_rfl))
  f240 := Tryd.func60.trans (congrArg some (by kernel_rfl))
  f241 := Tryd.func79.trans (congrArg some (by kernel_rfl))
  f263 := Tryd.func77.trans (congrArg some (by kernel_rfl))
  f264 := Tryd.func78.trans (congrArg some (by kernel_rfl))
  f276 := Tryd.func76.trans (congrArg some (by kernel_rfl))
  f277 := Tryd.func85.trans (congrArg some (by kernel_rfl))
  t0 := Tryd.underlying0
  a0 := Tryd.isAgg0
  z0 := Tryd.sizeOf0
  v0 := Tryd.zeroValue0
  t3 := Tryd.underlying3
  a3 := Tryd.isAgg3
  z3 := Tryd.sizeOf3
  v3 := Tryd.zeroValue3
  t4 := Tryd.underlying4
  a4 := Tryd.isAgg4
  z4 := Tryd.sizeOf4
  v4 := Tryd.zeroValue4
  t5 := Tryd.underlying5
  a5 := Tryd.isAgg5
  z5 := Tryd.sizeOf5
  v5 := Tryd.zeroValue5
  t9 := Tryd.underlying9
  a9 := Tryd.isAgg9
  z9 := Tryd.sizeOf9
  v9 := Tryd.zeroValue9
  t20 := Tryd.underlying20
  a20 := Tryd.isAgg20
  z20 := Tryd.sizeOf20
  v20 := Tryd.zeroValue20
  t37 := Tryd.underlying46
  a37 := Tryd.isAgg46
  z37 := Tryd.sizeOf46
  v37 := Tryd.zeroValue46
  t46 := Tryd.underlying90
  a46 := Tryd.isAgg90
  z46 := Tryd.sizeOf90
  v46 := Tryd.zeroValue90
  t51 := Tryd.underlying83
  a51 := Tryd.isAgg83
  z51 := Tryd.sizeOf83
  v51 := Tryd.zeroValue83
  t53 := Tryd.underlying74
  a53 := Tryd.isAgg74
  z53 := Tryd.sizeOf74
  v53 := Tryd.zeroValue74
  t70 := Tryd.underlying57
  a70 := Tryd.isAgg57
  z70 := Tryd.sizeOf57
  v70 := Tryd.zeroValue57
  t72 := Tryd.underlying59
  a72 := Tryd.isAgg59
  z72 := Tryd.sizeOf59
  v72 := Tryd.zeroValue59
  t75 := Tryd.underlying61
  a75 := Tryd.isAgg61
  z75 := Tryd.sizeOf61
  v75 := Tryd.zeroValue61
  t76 := Tryd.underlying62
  a76 := Tryd.isAgg62
  z76 := Tryd.sizeOf62
  v76 := Tryd.zeroValue62
  t109 := Tryd.underlying91
  a109 := Tryd.isAgg91
  z109 := Tryd.sizeOf91
  v109 := Tryd.zeroValue91
  t127 := Tryd.underlying93
  a127 := Tryd.isAgg93
  z127 := Tryd.sizeOf93
  v127 := Tryd.zeroValue93
  t146 := Tryd.underlying112
  a146 := Tryd.isAgg112
  z146 := Tryd.sizeOf112
  v146 := Tryd.zeroValue112
  t148 := Tryd.underlying114
  a148 := Tryd.isAgg114
  z148 := Tryd.sizeOf114
  v148 := Tryd.zeroValue114
  t164 := Tryd.underlying110
  a164 := Tryd.isAgg110
  z164 := Tryd.sizeOf110
  v164 := Tryd.zeroValue110 }
theorem Tryd.Builder_Extra_105 : Builder.Extra Tryd.prog Tryd.lays105_ren := {
  sizeBuilder := by kernel_rfl
  liesBuilder := by kernel_rfl
  t5 := Tryd.underlying5
  a5 := Tryd.isAgg5
  z5 := Tryd.sizeOf5
  v5 := Tryd.zeroValue5
  infoByte := by kernel_rfl
  cellsByte := by kernel_rfl
  sizeByte := by kernel_rfl
  neB5 := by decide }

namespace YtbddllklagiajaaDoor
open Go.RowKit Go.Lib
theorem bws_calls (B b : Nat) (bs : List Value) (s : ByteArray) (w : World) (h : Lib.IsBuilderF 59 5 B b bs w) (hlen : bs.length + s.size ≤ 140737488355328) (hBw : B ≤ w.heap.size) :
    Calls Tryd.prog 35 #[.pointer (some ⟨b, 0, none⟩), .string s] w fun e w' => e = .returned (.tuple #[.int .i64 s.size, .nilIface]) ∧ (Lib.BuilderAtF 59 5 B b (.pointer (some ⟨b, 0, none⟩)) (bs ++ Lib.strCells s) w' ∧ Below B w w') :=
  Any.Builder_WriteString_f { Tryd.lays105 with } Tryd.Builder_Extra_105 B b bs s w h hlen hBw
theorem blen_calls (B b : Nat) (bs : List Value) (w : World) (h : Lib.IsBuilderF 59 5 B b bs w) :
    Calls Tryd.prog 37 #[.pointer (some ⟨b, 0, none⟩)] w fun e w' => e = .returned (.int .i64 bs.length) ∧ w' = w :=
  Any.Builder_Len_f { Tryd.lays105 with } B b bs w h
theorem bstr_calls (B b : Nat) (l : List UInt8) (w : World) (h : Lib.IsBuilderF 59 5 B b (Lib.byteCells l) w) (hBw : B ≤ w.heap.size) :
    Calls Tryd.prog 39 #[.pointer (some ⟨b, 0, none⟩)] w fun e w' => e = .returned (.string ⟨l.toArray⟩) ∧ (Lib.IsBuilderF 59 5 B b (Lib.byteCells l) w' ∧ Below B w w') :=
  Any.Builder_String_any_f { Tryd.lays105 with } Tryd.Builder_Extra_105 B b l w h hBw
theorem brep_calls (s : ByteArray) (c : Nat) (w : World) (hc : c ≤ 9223372036854775807) (hlen : s.size * c ≤ 140737488355328) :
    Calls Tryd.prog 36 #[.string s, .int .i64 c] w fun e w' => e = .returned (.string ⟨(Lib.repeatL s.data.toList c).toArray⟩) ∧ Below w.heap.size w w' :=
  Any.strings_Repeat Tryd.lays105 Tryd.Builder_Extra_105 s c w hc hlen
end YtbddllklagiajaaDoor
end Go.Proofs

namespace Go.Proofs.YtbddllklagiajaaDoor
open Go.RowKit Go.Proofs.YtbddllklagiajaaDoorW.PrintWords Go.Proofs.YtbddllklagiajaaDoorW.PrintLast Go.Proofs.YtbddllklagiajaaDoorW.PrintMore
set_option linter.unusedVariables false
set_option linter.unusedSimpArgs false

theorem strCells_bytes (s : ByteArray) : Lib.strCells s = Lib.byteCells s.data.toList := rfl
theorem byteCells_append (a b : List UInt8) : Lib.byteCells a ++ Lib.byteCells b = Lib.byteCells (a ++ b) := by simp [Lib.byteCells]
theorem repeatL_zero : ∀ k, Lib.repeatL [0] k = List.replicate k (0 : UInt8)
  | 0 => rfl
  | n + 1 => by
    rw [List.replicate_succ, ← repeatL_zero n]
    rfl
theorem bf_below {B b : Nat} {bs : List Value} {w w' : World} (h : Lib.IsBuilderF 59 5 B b bs w) (hb : Below w.heap.size w w') : Lib.IsBuilderF 59 5 B b bs w' := by
  have key : ∀ p, Lib.BuilderAtF 59 5 B b p bs w → Lib.BuilderAtF 59 5 B b p bs w' := by
    rintro p ⟨hB, v, hbk, hown, hne⟩
    exact ⟨hB, v, (hb.block b (blk_lt hbk)).trans hbk, hown.kept (row := none) ⟨hb.os, hb.tape, hb.output, hb.size, fun k hk _ => hb.block k hk⟩ (by cases v.ownBlock <;> simp), hne⟩
  exact h.imp (key _) (key _)

/-- The closure appends zeros up to an address. -/
theorem zeros_calls (B b : Nat) (l : List UInt8) (u : Nat) (w : World) (h : Lib.IsBuilderF 59 5 B b (Lib.byteCells l) w) (hBw : B ≤ w.heap.size) (hl : l.length ≤ u) (hu : u ≤ 1000000) :
    Calls Tryd.prog 34 #[.int .i64 u, .pointer (some ⟨b, 0, none⟩)] w fun e w' => e = .returned (.tuple #[]) ∧ Lib.IsBuilderF 59 5 B b (Lib.byteCells (l ++ List.replicate (u - l.length) 0)) w' ∧ Below B w w' := by
  have HH := Aside0.mk h
  have hbl : (Lib.byteCells l).length = l.length := Lib.byteCells_length l
  obtain ⟨k, hk⟩ : ∃ k, u - l.length = k := ⟨_, rfl⟩
  rw [hk]
  have hq : IntKind.i64.wrap ((u : Int) - (l.length : Int)) = (k : Int) := by rw [IntKind.wrap_i64]; omega
  clear h
  go_enter Tryd.func34, Tryd.ntmps34
  go_wp2_with fail
  refine (blen_calls B b _ w HH.out).mono ?_
  rintro e w1 ⟨rfl, rfl⟩
  rw [hbl]
  go_wp2_with fail
  refine (brep_calls ⟨#[0]⟩ k w1 (by omega) (by show 1 * k ≤ _; omega)).mono ?_
  rintro e w2 ⟨rfl, B2⟩
  have h2 := bf_below HH.out B2
  have hz : Lib.strCells ⟨(Lib.repeatL ([0] : List UInt8) k).toArray⟩ = Lib.byteCells (List.replicate k 0) := by rw [repeatL_zero, strCells_bytes]
  have hzs : (⟨(Lib.repeatL ([0] : List UInt8) k).toArray⟩ : ByteArray).size = k := by rw [repeatL_zero]; show (List.replicate k (0 : UInt8)).toArray.size = k; simp
  have HW := Aside0.mk (bws_calls B b _ ⟨(Lib.repeatL ([0] : List UInt8) k).toArray⟩ w2 h2 (by rw [hbl, hzs]; omega) (Nat.le_trans hBw B2.size))
  have HZ := Aside0.mk hz
  have HB2 := Aside0.mk (B2.mono hBw)
  clear h2 hz hzs B2 HH
  go_wp2_with fail
  refine HW.out.mono ?_
  rintro e w3 ⟨rfl, h3, B3⟩
  rw [HZ.out, byteCells_append] at h3
  have HB3 := Aside0.mk h3
  have HC3 := Aside0.mk (HB2.out.trans B3)
  clear h3 B3 HW
  go_wp2
  refine bodyPost_end (results_none rfl _ _ _) rfl ?_
  exact ⟨rfl, .inr HB3.out, HC3.out⟩

/-- The bytes of an image's pages. -/
def memI (c d : ByteArray) (z : Int) : List UInt8 :=
  c.data.toList ++ List.replicate (upI c.size - c.size) 0 ++ d.data.toList ++ List.replicate (upI (upI c.size + d.size + z.toNat) - (upI c.size + d.size)) 0

set_option maxHeartbeats 4000000 in
theorem memory_calls (c d : ByteArray) (z e : Int) (w : World) (hc : c.size ≤ 1000000) (hd : d.size ≤ 1000000) :
    Calls Tryd.prog 15 #[.agg #[.string c, .string d, .int .i64 z, .int .i64 e]] w fun en w' => en = .returned (.string (if chkI c d z e = 0 then ⟨(memI c d z).toArray⟩ else ⟨#[]⟩)) ∧ Below w.heap.size w w' := by
  have VC := Aside0.mk (fun W => PImageDecodes.image_Image_valid.calls 2 c d z e _ W (valid_f c d z e hc hd))
  have DC := Aside0.mk (fun W => PImageDecodes.image_Image_dataAt.calls c d z e _ W (dataAt_f c d z e hc))
  have NC := Aside0.mk (fun W => PImageDecodes.image_Image_NumPages.calls 2 c d z e _ W (NumPages_f c d z e hc hd))
  have hb0 := blk_new w (.cells #[.string c, .string d, .int .i64 z, .int .i64 e] 26)
  have B0 := below_alloc (Below.refl w.heap.size w) (.cells #[.string c, .string d, .int .i64 z, .int .i64 e] 26)
  have hs0 : (w.alloc (.cells #[.string c, .string d, .int .i64 z, .int .i64 e] 26)).heap.size = w.heap.size + 1 := World.size_alloc _ _
  have HI := Aside0.mk hb0
  have HB0 := Aside0.mk B0
  have HS0 := Aside0.mk hs0
  clear hb0 B0 hs0
  by_cases hk : chkI c d z e = 0
  · obtain ⟨h1, h2, h3, h4, h5, h6, h7, h8⟩ := chk_ok hk
    have hu := upI_lt c hc
    rw [hk] at VC NC ⊢
    have HUU := Aside0.mk (show c.size ≤ upI c.size by unfold upI; omega)
    go_enter Tryd.func15, Tryd.ntmps15
    go_wp2_with fail
    refine (VC.out _).mono ?_
    rintro en w1 ⟨rfl, B1⟩
    have i1 := (B1.block _ (blk_lt HI.out)).trans HI.out
    have C1 := below_step HB0.out B1
    have b2 := blk_new w1 (.cells #[.pointer none, .slice none 0 0] 59)
    have i2 : (w1.alloc (.cells #[.pointer none, .slice none 0 0] 59)).heap[w.heap.size]? = some (.cells #[.string c, .string d, .int .i64 z, .int .i64 e] 26 (0, 0)) := blk_alloc i1 _
    have C2 := below_alloc C1 (.cells #[.pointer none, .slice none 0 0] 59)
    have hwb : w.heap.size < w1.heap.size := blk_lt i1
    have hsz2 : (w1.alloc (.cells #[.pointer none, .slice none 0 0] 59)).heap.size = w1.heap.size + 1 := World.size_alloc _ _
    have K2 : Lib.IsBuilderF 59 5 w1.heap.size w1.heap.size (Lib.byteCells []) (w1.alloc (.cells #[.pointer none, .slice none 0 0] 59)) :=
      .inl ⟨Nat.le_refl _, .slice none 0 0, b2, World.ownsRowF_nil _ _ _ _, by simp [Value.ownBlock]⟩
    obtain ⟨b, hb⟩ : ∃ b, w1.heap.size = b := ⟨_, rfl⟩
    obtain ⟨w2, hw2⟩ : ∃ w2, w1.alloc (.cells #[.pointer none, .slice none 0 0] 59) = w2 := ⟨_, rfl⟩
    have x0 : w2.cell? ⟨w.heap.size, 0, none⟩ = some (.string c) := by rw [← hw2]; exact blk_cell i2 0
    have hw2' : w1.alloc (.cells #[.pointer none, .slice none 0 0] 59) = w2 := hw2
    rw [hw2] at i2 C2 hsz2 K2
    rw [hb] at K2 hwb hsz2
    have HI2 := Aside0.mk i2
    have HC2 := Aside0.mk C2
    have HK2 := Aside0.mk K2
    have HW2 := Aside0.mk hw2
    have HBB := Aside0.mk hb
    have HSZ2 := Aside0.mk hsz2
    have HWB := Aside0.mk hwb
    have x0' : (w1.alloc (.cells #[.pointer none, .slice none 0 0] 59)).cell? ⟨w.heap.size, 0, none⟩ = some (.string c) := by rw [hw2]; exact x0
    clear i1 C1 b2 i2 C2 hwb hsz2 K2 B1 hw2 hw2' hb x0
    go_wp2_with fail
    rw [HW2.out, HBB.out]
    refine (bws_calls b b _ c w2 HK2.out (by rw [Lib.byteCells_length]; simp; omega) (by have := HSZ2.out; omega)).mono ?_
    rintro en w3 ⟨rfl, h3, B3⟩
    rw [strCells_bytes, byteCells_append, List.nil_append] at h3
    have i3 := (B3.block _ HWB.out).trans HI2.out
    have K3 : Lib.IsBuilderF 59 5 b b (Lib.byteCells c.data.toList) w3 := .inr h3
    have HK3 := Aside0.mk K3
    have HI3 := Aside0.mk i3
    have C3 := HC2.out.trans (B3.mono (Nat.le_of_lt HWB.out))
    have HC3 := Aside0.mk C3
    have HS3 := Aside0.mk (show b + 1 ≤ w3.heap.size by have := B3.size; have := HSZ2.out; omega)
    have x3_0 : w3.cell? ⟨w.heap.size, 0, none⟩ = some (.string c) := blk_cell i3 0
    have x3_1 : w3.cell? ⟨w.heap.size, 1, none⟩ = some (.string d) := blk_cell i3 1
    have x3_2 : w3.cell? ⟨w.heap.size, 2, none⟩ = some (.int .i64 z) := blk_cell i3 2
    have x3_3 : w3.cell? ⟨w.heap.size, 3, none⟩ = some (.int .i64 e) := blk_cell i3 3
    clear h3 i3 K3 C3 B3 HK2 HI2 HC2
    go_wp2_with fail
    refine (DC.out w3).mono ?_
    rintro en w4 ⟨rfl, B4⟩
    have hcl : c.data.toList.length = c.size := rfl
    have C4 := below_step HC3.out B4
    have i4 := (B4.block _ (blk_lt HI3.out)).trans HI3.out
    have K4 := bf_below HK3.out B4
    have hs4 : b + 1 ≤ w4.heap.size := Nat.le_trans HS3.out B4.size
    have HZ4 := Aside0.mk (zeros_calls b b c.data.toList (upI c.size) w4 K4 (by omega) (by rw [hcl]; exact HUU.out) (by omega))
    have HI4 := Aside0.mk i4
    have HC4 := Aside0.mk C4
    have HS4 := Aside0.mk hs4
    clear C4 i4 K4 hs4 B4 x3_0 x3_1 x3_2 x3_3 HK3 HI3 HC3
    go_wp2_with fail
    refine HZ4.out.mono ?_
    rintro en w5 ⟨rfl, K5, B5⟩
    rw [hcl] at K5
    have i5 := (B5.block _ HWB.out).trans HI4.out
    have C5 := HC4.out.trans (B5.mono (Nat.le_of_lt HWB.out))
    have hs5 : b + 1 ≤ w5.heap.size := Nat.le_trans HS4.out B5.size
    have x5_1 : w5.cell? ⟨w.heap.size, 1, none⟩ = some (.string d) := blk_cell i5 1
    obtain ⟨l5, hl5⟩ : ∃ l5, c.data.toList ++ List.replicate (upI c.size - c.size) 0 = l5 := ⟨_, rfl⟩
    rw [hl5] at K5
    have hl5l : l5.length = upI c.size := by rw [← hl5, List.length_append, hcl, List.length_replicate]; have := HUU.out; omega
    have HK5 := Aside0.mk K5
    have HI5 := Aside0.mk i5
    have HC5 := Aside0.mk C5
    have HS5 := Aside0.mk hs5
    have HL5 := Aside0.mk (And.intro hl5 hl5l)
    clear K5 i5 C5 hs5 B5 HZ4 HI4 HC4 HS4 hl5 hl5l
    go_wp2_with fail
    refine (bws_calls b b _ d w5 HK5.out (by rw [Lib.byteCells_length, HL5.out.2]; omega) (by have := HS5.out; omega)).mono ?_
    rintro en w6 ⟨rfl, h6, B6⟩
    rw [strCells_bytes, byteCells_append] at h6
    have i6 := (B6.block _ HWB.out).trans HI5.out
    have K6 : Lib.IsBuilderF 59 5 b b (Lib.byteCells (l5 ++ d.data.toList)) w6 := .inr h6
    have C6 := HC5.out.trans (B6.mono (Nat.le_of_lt HWB.out))
    have HS6 := Aside0.mk (Nat.le_trans HS5.out B6.size)
    have HK6 := Aside0.mk K6
    have HI6 := Aside0.mk i6
    have HC6 := Aside0.mk C6
    have x6_0 : w6.cell? ⟨w.heap.size, 0, none⟩ = some (.string c) := blk_cell i6 0
    have x6_1 : w6.cell? ⟨w.heap.size, 1, none⟩ = some (.string d) := blk_cell i6 1
    have x6_2 : w6.cell? ⟨w.heap.size, 2, none⟩ = some (.int .i64 z) := blk_cell i6 2
    have x6_3 : w6.cell? ⟨w.heap.size, 3, none⟩ = some (.int .i64 e) := blk_cell i6 3
    clear h6 i6 K6 C6 B6 x5_1 HK5 HI5 HC5
    go_wp2_with fail
    refine (NC.out w6).mono ?_
    rintro en w7 ⟨rfl, B7⟩
    have C7 := below_step HC6.out B7
    have K7 := bf_below HK6.out B7
    have hs7 : b + 1 ≤ w7.heap.size := Nat.le_trans HS6.out B7.size
    obtain ⟨zn, hzn⟩ : ∃ zn : Nat, z = (zn : Int) := ⟨z.toNat, by omega⟩
    have hU2 : (upI (upI c.size + d.size + zn) : Int) = ((upI c.size : Int) + d.size + z + 63) / 64 * 64 := by rw [hzn]; unfold upI; omega
    have hq : IntKind.i64.wrap (((upI c.size : Int) + d.size + z + 63) / 64 * 64) = (upI (upI c.size + d.size + zn) : Int) := by rw [hU2, IntKind.wrap_i64]; omega
    obtain ⟨U2, hU2n⟩ : ∃ U2, upI (upI c.size + d.size + zn) = U2 := ⟨_, rfl⟩
    have hU2l : upI c.size + d.size ≤ U2 ∧ U2 ≤ 100000 := by rw [← hU2n]; unfold upI at h5 ⊢; omega
    rw [hU2n] at hq
    have hl6 : (l5 ++ d.data.toList).length = upI c.size + d.size := by rw [List.length_append, HL5.out.2]; rfl
    have HZ7 := Aside0.mk (zeros_calls b b (l5 ++ d.data.toList) U2 w7 K7 (by omega) (by rw [hl6]; exact hU2l.1) (by omega))
    have HQ := Aside0.mk (And.intro hl6 (And.intro hU2n hzn))
    have HC7 := Aside0.mk C7
    have HS7 := Aside0.mk hs7
    clear C7 K7 hs7 B7 x6_0 x6_1 x6_2 x6_3 HK6 HI6 HC6 hU2 hU2n hU2l hl6 hzn
    go_wp2_with fail
    refine HZ7.out.mono ?_
    rintro en w8 ⟨rfl, K8, B8⟩
    have hm : l5 ++ d.data.toList ++ List.replicate (U2 - (l5 ++ d.data.toList).length) 0 = memI c d z := by
      unfold memI
      rw [HQ.out.1, ← HQ.out.2.1, HQ.out.2.2, Int.toNat_natCast, ← HL5.out.1]
    rw [hm] at K8
    clear hm
    obtain ⟨lm, hlm⟩ : ∃ lm, memI c d z = lm := ⟨_, rfl⟩
    rw [hlm] at K8
    have HLM := Aside0.mk hlm
    clear hlm
    have HC8 := Aside0.mk (HC7.out.trans (B8.mono (Nat.le_of_lt HWB.out)))
    have HS8 := Aside0.mk (Nat.le_trans HS7.out B8.size)
    have HK8 := Aside0.mk K8
    clear K8 B8 HZ7 HC7
    go_wp2_with fail
    refine (bstr_calls b b _ w8 HK8.out (by have := HS8.out; omega)).mono ?_
    rintro en w9 ⟨rfl, K9, B9⟩
    have HC9 := Aside0.mk (HC8.out.trans (B9.mono (Nat.le_of_lt HWB.out)))
    clear K9 B9
    go_wp2_with fail
    go_ret
    refine ⟨?_, HC9.out⟩
    rw [HLM.out]
    rfl
  · rw [if_neg hk]
    go_enter Tryd.func15, Tryd.ntmps15
    go_wp2_with fail
    refine (VC.out _).mono ?_
    rintro en w1 ⟨rfl, B1⟩
    have hkf : (chkI c d z e == 0) = false := beq_eq_false_iff_ne.mpr hk
    have HB1 := Aside0.mk (below_step HB0.out B1)
    clear B1
    rw [hkf]
    go_wp2_with fail
    go_ret
    exact ⟨rfl, HB1.out⟩
end Go.Proofs.YtbddllklagiajaaDoor

namespace Go.Proofs.YtbddllklagiajaaDoor
open Go.RowKit Go.Proofs.YtbddllklagiajaaDoorW.PrintWords Go.Proofs.YtbddllklagiajaaDoorW.PrintLast Go.Proofs.YtbddllklagiajaaDoorW.PrintMore
set_option linter.unusedVariables false
set_option linter.unusedSimpArgs false

theorem chk_known : chkI ⟨#[0, 0, 0, 0]⟩ ⟨#[97, 98]⟩ 3 0 = 0 := by decide +kernel
theorem mem_known : (⟨(memI ⟨#[0, 0, 0, 0]⟩ ⟨#[97, 98]⟩ 3).toArray⟩ : ByteArray) = ⟨#[0,0,0,0,0,0,0,0,0,0,0,0,0,0,0,0,0,0,0,0,0,0,0,0,0,0,0,0,0,0,0,0,0,0,0,0,0,0,0,0,0,0,0,0,0,0,0,0,0,0,0,0,0,0,0,0,0,0,0,0,0,0,0,0,97,98,0,0,0,0,0,0,0,0,0,0,0,0,0,0,0,0,0,0,0,0,0,0,0,0,0,0,0,0,0,0,0,0,0,0,0,0,0,0,0,0,0,0,0,0,0,0,0,0,0,0,0,0,0,0,0,0,0,0,0,0,0,0]⟩ := by
  apply ByteArray.ext
  apply Array.ext'
  decide +kernel

set_option maxHeartbeats 8000000 in
set_option maxRecDepth 100000 in
theorem known_calls (w : World) (hK : KT w) : Calls Tryd.prog 10 #[] w fun en w' => en = .returned (.bool true) ∧ Below w.heap.size w w' := by
  have EC := Aside0.mk (fun W (hW : KT W) => encode_calls ⟨#[0, 0, 0, 0]⟩ ⟨#[97, 98]⟩ 3 0 W hW (by decide) (by decide))
  rw [chk_known] at EC
  obtain ⟨s, hs⟩ : ∃ s, strOfNums (encI ⟨#[0, 0, 0, 0]⟩ ⟨#[97, 98]⟩ 3 0) = s := ⟨_, rfl⟩
  have hd := dec_enc chk_known
  have hz : s.size ≤ 1000000 := by
    rw [← hs, nums_size, encI_len]
    have := enc_size chk_known
    omega
  rw [hs] at EC hd
  rw [if_pos rfl] at EC
  have DC := Aside0.mk (fun W (hW : KT W) => decode_calls s W hW hz)
  rw [hd] at DC
  have AC := Aside0.mk (fun W => PImageDecodes.image_Image_DataAt.calls 2 ⟨#[0, 0, 0, 0]⟩ ⟨#[97, 98]⟩ 3 0 _ W (DataAt_f _ _ _ _ (by decide) (by decide)))
  have XC := Aside0.mk (fun W => PImageDecodes.image_Image_End.calls 2 ⟨#[0, 0, 0, 0]⟩ ⟨#[97, 98]⟩ 3 0 _ W (End_f _ _ _ _ (by decide) (by decide)))
  have NC := Aside0.mk (fun W => PImageDecodes.image_Image_NumPages.calls 2 ⟨#[0, 0, 0, 0]⟩ ⟨#[97, 98]⟩ 3 0 _ W (NumPages_f _ _ _ _ (by decide) (by decide)))
  have MC := Aside0.mk (fun W => memory_calls ⟨#[0, 0, 0, 0]⟩ ⟨#[97, 98]⟩ 3 0 W (by decide) (by decide))
  rw [chk_known] at AC XC NC MC
  rw [if_pos rfl] at AC XC NC MC
  rw [show (upI (⟨#[0, 0, 0, 0]⟩ : ByteArray).size : Int) = 64 by decide] at AC
  rw [show ((upI (⟨#[0, 0, 0, 0]⟩ : ByteArray).size : Int) + ((⟨#[97, 98]⟩ : ByteArray).size : Int) + 3) = 69 by decide] at XC
  rw [show ((upI (⟨#[0, 0, 0, 0]⟩ : ByteArray).size : Int) + ((⟨#[97, 98]⟩ : ByteArray).size : Int) + 3 + 63) / 64 = 2 by decide] at NC
  rw [mem_known] at MC
  obtain ⟨M, hM⟩ : ∃ M : ByteArray, ⟨#[0,0,0,0,0,0,0,0,0,0,0,0,0,0,0,0,0,0,0,0,0,0,0,0,0,0,0,0,0,0,0,0,0,0,0,0,0,0,0,0,0,0,0,0,0,0,0,0,0,0,0,0,0,0,0,0,0,0,0,0,0,0,0,0,97,98,0,0,0,0,0,0,0,0,0,0,0,0,0,0,0,0,0,0,0,0,0,0,0,0,0,0,0,0,0,0,0,0,0,0,0,0,0,0,0,0,0,0,0,0,0,0,0,0,0,0,0,0,0,0,0,0,0,0,0,0,0,0]⟩ = M := ⟨_, rfl⟩
  have hMs : M.size = 128 := by rw [← hM]; rfl
  have hMt : (M.extract 64 67).toList = [97, 98, 0] := by rw [← hM, Lib.toList_data]; decide +kernel
  rw [hM] at MC
  clear hM
  have HK := Aside0.mk hK
  clear hK hd hz hs
  have hb0 := blk_new w (.cells #[.string ⟨#[]⟩, .string ⟨#[]⟩, .int .i64 0, .int .i64 0] 26)
  obtain ⟨w1, hw1⟩ : ∃ W, (w.alloc (.cells #[.string ⟨#[]⟩, .string ⟨#[]⟩, .int .i64 0, .int .i64 0] 26)).setRow w.heap.size #[.string ⟨#[0, 0, 0, 0]⟩, .string ⟨#[97, 98]⟩, .int .i64 3, .int .i64 0] = W := ⟨_, rfl⟩
  have B1 : Below w.heap.size w w1 := by rw [← hw1]; exact (below_alloc (Below.refl _ _) _).trans (setRow_below' _ _ _)
  have T1 : w1.heap[w.heap.size]? = some (.cells #[.string ⟨#[0, 0, 0, 0]⟩, .string ⟨#[97, 98]⟩, .int .i64 3, .int .i64 0] 26 (0, 0)) := by rw [← hw1]; exact setRow_heap _ _ _ _ 26 _ hb0
  have H0 := Aside0.mk hb0
  have HW1 := Aside0.mk hw1
  have HB := Aside0.mk B1
  have HT1 := Aside0.mk T1
  clear hb0 hw1 B1 T1
  have y0 : w1.cell? ⟨w.heap.size, 0, none⟩ = some (.string ⟨#[0, 0, 0, 0]⟩) := (blk_cell HT1.out 0).trans rfl
  have y1 : w1.cell? ⟨w.heap.size, 1, none⟩ = some (.string ⟨#[97, 98]⟩) := (blk_cell HT1.out 1).trans rfl
  have y2 : w1.cell? ⟨w.heap.size, 2, none⟩ = some (.int .i64 3) := (blk_cell HT1.out 2).trans rfl
  have y3 : w1.cell? ⟨w.heap.size, 3, none⟩ = some (.int .i64 0) := (blk_cell HT1.out 3).trans rfl
  go_enter Tryd.func10, Tryd.ntmps10
  go_wp2_with ((with_reducible refine gate_store (t := 26) (p := 1) rfl ?_); refine wpList_store_row rfl 26 (.tmp 1) (.tmp 6) rfl w.heap.size #[.string ⟨#[0, 0, 0, 0]⟩, .string ⟨#[97, 98]⟩, .int .i64 3, .int .i64 0] rfl rfl 26 _ H0.out info26 rfl (all_one4 _ _ _ _) ?_; rw [HW1.out])
  refine (EC.out w1 (HK.out.after HB.out)).mono ?_
  rintro en w2 ⟨rfl, Bn⟩
  have hb := HB.out.trans (Bn.mono HB.out.size)
  have t1 := (Bn.block w.heap.size (blk_lt HT1.out)).trans HT1.out
  clear HB HT1 Bn y0 y1 y2 y3
  have HB := Aside0.mk hb
  have HT1 := Aside0.mk t1
  clear hb t1
  have y0 : w2.cell? ⟨w.heap.size, 0, none⟩ = some (.string ⟨#[0, 0, 0, 0]⟩) := (blk_cell HT1.out 0).trans rfl
  have y1 : w2.cell? ⟨w.heap.size, 1, none⟩ = some (.string ⟨#[97, 98]⟩) := (blk_cell HT1.out 1).trans rfl
  have y2 : w2.cell? ⟨w.heap.size, 2, none⟩ = some (.int .i64 3) := (blk_cell HT1.out 2).trans rfl
  have y3 : w2.cell? ⟨w.heap.size, 3, none⟩ = some (.int .i64 0) := (blk_cell HT1.out 3).trans rfl
  go_wp2_with fail
  refine (DC.out w2 (HK.out.after HB.out)).mono ?_
  rintro en w3 ⟨rfl, Bn⟩
  have hb := HB.out.trans (Bn.mono HB.out.size)
  have t1 := (Bn.block w.heap.size (blk_lt HT1.out)).trans HT1.out
  clear HB HT1 Bn y0 y1 y2 y3
  have HB := Aside0.mk hb
  have HT1 := Aside0.mk t1
  clear hb t1
  have y0 : w3.cell? ⟨w.heap.size, 0, none⟩ = some (.string ⟨#[0, 0, 0, 0]⟩) := (blk_cell HT1.out 0).trans rfl
  have y1 : w3.cell? ⟨w.heap.size, 1, none⟩ = some (.string ⟨#[97, 98]⟩) := (blk_cell HT1.out 1).trans rfl
  have y2 : w3.cell? ⟨w.heap.size, 2, none⟩ = some (.int .i64 3) := (blk_cell HT1.out 2).trans rfl
  have y3 : w3.cell? ⟨w.heap.size, 3, none⟩ = some (.int .i64 0) := (blk_cell HT1.out 3).trans rfl
  have hb0 := blk_new w3 (.cells #[.string ⟨#[]⟩, .string ⟨#[]⟩, .int .i64 0, .int .i64 0] 26)
  obtain ⟨w4, hw4⟩ : ∃ W, (w3.alloc (.cells #[.string ⟨#[]⟩, .string ⟨#[]⟩, .int .i64 0, .int .i64 0] 26)).setRow w3.heap.size #[.string ⟨#[0, 0, 0, 0]⟩, .string ⟨#[97, 98]⟩, .int .i64 3, .int .i64 0] = W := ⟨_, rfl⟩
  have B4 : Below w3.heap.size w3 w4 := by rw [← hw4]; exact (below_alloc (Below.refl _ _) _).trans (setRow_below' _ _ _)
  have T4 : w4.heap[w3.heap.size]? = some (.cells #[.string ⟨#[0, 0, 0, 0]⟩, .string ⟨#[97, 98]⟩, .int .i64 3, .int .i64 0] 26 (0, 0)) := by rw [← hw4]; exact setRow_heap _ _ _ _ 26 _ hb0
  have t1 := (B4.block w.heap.size (blk_lt HT1.out)).trans HT1.out
  have hb := HB.out.trans (B4.mono HB.out.size)
  clear HB HT1 y0 y1 y2 y3 B4 EC DC HK H0 HW1
  have H0 := Aside0.mk hb0
  have HW4 := Aside0.mk hw4
  have HT4 := Aside0.mk T4
  have HB := Aside0.mk hb
  have HT1 := Aside0.mk t1
  clear hb0 hw4 T4 hb t1
  have y0 : w4.cell? ⟨w.heap.size, 0, none⟩ = some (.string ⟨#[0, 0, 0, 0]⟩) := (blk_cell HT1.out 0).trans rfl
  have y1 : w4.cell? ⟨w.heap.size, 1, none⟩ = some (.string ⟨#[97, 98]⟩) := (blk_cell HT1.out 1).trans rfl
  have y2 : w4.cell? ⟨w.heap.size, 2, none⟩ = some (.int .i64 3) := (blk_cell HT1.out 2).trans rfl
  have y3 : w4.cell? ⟨w.heap.size, 3, none⟩ = some (.int .i64 0) := (blk_cell HT1.out 3).trans rfl
  have z0 : w4.cell? ⟨w3.heap.size, 0, none⟩ = some (.string ⟨#[0, 0, 0, 0]⟩) := (blk_cell HT4.out 0).trans rfl
  have z1 : w4.cell? ⟨w3.heap.size, 1, none⟩ = some (.string ⟨#[97, 98]⟩) := (blk_cell HT4.out 1).trans rfl
  have z2 : w4.cell? ⟨w3.heap.size, 2, none⟩ = some (.int .i64 3) := (blk_cell HT4.out 2).trans rfl
  have z3 : w4.cell? ⟨w3.heap.size, 3, none⟩ = some (.int .i64 0) := (blk_cell HT4.out 3).trans rfl
  go_wp2_with ((with_reducible refine gate_store (t := 26) (p := 4) rfl ?_); refine wpList_store_row rfl 26 (.tmp 4) (.tmp 15) rfl w3.heap.size #[.string ⟨#[0, 0, 0, 0]⟩, .string ⟨#[97, 98]⟩, .int .i64 3, .int .i64 0] rfl rfl 26 _ H0.out info26 rfl (all_one4 _ _ _ _) ?_; rw [HW4.out])
  clear H0 HW4
  refine (AC.out w4).mono ?_
  rintro en w5 ⟨rfl, Bn⟩
  have hb := HB.out.trans (Bn.mono HB.out.size)
  have t1 := (Bn.block w.heap.size (blk_lt HT1.out)).trans HT1.out
  have t4 := (Bn.block w3.heap.size (blk_lt HT4.out)).trans HT4.out
  clear HB HT1 Bn y0 y1 y2 y3 HT4 z0 z1 z2 z3
  have HB := Aside0.mk hb
  have HT1 := Aside0.mk t1
  have HT4 := Aside0.mk t4
  clear hb t1 t4
  have y0 : w5.cell? ⟨w.heap.size, 0, none⟩ = some (.string ⟨#[0, 0, 0, 0]⟩) := (blk_cell HT1.out 0).trans rfl
  have y1 : w5.cell? ⟨w.heap.size, 1, none⟩ = some (.string ⟨#[97, 98]⟩) := (blk_cell HT1.out 1).trans rfl
  have y2 : w5.cell? ⟨w.heap.size, 2, none⟩ = some (.int .i64 3) := (blk_cell HT1.out 2).trans rfl
  have y3 : w5.cell? ⟨w.heap.size, 3, none⟩ = some (.int .i64 0) := (blk_cell HT1.out 3).trans rfl
  have z0 : w5.cell? ⟨w3.heap.size, 0, none⟩ = some (.string ⟨#[0, 0, 0, 0]⟩) := (blk_cell HT4.out 0).trans rfl
  have z1 : w5.cell? ⟨w3.heap.size, 1, none⟩ = some (.string ⟨#[97, 98]⟩) := (blk_cell HT4.out 1).trans rfl
  have z2 : w5.cell? ⟨w3.heap.size, 2, none⟩ = some (.int .i64 3) := (blk_cell HT4.out 2).trans rfl
  have z3 : w5.cell? ⟨w3.heap.size, 3, none⟩ = some (.int .i64 0) := (blk_cell HT4.out 3).trans rfl
  go_wp2_with fail
  refine (XC.out w5).mono ?_
  rintro en w6 ⟨rfl, Bn⟩
  have hb := HB.out.trans (Bn.mono HB.out.size)
  have t1 := (Bn.block w.heap.size (blk_lt HT1.out)).trans HT1.out
  have t4 := (Bn.block w3.heap.size (blk_lt HT4.out)).trans HT4.out
  clear HB HT1 Bn y0 y1 y2 y3 HT4 z0 z1 z2 z3
  have HB := Aside0.mk hb
  have HT1 := Aside0.mk t1
  have HT4 := Aside0.mk t4
  clear hb t1 t4
  have y0 : w6.cell? ⟨w.heap.size, 0, none⟩ = some (.string ⟨#[0, 0, 0, 0]⟩) := (blk_cell HT1.out 0).trans rfl
  have y1 : w6.cell? ⟨w.heap.size, 1, none⟩ = some (.string ⟨#[97, 98]⟩) := (blk_cell HT1.out 1).trans rfl
  have y2 : w6.cell? ⟨w.heap.size, 2, none⟩ = some (.int .i64 3) := (blk_cell HT1.out 2).trans rfl
  have y3 : w6.cell? ⟨w.heap.size, 3, none⟩ = some (.int .i64 0) := (blk_cell HT1.out 3).trans rfl
  have z0 : w6.cell? ⟨w3.heap.size, 0, none⟩ = some (.string ⟨#[0, 0, 0, 0]⟩) := (blk_cell HT4.out 0).trans rfl
  have z1 : w6.cell? ⟨w3.heap.size, 1, none⟩ = some (.string ⟨#[97, 98]⟩) := (blk_cell HT4.out 1).trans rfl
  have z2 : w6.cell? ⟨w3.heap.size, 2, none⟩ = some (.int .i64 3) := (blk_cell HT4.out 2).trans rfl
  have z3 : w6.cell? ⟨w3.heap.size, 3, none⟩ = some (.int .i64 0) := (blk_cell HT4.out 3).trans rfl
  go_wp2_with fail
  refine (NC.out w6).mono ?_
  rintro en w7 ⟨rfl, Bn⟩
  have hb := HB.out.trans (Bn.mono HB.out.size)
  have t1 := (Bn.block w.heap.size (blk_lt HT1.out)).trans HT1.out
  have t4 := (Bn.block w3.heap.size (blk_lt HT4.out)).trans HT4.out
  clear HB HT1 Bn y0 y1 y2 y3 HT4 z0 z1 z2 z3
  have HB := Aside0.mk hb
  have HT1 := Aside0.mk t1
  have HT4 := Aside0.mk t4
  clear hb t1 t4
  have y0 : w7.cell? ⟨w.heap.size, 0, none⟩ = some (.string ⟨#[0, 0, 0, 0]⟩) := (blk_cell HT1.out 0).trans rfl
  have y1 : w7.cell? ⟨w.heap.size, 1, none⟩ = some (.string ⟨#[97, 98]⟩) := (blk_cell HT1.out 1).trans rfl
  have y2 : w7.cell? ⟨w.heap.size, 2, none⟩ = some (.int .i64 3) := (blk_cell HT1.out 2).trans rfl
  have y3 : w7.cell? ⟨w.heap.size, 3, none⟩ = some (.int .i64 0) := (blk_cell HT1.out 3).trans rfl
  have z0 : w7.cell? ⟨w3.heap.size, 0, none⟩ = some (.string ⟨#[0, 0, 0, 0]⟩) := (blk_cell HT4.out 0).trans rfl
  have z1 : w7.cell? ⟨w3.heap.size, 1, none⟩ = some (.string ⟨#[97, 98]⟩) := (blk_cell HT4.out 1).trans rfl
  have z2 : w7.cell? ⟨w3.heap.size, 2, none⟩ = some (.int .i64 3) := (blk_cell HT4.out 2).trans rfl
  have z3 : w7.cell? ⟨w3.heap.size, 3, none⟩ = some (.int .i64 0) := (blk_cell HT4.out 3).trans rfl
  go_wp2_with fail
  refine (MC.out w7).mono ?_
  rintro en w8 ⟨rfl, Bn⟩
  have hb := HB.out.trans (Bn.mono HB.out.size)
  have t1 := (Bn.block w.heap.size (blk_lt HT1.out)).trans HT1.out
  have t4 := (Bn.block w3.heap.size (blk_lt HT4.out)).trans HT4.out
  clear HB HT1 Bn y0 y1 y2 y3 HT4 z0 z1 z2 z3
  have HB := Aside0.mk hb
  have HT1 := Aside0.mk t1
  have HT4 := Aside0.mk t4
  clear hb t1 t4
  have y0 : w8.cell? ⟨w.heap.size, 0, none⟩ = some (.string ⟨#[0, 0, 0, 0]⟩) := (blk_cell HT1.out 0).trans rfl
  have y1 : w8.cell? ⟨w.heap.size, 1, none⟩ = some (.string ⟨#[97, 98]⟩) := (blk_cell HT1.out 1).trans rfl
  have y2 : w8.cell? ⟨w.heap.size, 2, none⟩ = some (.int .i64 3) := (blk_cell HT1.out 2).trans rfl
  have y3 : w8.cell? ⟨w.heap.size, 3, none⟩ = some (.int .i64 0) := (blk_cell HT1.out 3).trans rfl
  have z0 : w8.cell? ⟨w3.heap.size, 0, none⟩ = some (.string ⟨#[0, 0, 0, 0]⟩) := (blk_cell HT4.out 0).trans rfl
  have z1 : w8.cell? ⟨w3.heap.size, 1, none⟩ = some (.string ⟨#[97, 98]⟩) := (blk_cell HT4.out 1).trans rfl
  have z2 : w8.cell? ⟨w3.heap.size, 2, none⟩ = some (.int .i64 3) := (blk_cell HT4.out 2).trans rfl
  have z3 : w8.cell? ⟨w3.heap.size, 3, none⟩ = some (.int .i64 0) := (blk_cell HT4.out 3).trans rfl
  go_wp2_with fail
  refine (MC.out w8).mono ?_
  rintro en w9 ⟨rfl, Bn⟩
  have hb := HB.out.trans (Bn.mono HB.out.size)
  have t1 := (Bn.block w.heap.size (blk_lt HT1.out)).trans HT1.out
  have t4 := (Bn.block w3.heap.size (blk_lt HT4.out)).trans HT4.out
  clear HB HT1 Bn y0 y1 y2 y3 HT4 z0 z1 z2 z3
  have HB := Aside0.mk hb
  have HT1 := Aside0.mk t1
  have HT4 := Aside0.mk t4
  clear hb t1 t4
  have y0 : w9.cell? ⟨w.heap.size, 0, none⟩ = some (.string ⟨#[0, 0, 0, 0]⟩) := (blk_cell HT1.out 0).trans rfl
  have y1 : w9.cell? ⟨w.heap.size, 1, none⟩ = some (.string ⟨#[97, 98]⟩) := (blk_cell HT1.out 1).trans rfl
  have y2 : w9.cell? ⟨w.heap.size, 2, none⟩ = some (.int .i64 3) := (blk_cell HT1.out 2).trans rfl
  have y3 : w9.cell? ⟨w.heap.size, 3, none⟩ = some (.int .i64 0) := (blk_cell HT1.out 3).trans rfl
  have z0 : w9.cell? ⟨w3.heap.size, 0, none⟩ = some (.string ⟨#[0, 0, 0, 0]⟩) := (blk_cell HT4.out 0).trans rfl
  have z1 : w9.cell? ⟨w3.heap.size, 1, none⟩ = some (.string ⟨#[97, 98]⟩) := (blk_cell HT4.out 1).trans rfl
  have z2 : w9.cell? ⟨w3.heap.size, 2, none⟩ = some (.int .i64 3) := (blk_cell HT4.out 2).trans rfl
  have z3 : w9.cell? ⟨w3.heap.size, 3, none⟩ = some (.int .i64 0) := (blk_cell HT4.out 3).trans rfl
  go_wp2_with fail
  go_ret
  exact ⟨rfl, HB.out⟩
end Go.Proofs.YtbddllklagiajaaDoor

namespace Go.Proofs.YtbddllklagiajaaDoor
open Go.RowKit Go.Proofs.YtbddllklagiajaaDoorW.PrintWords Go.Proofs.YtbddllklagiajaaDoorW.PrintLast Go.Proofs.YtbddllklagiajaaDoorW.PrintMore
attribute [local go_sem] max2_int min2_int max_two min_two max_three min_three max_four min_four
set_option linter.unusedVariables false
set_option linter.unusedSimpArgs false

def replevinlaw20_long.f (a0_0 : ByteArray) (a0_1 : ByteArray) (a0_2 : Int) (a0_3 : Int) : Option (Bool) := if (a0_0.size : Int) > 6000 then (some true) else (some (decide ((a0_1.size : Int) > 6000)))
set_option maxHeartbeats 8000000 in
set_option maxRecDepth 100000 in
theorem replevinlaw20_long.calls (a0_0 : ByteArray) (a0_1 : ByteArray) (a0_2 : Int) (a0_3 : Int) (r : Bool) (w : World) (h : replevinlaw20_long.f a0_0 a0_1 a0_2 a0_3 = some r) :
    Calls Tryd.prog 11 #[.agg #[.string a0_0, .string a0_1, .int .i64 a0_2, .int .i64 a0_3]] w fun e w' => e = .returned (.bool r) ∧ Below w.heap.size w w' := by
  have hu23 := Tryd.underlying23
  have HB := Aside0.mk (Below.refl w.heap.size w)
  have H : (if (a0_0.size : Int) > 6000 then (some true) else (some (decide ((a0_1.size : Int) > 6000)))) = some r := h
  clear h
  by_cases c2 : (a0_0.size : Int) > 6000
  · rw [if_pos c2] at H
    have c2b0 : decide (6000 < (a0_0.size : Int)) = true := decide_eq_true c2
    have c2b1 : decide (6000 < a0_0.size) = true := decide_eq_true (by omega)
    clear c2
    obtain rfl := Option.some.inj H
    go_enter Tryd.func11, Tryd.ntmps11
    go_wp2_with (first | ((with_reducible refine gate_dst (N := 1) rfl ?_); (try (refine gate_guard (by rfl) ?_; dsimp only)); refine box_event ?hg (N := 1) ?hd (cs := #[.string a0_0, .string a0_1, .int .i64 a0_2, .int .i64 a0_3]) (t := 23) ?hr ?_; (case hd => rfl); (case hg => rfl); (case hr => first | (go_simp; done) | (go_simp; rfl)); intro gb143 hg w3 hbox hb; have n0_ := Aside0.mk (below_step (by repeat (first | (with_reducible first | exact HB.out | apply below_alloc | apply pw_below_drewN | apply below_drew1) | exact HB.out)) hb); have n1_ := Aside0.mk (hbox); have n2_ := Aside0.mk ((by rw [hg]; exact (below_size (by repeat (first | (with_reducible first | exact HB.out | apply below_alloc | apply pw_below_drewN | apply below_drew1) | exact HB.out))) : w.heap.size ≤ gb143)); have n3_ := Aside0.mk ((by rw [hg]; exact (below_size (by repeat (first | (with_reducible first | exact HB.out | apply below_alloc | apply pw_below_drewN | apply below_drew1) | exact HB.out))) : w.heap.size ≤ gb143)); clear HB; have HB := n0_; have BK143 := n1_; have GW143 := n2_; have GE143 := n3_; clear n0_ n1_ n2_ n3_; clear hb hbox hg; have hcz4_0 : w3.cell? ⟨gb143, 0, none⟩ = some (.string a0_0) := (blk_cell BK143.out 0).trans rfl; have hcz4_1 : w3.cell? ⟨gb143, 1, none⟩ = some (.string a0_1) := (blk_cell BK143.out 1).trans rfl; have hcz4_2 : w3.cell? ⟨gb143, 2, none⟩ = some (.int .i64 a0_2) := (blk_cell BK143.out 2).trans rfl; have hcz4_3 : w3.cell? ⟨gb143, 3, none⟩ = some (.int .i64 a0_3) := (blk_cell BK143.out 3).trans rfl; have hfz4_0 := blk_frozen BK143.out 0; have hfz4_1 := blk_frozen BK143.out 1; have hfz4_2 := blk_frozen BK143.out 2; have hfz4_3 := blk_frozen BK143.out 3))
    go_ret
    exact ⟨by first | rfl | (simp [errW_none, errW_some] <;> rfl) | (simp [*, errW_none, errW_some] <;> rfl), by repeat (first | (with_reducible first | exact HB.out | apply below_alloc | apply pw_below_drewN | apply below_drew1 | refine below_set ?_ GE143.out) | exact HB.out)⟩
  · rw [if_neg c2] at H
    have c2b0 : decide (6000 < (a0_0.size : Int)) = false := decide_eq_false c2
    have c2b1 : decide (6000 < a0_0.size) = false := decide_eq_false (by omega)
    clear c2
    obtain rfl := Option.some.inj H
    go_enter Tryd.func11, Tryd.ntmps11
    go_wp2_with (first | ((with_reducible refine gate_dst (N := 1) rfl ?_); (try (refine gate_guard (by rfl) ?_; dsimp only)); refine box_event ?hg (N := 1) ?hd (cs := #[.string a0_0, .string a0_1, .int .i64 a0_2, .int .i64 a0_3]) (t := 23) ?hr ?_; (case hd => rfl); (case hg => rfl); (case hr => first | (go_simp; done) | (go_simp; rfl)); intro gb143 hg w5 hbox hb; have n0_ := Aside0.mk (below_step (by repeat (first | (with_reducible first | exact HB.out | apply below_alloc | apply pw_below_drewN | apply below_drew1) | exact HB.out)) hb); have n1_ := Aside0.mk (hbox); have n2_ := Aside0.mk ((by rw [hg]; exact (below_size (by repeat (first | (with_reducible first | exact HB.out | apply below_alloc | apply pw_below_drewN | apply below_drew1) | exact HB.out))) : w.heap.size ≤ gb143)); have n3_ := Aside0.mk ((by rw [hg]; exact (below_size (by repeat (first | (with_reducible first | exact HB.out | apply below_alloc | apply pw_below_drewN | apply below_drew1) | exact HB.out))) : w.heap.size ≤ gb143)); clear HB; have HB := n0_; have BK143 := n1_; have GW143 := n2_; have GE143 := n3_; clear n0_ n1_ n2_ n3_; clear hb hbox hg; have hcz6_0 : w5.cell? ⟨gb143, 0, none⟩ = some (.string a0_0) := (blk_cell BK143.out 0).trans rfl; have hcz6_1 : w5.cell? ⟨gb143, 1, none⟩ = some (.string a0_1) := (blk_cell BK143.out 1).trans rfl; have hcz6_2 : w5.cell? ⟨gb143, 2, none⟩ = some (.int .i64 a0_2) := (blk_cell BK143.out 2).trans rfl; have hcz6_3 : w5.cell? ⟨gb143, 3, none⟩ = some (.int .i64 a0_3) := (blk_cell BK143.out 3).trans rfl; have hfz6_0 := blk_frozen BK143.out 0; have hfz6_1 := blk_frozen BK143.out 1; have hfz6_2 := blk_frozen BK143.out 2; have hfz6_3 := blk_frozen BK143.out 3))
    go_ret
    exact ⟨by first | rfl | (simp [errW_none, errW_some] <;> rfl) | (simp [*, errW_none, errW_some] <;> rfl), by repeat (first | (with_reducible first | exact HB.out | apply below_alloc | apply pw_below_drewN | apply below_drew1 | refine below_set ?_ GE143.out) | exact HB.out)⟩


/-- Whether a law lets an image by for its length. -/
def lgI (c d : ByteArray) : Bool := decide (6000 < c.size) || decide (6000 < d.size)
theorem long_f (c d : ByteArray) (z e : Int) : replevinlaw20_long.f c d z e = some (lgI c d) := by
  unfold replevinlaw20_long.f lgI
  by_cases h : 6000 < c.size
  · rw [if_pos (by omega), decide_eq_true h]; rfl
  · rw [if_neg (by omega), decide_eq_false h, Bool.false_or]
    by_cases h2 : 6000 < d.size
    · rw [decide_eq_true (by omega), decide_eq_true h2]
    · rw [decide_eq_false (by omega), decide_eq_false h2]
theorem lg_off {c d : ByteArray} (h : lgI c d = false) : c.size ≤ 6000 ∧ d.size ≤ 6000 := by
  unfold lgI at h
  rw [Bool.or_eq_false_iff, decide_eq_false_iff_not, decide_eq_false_iff_not] at h
  omega
end Go.Proofs.YtbddllklagiajaaDoor
