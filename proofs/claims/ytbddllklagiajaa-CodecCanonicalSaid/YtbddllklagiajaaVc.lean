/- The contracts of Writer's methods Number, Signed, Flag and Text. -/
import Derived.Test.YtbddllklagiajaaVb
import Derived.Test.YtbddllklagiajaaMa
namespace Go.Proofs.Ytbddllklagiajaa
open PCodecKeeps (info5)
open Go.RowKit Go.Proofs.YtbddllklagiajaaW.PrintWords Go.Proofs.YtbddllklagiajaaW.PrintLast Go.Proofs.YtbddllklagiajaaW.PrintMore
set_option linter.unusedVariables false
set_option linter.unusedSimpArgs false

/-- A new block of elements is a row of the call's own. -/
theorem R_block {α : Type} (d : Kd α) {W : World} {base e : Nat} {xs : List α} {inner : List Value} {ok okp : Nat → Prop}
    (hrep : Reps (d.M W base okp) d.sz xs inner) (hok : ∀ k, okp k → ok k) (hfresh : ok W.heap.size) (hbase : base ≤ W.heap.size) (hm : xs.length ≤ 9223372036854775807) :
    d.R e (W.alloc (.cells inner.toArray e)) base ok (.slice (some ⟨W.heap.size, 0, none⟩) xs.length xs.length) xs := by
  refine ⟨fun k hk => ?_, inner, ?_, ?_⟩
  · have : W.heap.size = k := by simpa [Value.ownBlock] using hk
    subst this
    exact hfresh
  · have h2 := World.ownsRow_lit (base := base) (e := e) (size := d.sz) W inner.toArray xs.length hbase (by simpa [maxLen] using hm) (by simpa using hrep.1)
    simpa using h2
  · refine hrep.imp_ (fun p c hp => d.M_mono (fun k hk => ⟨hok k hk.1, fun he => ?_⟩) (Kd.M_below (d.M_bound hp) (below_alloc (Below.refl _ _) _)))
    have h3 : k = W.heap.size := by simpa [Value.ownBlock] using he
    have := hk.2.2.1
    omega

/-- One part in a new block: it stays there whatever the Writer writes. -/
theorem parts_one {w : World} (S : Nat → Prop) {v : Value} {xs : List Int} (hS : ∀ k, S k → k < w.heap.size) (hv : Stab KB w S v xs) :
    ∀ W, Kept (w.alloc (.cells #[v] 22)) W S → (Kd.slice 5 KB).C W (some ⟨w.heap.size, 0, none⟩) [xs].length [xs] := by
  refine parts_stab S [v] [xs] rfl (fun j u p hu hp => ?_) (fun h => by have := hS _ h; omega) (by simp)
  match j, hu, hp with
  | 0, hu, hp => simp at hu hp; subst hu hp; exact hv

theorem parts_two {w : World} (S : Nat → Prop) {v1 v2 : Value} {xs ys : List Int} (hS : ∀ k, S k → k < w.heap.size) (hv1 : Stab KB w S v1 xs) (hv2 : Stab KB w S v2 ys) :
    ∀ W, Kept (w.alloc (.cells #[v1, v2] 22)) W S → (Kd.slice 5 KB).C W (some ⟨w.heap.size, 0, none⟩) [xs, ys].length [xs, ys] := by
  refine parts_stab S [v1, v2] [xs, ys] rfl (fun j u p hu hp => ?_) (fun h => by have := hS _ h; omega) (by simp)
  match j, hu, hp with
  | 0, hu, hp => simp at hu hp; subst hu hp; exact hv1
  | 1, hu, hp => simp at hu hp; subst hu hp; exact hv2

theorem below_of' {w : World} {g : Nat} {P : Nat → Prop} (hg : g < w.heap.size) (hP : ∀ k, P k → k ≠ g ∧ k < w.heap.size) : ∀ k, (k = g ∨ P k) → k < w.heap.size := by
  rintro k (rfl | hk)
  · exact hg
  · exact (hP k hk).2
theorem below_of {w w1 : World} {g : Nat} {P : Nat → Prop} (hg : g < w.heap.size) (hP : ∀ k, P k → k ≠ g ∧ k < w.heap.size) (hB : Below w.heap.size w w1) : ∀ k, (k = g ∨ P k) → k < w1.heap.size :=
  fun k hk => Nat.lt_of_lt_of_le (below_of' hg hP k hk) hB.size

/-- What a method of a Writer leaves. -/
def Wrote (base g : Nat) (P : Nat → Prop) (w : World) (out : List Int) (e : Ending) (w' : World) : Prop :=
  e = .returned (.tuple #[]) ∧ Wr base w' g (fun k => P k ∨ w.heap.size ≤ k) out 0 ∧ Frm w w' (fun k => k = g ∨ P k)

theorem write_parts (base g : Nat) (P : Nat → Prop) (out : List Int) (ps : List (List Int)) (A : Option Addr) (m c : Nat) (hm : ps.length = m) (w W : World) (h : Wr base w g P out 0)
    (hP : ∀ k, P k → k ≠ g ∧ k < w.heap.size) (hbase : base ≤ w.heap.size) (hF : Below w.heap.size w W) (hps : ∀ W', Kept W W' (fun k => k = g ∨ P k) → (Kd.slice 5 KB).C W' A ps.length ps)
    (hlen : out.length + ps.flatten.length ≤ 140737488355328) (hmax : m ≤ 1000000000) :
    Calls Try.prog 95 #[.pointer (some ⟨g, 0, none⟩), .int .i64 0, .slice A m c] W (Wrote base g P w (out ++ ps.flatten)) := by
  subst hm
  have hg := h.lt
  have h1 : Wr base W g P out 0 := h.frm (Frm.of_fresh hF (fun _ => False)) (fun h => h) (fun _ _ h => h)
  refine (write_ok base g P out ps A c W h1 (fun k hk => (hP k hk).1) (Nat.le_trans hbase hF.size) hps hlen hmax).mono ?_
  rintro e w' ⟨he, hw, hf⟩
  exact ⟨he, hw.mono (fun k hk => hk.imp id (fun h => Nat.le_trans hF.size h)), (Frm.of_fresh hF (fun k => k = g ∨ P k)).then_ hf (fun _ h => .inl h)⟩

/-- Behind an error: nothing. -/
def Still (w : World) (e : Ending) (w' : World) : Prop := e = .returned (.tuple #[]) ∧ Below w.heap.size w w'

theorem u64_of_nat {n : Nat} (h : n < 18446744073709551616) : IntKind.u64.wrap (n : Int) = n := by
  rw [IntKind.wrap_u64]; omega

set_option maxHeartbeats 400000 in
theorem number_ok (base g : Nat) (P : Nat → Prop) (out : List Int) (n : Nat) (w : World) (h : Wr base w g P out 0) (hP : ∀ k, P k → k ≠ g ∧ k < w.heap.size) (hbase : base ≤ w.heap.size)
    (hn : n < 9223372036854775808) (hlen : out.length ≤ 140737488000000) :
    Calls Try.prog 68 #[.pointer (some ⟨g, 0, none⟩), .int .i64 n] w (Wrote base g P w (out ++ enc n)) := by
  have HW := Aside0.mk h
  have hg := h.lt
  have hel := enc_len9 hn
  have hu := u64_of_nat (show n < 18446744073709551616 by omega)
  have HU := Aside0.mk hu
  have hneg : decide ((n : Int) < 0) = false := by simp
  clear h hu
  go_enter Try.func68, Try.ntmps68
  go_wp2_with fail
  refine (PCodecNumbers.codec_natural.calls 10 n (enc n) _ (natural_f (by omega) (by omega))).mono ?_
  rintro e w1 ⟨v, rfl, hR, hB⟩
  obtain ⟨A1, n1, c1, rfl⟩ := R_form' hR
  have HR := Aside0.mk hR
  have HB := Aside0.mk hB
  clear hR hB
  go_wp2_with fail
  refine (write_parts base g P out [enc n] _ 1 1 rfl w _ HW.out hP hbase (below_alloc HB.out _) (parts_one _ (below_of hg hP HB.out) (Stab.of_R HR.out (fun k _ hb _ hk => by have := below_of' hg hP k hk; omega))) (by simp; omega) (by omega)).mono ?_
  rintro e w' ⟨rfl, h2, h3⟩
  go_wp2
  refine bodyPost_end (results_none rfl _ _ _) rfl ?_
  exact ⟨rfl, by simpa using h2, h3⟩

theorem number_neg (base g : Nat) (P : Nat → Prop) (out : List Int) (n : Int) (w : World) (h : Wr base w g P out 0) (hP : ∀ k, P k → k ≠ g ∧ k < w.heap.size) (hn : n < 0) :
    Calls Try.prog 68 #[.pointer (some ⟨g, 0, none⟩), .int .i64 n] w fun e w' => e = .returned (.tuple #[]) ∧ Wr base w' g P out 2 ∧ Frm w w' (fun k => k = g ∨ P k) := by
  have HW := Aside0.mk h
  have hneg : decide ((n : Int) < 0) = true := decide_eq_true hn
  clear h
  go_enter Try.func68, Try.ntmps68
  go_wp2_with fail
  refine (write_error base g P out 2 _ _ _ w HW.out (fun k hk => (hP k hk).1) (by decide)).mono ?_
  rintro e w' ⟨rfl, h2, h3⟩
  go_wp2
  refine bodyPost_ret (results_none rfl _ _ _) rfl ?_
  exact ⟨rfl, h2, h3⟩

set_option maxHeartbeats 400000 in
theorem number_failed (base g : Nat) (P : Nat → Prop) (out : List Int) (n f : Int) (w : World) (h : Wr base w g P out f) (hf : f ≠ 0) (hn : n ≤ 9223372036854775807) :
    Calls Try.prog 68 #[.pointer (some ⟨g, 0, none⟩), .int .i64 n] w (Still w) := by
  have HW := Aside0.mk h
  clear h
  by_cases hneg : n < 0
  · have hneg1 : decide ((n : Int) < 0) = true := decide_eq_true hneg
    go_enter Try.func68, Try.ntmps68
    go_wp2_with fail
    refine (write_failed base g P out f 2 _ _ _ w HW.out hf).mono ?_
    rintro e w' ⟨rfl, rfl⟩
    go_wp2
    refine bodyPost_ret (results_none rfl _ _ _) rfl ?_
    exact ⟨rfl, Below.refl _ _⟩
  · have hneg1 : decide ((n : Int) < 0) = false := decide_eq_false hneg
    obtain ⟨n, rfl⟩ := Int.eq_ofNat_of_zero_le (show 0 ≤ n by omega)
    have hu := u64_of_nat (show n < 18446744073709551616 by omega)
    have HU := Aside0.mk hu
    clear hu
    go_enter Try.func68, Try.ntmps68
    go_wp2_with fail
    refine (PCodecNumbers.codec_natural.calls 10 n (enc n) _ (natural_f (by omega) (by omega))).mono ?_
    rintro e w1 ⟨v, rfl, hR, hB⟩
    obtain ⟨A1, n1, c1, rfl⟩ := R_form' hR
    have HR := Aside0.mk hR
    have HB := Aside0.mk hB
    clear hR hB
    go_wp2_with fail
    refine (write_failed base g P out f _ _ _ _ _ (HW.out.frm (Frm.of_fresh (below_alloc HB.out _) (fun _ => False)) (fun h => h) (fun _ _ h => h)) hf).mono ?_
    rintro e w' ⟨rfl, rfl⟩
    go_wp2
    refine bodyPost_end (results_none rfl _ _ _) rfl ?_
    exact ⟨rfl, below_alloc HB.out _⟩

/-- The natural number that stands for a signed one. -/
def zig (n : Int) : Nat := if 0 ≤ n then (2 * n).toNat else (-2 * n - 1).toNat
theorem zig_lt {n : Int} (h0 : -9223372036854775808 ≤ n) (h1 : n ≤ 9223372036854775807) : zig n < 18446744073709551616 := by
  unfold zig; split <;> omega

theorem xor_ones (b : Nat) (hb : b < 18446744073709551616) : 18446744073709551615 ^^^ b = 18446744073709551615 - b := by
  have h : (BitVec.allOnes 64 ^^^ BitVec.ofNat 64 b) = ~~~ (BitVec.ofNat 64 b) := by rw [BitVec.allOnes_xor]
  have h2 := congrArg BitVec.toNat h
  rw [BitVec.toNat_xor, BitVec.toNat_not, BitVec.toNat_allOnes, BitVec.toNat_ofNat, Nat.mod_eq_of_lt (by omega)] at h2
  exact h2.trans (by omega)

theorem zig_neg {n : Int} (h0 : -9223372036854775808 ≤ n) (h1 : n < 0) : Go.bits BinOp.xor IntKind.u64 IntKind.u64.max (IntKind.u64.wrap (IntKind.u64.wrap n * 2)) = (zig n : Int) := by
  have e1 : IntKind.u64.max = ((18446744073709551615 : Nat) : Int) := by decide
  have e2 : IntKind.u64.wrap (IntKind.u64.wrap n * 2) = ((18446744073709551616 + 2 * n).toNat : Int) := by
    rw [IntKind.wrap_u64, IntKind.wrap_u64]; omega
  rw [e1, e2, bits_xor_u64_nat _ _ (by omega) (by omega), xor_ones _ (by omega)]
  unfold zig
  rw [if_neg (by omega)]
  omega

theorem zig_pos {n : Int} (h0 : 0 ≤ n) : n * 2 = (zig n : Int) := by
  unfold zig
  rw [if_pos h0]
  omega

set_option maxHeartbeats 800000 in
/-- What Signed hands to natural. -/
theorem signed_any (R : Ending → World → Prop) (g : Nat) (n : Int) (w : World) (h0 : -9223372036854775808 ≤ n) (h1 : n ≤ 9223372036854775807)
    (hR : ∀ v w1, KB.R 5 w1 w.heap.size (fun _ => True) v (enc (zig n)) → Below w.heap.size w w1 →
      Calls Try.prog 95 #[.pointer (some ⟨g, 0, none⟩), .int .i64 0, .slice (some ⟨w1.heap.size, 0, none⟩) 1 1] (w1.alloc (.cells #[v] 22)) fun e w' => e = .returned (.tuple #[]) ∧ R e w') :
    Calls Try.prog 69 #[.pointer (some ⟨g, 0, none⟩), .int .i64 n] w R := by
  have hz := zig_lt h0 h1
  have HH := Aside0.mk hR
  clear hR
  go_enter Try.func69, Try.ntmps69
  by_cases hneg : n < 0
  · have hneg1 : decide ((n : Int) < 0) = true := decide_eq_true hneg
    have he := Aside0.mk (zig_neg h0 hneg)
    go_wp2_with fail
    rw [he.out]
    refine (PCodecNumbers.codec_natural.calls 10 _ (enc (zig n)) _ (natural_f (by omega) (by omega))).mono ?_
    rintro e w1 ⟨v, rfl, hR, hB⟩
    obtain ⟨A1, n1, c1, rfl⟩ := R_form' hR
    have HR := Aside0.mk hR
    have HB := Aside0.mk hB
    clear hR hB
    go_wp2_with fail
    refine (HH.out _ _ HR.out HB.out).mono ?_
    rintro e w' ⟨rfl, h2⟩
    go_wp2
    refine bodyPost_end (results_none rfl _ _ _) rfl ?_
    exact h2
  · have hneg1 : decide ((n : Int) < 0) = false := decide_eq_false hneg
    have he := Aside0.mk (zig_pos (n := n) (by omega))
    go_wp2_with fail
    rw [he.out]
    refine (PCodecNumbers.codec_natural.calls 10 _ (enc (zig n)) _ (natural_f (by omega) (by omega))).mono ?_
    rintro e w1 ⟨v, rfl, hR, hB⟩
    obtain ⟨A1, n1, c1, rfl⟩ := R_form' hR
    have HR := Aside0.mk hR
    have HB := Aside0.mk hB
    clear hR hB
    go_wp2_with fail
    refine (HH.out _ _ HR.out HB.out).mono ?_
    rintro e w' ⟨rfl, h2⟩
    go_wp2
    refine bodyPost_end (results_none rfl _ _ _) rfl ?_
    exact h2

theorem signed_ok (base g : Nat) (P : Nat → Prop) (out : List Int) (n : Int) (w : World) (h : Wr base w g P out 0) (hP : ∀ k, P k → k ≠ g ∧ k < w.heap.size) (hbase : base ≤ w.heap.size)
    (h0 : -9223372036854775808 ≤ n) (h1 : n ≤ 9223372036854775807) (hlen : out.length ≤ 140737488000000) :
    Calls Try.prog 69 #[.pointer (some ⟨g, 0, none⟩), .int .i64 n] w (Wrote base g P w (out ++ enc (zig n))) := by
  have hg := h.lt
  have hel := enc_len10 (zig_lt h0 h1)
  refine signed_any _ g n w h0 h1 (fun v w1 hR hB => ?_)
  refine (write_parts base g P out [enc (zig n)] _ 1 1 rfl w _ h hP hbase (below_alloc hB _) (parts_one _ (below_of hg hP hB) (Stab.of_R hR (fun k _ hb _ hk => by have := below_of' hg hP k hk; omega))) (by simp; omega) (by omega)).mono ?_
  rintro e w' ⟨rfl, h2, h3⟩
  exact ⟨rfl, rfl, by simpa using h2, h3⟩

theorem signed_failed (base g : Nat) (P : Nat → Prop) (out : List Int) (n f : Int) (w : World) (h : Wr base w g P out f) (hf : f ≠ 0) (h0 : -9223372036854775808 ≤ n) (h1 : n ≤ 9223372036854775807) :
    Calls Try.prog 69 #[.pointer (some ⟨g, 0, none⟩), .int .i64 n] w (Still w) := by
  refine signed_any _ g n w h0 h1 (fun v w1 hR hB => ?_)
  refine (write_failed base g P out f _ _ _ _ _ (h.frm (Frm.of_fresh (below_alloc hB _) (fun _ => False)) (fun h => h) (fun _ _ h => h)) hf).mono ?_
  rintro e w' ⟨rfl, rfl⟩
  exact ⟨rfl, rfl, below_alloc hB _⟩

/-- A flag's byte. -/
def flagB : Bool → Int
  | true => 1
  | false => 0

set_option maxHeartbeats 800000 in
theorem flag_any (R : Ending → World → Prop) (g : Nat) (b : Bool) (w : World)
    (hR : ∀ v w1, KB.R 5 w1 w.heap.size (fun _ => True) v [flagB b] → Below w.heap.size w w1 →
      Calls Try.prog 95 #[.pointer (some ⟨g, 0, none⟩), .int .i64 0, .slice (some ⟨w1.heap.size, 0, none⟩) 1 1] (w1.alloc (.cells #[v] 22)) fun e w' => e = .returned (.tuple #[]) ∧ R e w') :
    Calls Try.prog 72 #[.pointer (some ⟨g, 0, none⟩), .bool b] w R := by
  have HRb : KB.R 5 (w.alloc (.cells #[.int .u8 (flagB b)] 5)) w.heap.size (fun _ => True) (.slice (some ⟨w.heap.size, 0, none⟩) 1 1) [flagB b] := R_block KB (W := w) (base := w.heap.size) (e := 5) (xs := [flagB b]) (inner := [.int .u8 (flagB b)]) (ok := fun _ => True) (okp := fun _ => True)
    (Reps.snoc (Reps.none _ _) rfl rfl) (fun _ h => h) trivial (Nat.le_refl _) (by simp)
  have HH := hR _ _ HRb (below_alloc (Below.refl _ _) _)
  rw [World.size_alloc] at HH
  have HX := Aside0.mk HH
  clear hR HRb HH
  cases b with
  | true =>
    go_enter Try.func72, Try.ntmps72
    go_wp2_with fail
    refine HX.out.mono ?_
    rintro e w' ⟨rfl, h2⟩
    go_wp2
    refine bodyPost_end (results_none rfl _ _ _) rfl ?_
    exact h2
  | false =>
    go_enter Try.func72, Try.ntmps72
    go_wp2_with fail
    refine HX.out.mono ?_
    rintro e w' ⟨rfl, h2⟩
    go_wp2
    refine bodyPost_end (results_none rfl _ _ _) rfl ?_
    exact h2

theorem flag_ok (base g : Nat) (P : Nat → Prop) (out : List Int) (b : Bool) (w : World) (h : Wr base w g P out 0) (hP : ∀ k, P k → k ≠ g ∧ k < w.heap.size) (hbase : base ≤ w.heap.size) (hlen : out.length ≤ 140737488000000) :
    Calls Try.prog 72 #[.pointer (some ⟨g, 0, none⟩), .bool b] w (Wrote base g P w (out ++ [flagB b])) := by
  have hg := h.lt
  refine flag_any _ g b w (fun v w1 hR hB => ?_)
  refine (write_parts base g P out [[flagB b]] _ 1 1 rfl w _ h hP hbase (below_alloc hB _) (parts_one _ (below_of hg hP hB) (Stab.of_R hR (fun k _ hb _ hk => by have := below_of' hg hP k hk; omega))) (by simp; omega) (by omega)).mono ?_
  rintro e w' ⟨rfl, h2, h3⟩
  exact ⟨rfl, rfl, by simpa using h2, h3⟩

theorem flag_failed (base g : Nat) (P : Nat → Prop) (out : List Int) (b : Bool) (f : Int) (w : World) (h : Wr base w g P out f) (hf : f ≠ 0) :
    Calls Try.prog 72 #[.pointer (some ⟨g, 0, none⟩), .bool b] w (Still w) := by
  refine flag_any _ g b w (fun v w1 hR hB => ?_)
  refine (write_failed base g P out f _ _ _ _ _ (h.frm (Frm.of_fresh (below_alloc hB _) (fun _ => False)) (fun h => h) (fun _ _ h => h)) hf).mono ?_
  rintro e w' ⟨rfl, rfl⟩
  exact ⟨rfl, rfl, below_alloc hB _⟩

set_option maxHeartbeats 800000 in
set_option maxRecDepth 100000 in
theorem text_any (R : Ending → World → Prop) (S : Nat → Prop) (g : Nat) (s : ByteArray) (w : World) (hs : s.size ≤ 16777216) (hS : ∀ k, S k → k < w.heap.size)
    (hR : ∀ v1 v2 w1, Stab KB w1 S v1 (enc s.size) → Stab KB w1 S v2 (bytesOf s) → Below w.heap.size w w1 →
      Calls Try.prog 95 #[.pointer (some ⟨g, 0, none⟩), .int .i64 0, .slice (some ⟨w1.heap.size, 0, none⟩) 2 2] (w1.alloc (.cells #[v1, v2] 22)) fun e w' => e = .returned (.tuple #[]) ∧ R e w') :
    Calls Try.prog 70 #[.pointer (some ⟨g, 0, none⟩), .string s] w R := by
  have HH := Aside0.mk hR
  clear hR
  have h1 : decide ((16777216 : Int) < s.size) = false := decide_eq_false (by omega)
  have kb := fun W => print_bytes (P := Try.prog) 9 22 5 Try.underlying9 Try.underlying22 Try.underlying5 s W
  go_enter Try.func70, Try.ntmps70
  go_wp2_with fail
  refine (PCodecNumbers.codec_natural.calls 10 _ (enc s.size) _ (natural_f (by omega) (by omega))).mono ?_
  rintro e w1 ⟨v, rfl, hR, hB⟩
  obtain ⟨A1, n1, c1, rfl⟩ := R_form' hR
  have HR := Aside0.mk hR
  have HB := Aside0.mk hB
  clear hR hB
  go_wp2_with fail
  have HB2 := bytes_below HB.out HB.out.size 5 s
  have hc := grownCap_ge w1 s.size 0 5
  have H3 := HH.out _ _ _ (Stab.step (Stab.of_R HR.out (S := S) (fun k _ hb _ hk => by have := hS k hk; omega)) ((Kept.of_below (bytes_below (Below.refl _ w1) (Nat.le_refl _) 5 s) S))) (Stab.bytes (S := S) w1 s (by omega) (fun h => by have := hS _ h; have := HB.out.size; omega) _ hc) HB2
  refine H3.mono ?_
  rintro e w' ⟨rfl, h2⟩
  go_wp2
  refine bodyPost_end (results_none rfl _ _ _) rfl ?_
  exact h2

theorem text_ok (base g : Nat) (P : Nat → Prop) (out : List Int) (s : ByteArray) (w : World) (h : Wr base w g P out 0) (hP : ∀ k, P k → k ≠ g ∧ k < w.heap.size) (hbase : base ≤ w.heap.size)
    (hs : s.size ≤ 16777216) (hlen : out.length ≤ 140737400000000) :
    Calls Try.prog 70 #[.pointer (some ⟨g, 0, none⟩), .string s] w (Wrote base g P w (out ++ (enc s.size ++ bytesOf s))) := by
  have hg := h.lt
  have hel := enc_len9 (show s.size < 9223372036854775808 by omega)
  have hbl := bytesOf_length s
  refine text_any _ (fun k => k = g ∨ P k) g s w hs (below_of' hg hP) (fun v1 v2 w1 h1 h2 hB => ?_)
  refine (write_parts base g P out [enc s.size, bytesOf s] _ 2 2 rfl w _ h hP hbase (below_alloc hB _) (parts_two _ (below_of hg hP hB) h1 h2) (by simp; omega) (by omega)).mono ?_
  rintro e w' ⟨rfl, h2, h3⟩
  exact ⟨rfl, rfl, by simpa using h2, h3⟩

theorem text_failed (base g : Nat) (P : Nat → Prop) (out : List Int) (s : ByteArray) (f : Int) (w : World) (h : Wr base w g P out f) (hf : f ≠ 0) (hs : s.size ≤ 16777216) :
    Calls Try.prog 70 #[.pointer (some ⟨g, 0, none⟩), .string s] w (Still w) := by
  refine text_any _ (fun _ => False) g s w hs (fun _ h => h.elim) (fun v1 v2 w1 _ _ hB => ?_)
  refine (write_failed base g P out f _ _ _ _ _ (h.frm (Frm.of_fresh (below_alloc hB _) (fun _ => False)) (fun h => h) (fun _ _ h => h)) hf).mono ?_
  rintro e w' ⟨rfl, rfl⟩
  exact ⟨rfl, rfl, below_alloc hB _⟩

set_option maxHeartbeats 800000 in
/-- Bytes: a copy of what was written. -/
theorem bytes_ok (base g : Nat) (P : Nat → Prop) (out : List Int) (w : World) (h : Wr base w g P out 0) (hlen : out.length ≤ 140737488355328) :
    Calls Try.prog 28 #[.pointer (some ⟨g, 0, none⟩)] w fun e w' => ∃ v, e = .returned (.tuple #[v, .int .i64 0]) ∧ KB.R 5 w' w.heap.size (fun _ => True) v out ∧ Below w.heap.size w w' := by
  obtain ⟨v, hb, hg, hr⟩ := h
  obtain ⟨A, n, c, rfl⟩ := R_form' hr
  have hC := Kd.R_reads' hr
  have h0 : w.cell? ⟨g, 0, none⟩ = some (.slice A n c) := blk_cell hb 0
  have h1 : w.cell? ⟨g, 1, none⟩ = some (.int .i64 0) := blk_cell hb 1
  have h2 : (w.alloc (.cells #[] 5)).cell? ⟨g, 0, none⟩ = some (.slice A n c) := blk_cell (blk_alloc hb _) 0
  have HE := Aside0.mk (R_block KB (W := w) (base := w.heap.size) (e := 5) (xs := []) (inner := []) (ok := fun _ => True) (okp := fun _ => True) (Reps.none _ _) (fun _ h => h) trivial (Nat.le_refl _) (by simp))
  have HC := Aside0.mk hC
  have HL := Aside0.mk hlen
  clear hb hr hC hlen
  go_enter Try.func28, Try.ntmps28
  go_wp2_with ((with_reducible refine gate_dst (N := 22) rfl ?_); at_builtin; refine Kd.R_append_row (Value.int .u8) 0 (h1 := fun _ => rfl) (w0 := w) w.heap.size rfl (.tmp 17) (.tmp 21) 22 5 (.int .u8 0) 1 rfl Try.underlying22 info5 rfl (by decide) _ [] out A n c (fun _ => True) rfl rfl ?aF ?aO ?aR ?aB ?aS ?aL ?_; (case aF => exact fun _ _ => trivial); (case aO => exact HE.out); (case aR => have := HC.out; rw [this.1]; exact Kd.C_alloc this.2.2 _); (case aB => exact below_alloc (Below.refl _ _) _); (case aS => simp); (case aL => have := HC.out.1; have := HL.out; simp; omega); intro v3 w3 hr3 hb3 hg3 hat3; have HR3 := Aside0.mk hr3; have HB3 := Aside0.mk hb3; clear hr3 hb3 hg3 hat3)
  go_ret2
  exact ⟨_, rfl, HR3.out, HB3.out⟩

theorem bytes_failed (base g : Nat) (P : Nat → Prop) (out : List Int) (f : Int) (w : World) (h : Wr base w g P out f) (hf : f ≠ 0) :
    Calls Try.prog 28 #[.pointer (some ⟨g, 0, none⟩)] w fun e w' => e = .returned (.tuple #[.slice none 0 0, .int .i64 f]) ∧ Below w.heap.size w w' := by
  obtain ⟨v, hb, hg, hr⟩ := h
  have h1 : w.cell? ⟨g, 1, none⟩ = some (.int .i64 f) := blk_cell hb 1
  have hf1 : (f != 0) = true := bne_iff_ne.mpr hf
  clear hb hr hf
  go_enter Try.func28, Try.ntmps28
  go_wp2_with fail
  go_quiet (fail)
  go_wp2
  go_ret2
  exact ⟨rfl, pw_below_drewN (Below.refl _ _) _⟩

end Go.Proofs.Ytbddllklagiajaa
