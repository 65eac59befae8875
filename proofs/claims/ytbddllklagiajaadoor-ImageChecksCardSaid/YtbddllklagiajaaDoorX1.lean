/- Numbers and their encodings, without memory: the groups of seven bits, and that the printed functions of both packages give them. codec.groups and codec.Parse: their contracts, turned to this seat. Groups at the beginning of bytes, without memory. The printed functions 'groups' of package codec and of the reference give 'grp'. The reference's 'groups'. What a Reader's methods read, without memory. Pure laws: an image's first error; where its parts are. The words that the hand-made walks of this seat use: what a call keeps, a Writer of package codec in memory. sha256.right. sha256.block. sha256.begin, (*Hash).Write of a Hash to which nothing was written. Rows of bytes that the call owns, a converted string's too; append of one byte. -/
import Derived.Test.YtbddllklagiajaaDoorPImageDecodesx2
import Derived.Test.YtbddllklagiajaaDoorPImageDecodesx0
import Derived.Laws.Bits64
import Derived.Test.YtbddllklagiajaaDoorPImageDecodesx3
import Derived.Lib.Strings
import Derived.StillTailTactics
import Derived.BigRegion
import Derived.BigQuiet
import Derived.ArgAppend
set_option linter.unusedVariables false
set_option linter.unusedSimpArgs false
namespace Go.Proofs.YtbddllklagiajaaDoor
open Go.RowKit Go.Proofs.YtbddllklagiajaaDoorW.PrintWords Go.Proofs.YtbddllklagiajaaDoorW.PrintLast Go.Proofs.YtbddllklagiajaaDoorW.PrintMore

/-- The encoding of a natural number. -/
def enc (n : Nat) : List Int := if n < 128 then [(n : Int)] else ((n % 128 + 128 : Nat) : Int) :: enc (n / 128)
termination_by n

theorem enc_small {n : Nat} (h : n < 128) : enc n = [(n : Int)] := by rw [enc, if_pos h]
theorem enc_big {n : Nat} (h : ¬ n < 128) : enc n = ((n % 128 + 128 : Nat) : Int) :: enc (n / 128) := by rw [enc, if_neg h]

theorem enc_pos (n : Nat) : 1 ≤ (enc n).length := by
  by_cases h : n < 128
  · rw [enc_small h]; simp
  · rw [enc_big h]; simp

theorem enc_len (d : Nat) : ∀ n, n < 128 ^ (d + 1) → (enc n).length ≤ d + 1 := by
  induction d with
  | zero => intro n h; rw [enc_small (by simpa using h)]; simp
  | succ d ih =>
    intro n h
    by_cases h1 : n < 128
    · rw [enc_small h1]; simp
    · rw [enc_big h1, List.length_cons]
      have := ih (n / 128) (by rw [Nat.div_lt_iff_lt_mul (by omega)]; rw [Nat.pow_succ] at h; exact h)
      omega

theorem enc_len10 {n : Nat} (h : n < 18446744073709551616) : (enc n).length ≤ 10 := enc_len 9 n (by omega)
theorem enc_len9 {n : Nat} (h : n < 9223372036854775808) : (enc n).length ≤ 9 := enc_len 8 n (by omega)

theorem or_128 : ∀ m : Fin 256, (m.val ||| 128) = m.val % 128 + 128 := by decide +kernel

theorem bits_or_128 (x : Int) (h0 : 0 ≤ x) : Go.bits .or .u8 (x % 256) 128 = x % 128 + 128 := by
  obtain ⟨m, hm⟩ := Int.eq_ofNat_of_zero_le (show 0 ≤ x % 256 by omega)
  have hlt : m < 256 := by omega
  have h1 := (bits_nat .u8 8 (by decide) wraps_u8 m 128 (by omega) (by omega)).2
  have h2 : (m ||| 128) = m % 128 + 128 := or_128 ⟨m, hlt⟩
  rw [hm]
  refine h1.trans ?_
  rw [h2]
  omega

theorem natural_l0 (d : Nat) : ∀ (k n : Nat) (out : List Int), n < 128 ^ (d + 1) → n < 18446744073709551616 → d < k → out.length + d < 1000 →
    PImageDecodes.codec_natural.l0 k (n : Int) out = some (out ++ enc n) := by
  induction d with
  | zero =>
    intro k n out h h64 hk ho
    obtain ⟨k, rfl⟩ : ∃ m, k = m + 1 := ⟨k - 1, by omega⟩
    simp only [PImageDecodes.codec_natural.l0]
    rw [if_neg (by omega), if_pos (by omega), enc_small (by omega), Int.emod_eq_of_lt (by omega) (by omega)]
  | succ d ih =>
    intro k n out h h64 hk ho
    obtain ⟨k, rfl⟩ : ∃ m, k = m + 1 := ⟨k - 1, by omega⟩
    simp only [PImageDecodes.codec_natural.l0]
    by_cases h1 : n < 128
    · rw [if_neg (by omega), if_pos (by omega), enc_small h1, Int.emod_eq_of_lt (by omega) (by omega)]
    · rw [if_pos (by omega), if_pos (by omega)]
      have h3 := ih k (n / 128) (out ++ [Go.bits .or .u8 ((n : Int) % 256) 128]) (by rw [Nat.div_lt_iff_lt_mul (by omega)]; rw [Nat.pow_succ] at h; exact h) (by omega) (by omega) (by simp; omega)
      rw [show ((n : Int) / 128) = ((n / 128 : Nat) : Int) by omega, h3, enc_big h1, bits_or_128 _ (by omega)]
      simp

theorem natural_f {k n : Nat} (h : n < 18446744073709551616) (hk : 10 ≤ k) : PImageDecodes.codec_natural.f k (n : Int) = some (enc n) := by
  unfold PImageDecodes.codec_natural.f
  rw [natural_l0 9 k n [] (by omega) h (by omega) (by simp)]
  simp

theorem Natural_l0 (d : Nat) : ∀ (k n : Nat) (out : List Int), n < 128 ^ (d + 1) → n < 18446744073709551616 → d < k → out.length + d < 1000 →
    PImageDecodes.replevinref01_Natural.l0 k (n : Int) out = some (out ++ enc n) := by
  induction d with
  | zero =>
    intro k n out h h64 hk ho
    obtain ⟨k, rfl⟩ : ∃ m, k = m + 1 := ⟨k - 1, by omega⟩
    simp only [PImageDecodes.replevinref01_Natural.l0]
    rw [if_neg (by omega), if_pos (by omega), enc_small (by omega), Int.emod_eq_of_lt (by omega) (by omega)]
  | succ d ih =>
    intro k n out h h64 hk ho
    obtain ⟨k, rfl⟩ : ∃ m, k = m + 1 := ⟨k - 1, by omega⟩
    simp only [PImageDecodes.replevinref01_Natural.l0]
    by_cases h1 : n < 128
    · rw [if_neg (by omega), if_pos (by omega), enc_small h1, Int.emod_eq_of_lt (by omega) (by omega)]
    · rw [if_pos (by omega), if_pos (by omega)]
      have e1 : IntKind.u64.wrap (Int.tdiv (n : Int) 128) = ((n / 128 : Nat) : Int) := by
        rw [Int.tdiv_eq_ediv_of_nonneg (by omega)]
        simp only [IntKind.wrap_u64]
        omega
      have e2 : IntKind.u64.wrap (Int.tmod (n : Int) 128 + 128) % 256 = ((n % 128 + 128 : Nat) : Int) := by
        rw [Int.tmod_eq_emod_of_nonneg (by omega)]
        simp only [IntKind.wrap_u64]
        omega
      rw [e1, e2]
      have h3 := ih k (n / 128) (out ++ [((n % 128 + 128 : Nat) : Int)]) (by rw [Nat.div_lt_iff_lt_mul (by omega)]; rw [Nat.pow_succ] at h; exact h) (by omega) (by omega) (by simp; omega)
      rw [h3, enc_big h1]
      simp

theorem Natural_f {k n : Nat} (h : n < 18446744073709551616) (hk : 10 ≤ k) : PImageDecodes.replevinref01_Natural.f k (n : Int) = some (enc n) := by
  unfold PImageDecodes.replevinref01_Natural.f
  rw [Natural_l0 9 k n [] (by omega) h (by omega) (by simp)]
  simp

end Go.Proofs.YtbddllklagiajaaDoor

namespace Go.Proofs.YtbddllklagiajaaDoor.PCodecNumbers
open Go.RowKit Go.Proofs.YtbddllklagiajaaDoorW.PrintWords Go.Proofs.YtbddllklagiajaaDoorW.PrintLast Go.Proofs.YtbddllklagiajaaDoorW.PrintMore
attribute [local go_sem] max2_int min2_int max_two min_two max_three min_three max_four min_four
set_option linter.unusedVariables false
set_option linter.unusedSimpArgs false

/-! ### codec_groups: function 66 -/
def codec_groups.l0 : Nat → List Int → Int → Int → List Int → Int → Int → Option (Int × Int × Int)
  | 0, _, _, _, _, _, _ => none
  | k + 1, x0, x1, x7, x10, x11, x12 => if x12 < x11 then (if 0 ≤ x12 then (if x12 < (x10.length : Int) then (if x12 = x1 then (some (0, 0, 3)) else (if 0 ≤ (wrap64 (7 * x12)) then (if (rd x10 x12) < 128 then (if (rd x10 x12) = 0 then (if x12 > 0 then (some (0, 0, 3)) else (some (Go.bits .or .u64 x7 (shl .u64 (IntKind.u64.wrap (Go.bits .and .u8 (rd x10 x12) 127)) (wrap64 (7 * x12))), wrap64 (x12 + 1), 0))) else (some (Go.bits .or .u64 x7 (shl .u64 (IntKind.u64.wrap (Go.bits .and .u8 (rd x10 x12) 127)) (wrap64 (7 * x12))), wrap64 (x12 + 1), 0))) else (codec_groups.l0 k x0 x1 (Go.bits .or .u64 x7 (shl .u64 (IntKind.u64.wrap (Go.bits .and .u8 (rd x10 x12) 127)) (wrap64 (7 * x12)))) x10 x11 (wrap64 (x12 + 1)))) else (none))) else (none)) else (none)) else (if (x0.length : Int) ≥ x1 then (some (0, 0, 3)) else (some (0, 0, 28)))
def codec_groups.f (k : Nat) (l0 : List Int) (a1 : Int) : Option (Int × Int × Int) := codec_groups.l0 k l0 a1 0 l0 (l0.length : Int) 0
theorem codec_groups.mono_l : ∀ k, (∀ y0 y1 y2 y3 y4 y5, LeO (codec_groups.l0 k y0 y1 y2 y3 y4 y5) (codec_groups.l0 (k + 1) y0 y1 y2 y3 y4 y5))
  | 0 => fun _ _ _ _ _ _ r h => by simp [codec_groups.l0] at h
  | k + 1 => by
    have ih0 := codec_groups.mono_l k
    · intro y0 y1 y2 y3 y4 y5
      unfold codec_groups.l0
      repeat' first
      | (with_reducible exact ih0 _ _ _ _ _ _)
      | (with_reducible exact LeO.refl _)
      | (with_reducible exact LeO.none _)
      | (with_reducible refine LeO.ite ?_ ?_)
      | (with_reducible refine LeO.bind ?_ (fun _ => ?_))
      | exact ih0 _ _ _ _ _ _
      | exact LeO.none _
      | refine LeO.ite ?_ ?_
      | refine LeO.bind ?_ (fun _ => ?_)
theorem codec_groups.mono : ∀ a0 a1 k, LeO (codec_groups.f k a0 a1) (codec_groups.f (k + 1) a0 a1) := by
  intro a0 a1 k
  have ih0 := codec_groups.mono_l k
  unfold codec_groups.f
  repeat' first
      | (with_reducible exact ih0 _ _ _ _ _ _)
      | (with_reducible exact LeO.refl _)
      | (with_reducible exact LeO.none _)
      | (with_reducible refine LeO.ite ?_ ?_)
      | (with_reducible refine LeO.bind ?_ (fun _ => ?_))
      | exact ih0 _ _ _ _ _ _
      | exact LeO.none _
      | refine LeO.ite ?_ ?_
      | refine LeO.bind ?_ (fun _ => ?_)
set_option maxHeartbeats 8000000 in
set_option maxRecDepth 100000 in
theorem codec_groups.calls (k : Nat) (A0 : Option Addr) (c0 : Nat) (l0 : List Int) (a1 : Int) (r1 : Int) (r2 : Int) (r3 : Int) (w : World) (hr0 : Kd.C (Kd.int .u8) w A0 l0.length l0) (hc0 : l0.length ≤ c0) (h : codec_groups.f k l0 a1 = some (r1, r2, r3)) :
    Calls Tryd.prog 82 #[.slice A0 l0.length c0, .int .i64 a1] w fun e w' => e = .returned (.tuple #[.int .u64 r1, .int .i64 r2, .int .i64 r3]) ∧ Drawn0 w w' := by
  have HR0 := Aside0.mk hr0
  have HC0 := Aside0.mk hc0
  clear hr0 hc0
  have H : (codec_groups.l0 k l0 a1 0 l0 (l0.length : Int) 0) = some (r1, r2, r3) := h
  clear h
  have H' := Aside0.mk H
  clear H
  go_enter Tryd.func82, Tryd.ntmps82
  go_wp2
  go_loopg [7, 12] k (fun kq v7 v12 w' => ∃ (x7_1 : Int) (x12_1 : Int), v7 = .int .u64 x7_1 ∧ v12 = .int .i64 x12_1 ∧ Aside0 (codec_groups.l0 kq l0 a1 x7_1 l0 (l0.length : Int) x12_1 = some (r1, r2, r3)) ∧ Aside0 (kq ≤ k) ∧ Drawn0 w w')
  case atStart => exact ⟨(0), (0), (by first | rfl | (simp; done) | (simp [*]; done)), (by first | rfl | (simp; done) | (simp [*]; done)), H', ⟨Nat.le_refl _⟩, by repeat (first | exact Drawn0.refl _ | apply Drawn0.step)⟩
  case round =>
    clear H'
    try clear p2
    obtain ⟨x7_1, x12_1, rfl, rfl, HA, HK1, ⟨m1, rfl⟩⟩ := hrel
    cases gk with
    | zero => exact absurd HA.out (by simp [codec_groups.l0])
    | succ k1 =>
      have H := HA.out
      clear HA
      simp only [codec_groups.l0] at H
      by_cases c3 : x12_1 < (l0.length : Int)
      · rw [if_pos c3] at H
        have c3b0 : decide (x12_1 < (l0.length : Int)) = true := decide_eq_true c3
        clear c3
        by_cases c4 : 0 ≤ x12_1
        · rw [if_pos c4] at H
          have c4b0 : decide (0 ≤ x12_1) = true := decide_eq_true c4
          clear c4
          by_cases c5 : x12_1 < (l0.length : Int)
          · rw [if_pos c5] at H
            have c5b0 : decide (x12_1 < (l0.length : Int)) = true := decide_eq_true c5
            clear c5
            by_cases c6 : x12_1 = a1
            · rw [if_pos c6] at H
              have c6b0 : (x12_1 == a1) = true := beq_iff_eq.mpr c6
              have c6b1 : (x12_1 != a1) = false := bne_eq_false_iff_eq.mpr c6
              clear c6
              simp only [Option.some.injEq, Prod.mk.injEq] at H
              obtain ⟨rfl, rfl, rfl⟩ := H
              have p101 : 0 ≤ (x12_1 : Int) := of_decide_eq_true (by first | (with_reducible assumption) | assumption)
              have q101 : x12_1 < (l0.length : Int) := of_decide_eq_true (by first | (with_reducible assumption) | assumption)
              obtain ⟨ad101, e101, hx101_0⟩ := Kd.at_int HR0.out x12_1 p101 q101
              cases e101
              replace p101 := eq_true p101
              replace q101 := eq_true q101
              go_wp2
              go_ret3
              exact ⟨by first | rfl | (simp; done) | (simp [*]; done), by repeat (first | exact Drawn0.refl _ | apply Drawn0.step)⟩
            · rw [if_neg c6] at H
              have c6b0 : (x12_1 == a1) = false := beq_eq_false_iff_ne.mpr c6
              have c6b1 : (x12_1 != a1) = true := bne_iff_ne.mpr c6
              obtain ⟨ji7, hji7⟩ : ∃ j_ : Int, (wrap64 (7 * x12_1)) = j_ := ⟨_, rfl⟩
              replace H : (if 0 ≤ (ji7) then (if (rd l0 x12_1) < 128 then (if (rd l0 x12_1) = 0 then (if x12_1 > 0 then (some (0, 0, 3)) else (some (Go.bits .or .u64 x7_1 (shl .u64 (IntKind.u64.wrap (Go.bits .and .u8 (rd l0 x12_1) 127)) (ji7)), wrap64 (x12_1 + 1), 0))) else (some (Go.bits .or .u64 x7_1 (shl .u64 (IntKind.u64.wrap (Go.bits .and .u8 (rd l0 x12_1) 127)) (ji7)), wrap64 (x12_1 + 1), 0))) else (codec_groups.l0 k1 l0 a1 (Go.bits .or .u64 x7_1 (shl .u64 (IntKind.u64.wrap (Go.bits .and .u8 (rd l0 x12_1) 127)) (ji7))) l0 (l0.length : Int) (wrap64 (x12_1 + 1)))) else (none)) = some (r1, r2, r3) := by first | (rw [hji7] at H; exact H) | (simp only [hji7] at H ⊢; exact H)
              have hji7w : (IntKind.i64.wrap (7 * x12_1)) = ji7 := (i64_w _).trans hji7
              by_cases c8 : 0 ≤ (ji7)
              · rw [if_pos c8] at H
                have c8b0 := eq_true c8
                have c8b1 : decide (0 ≤ (ji7)) = true := decide_eq_true c8
                clear c8
                obtain ⟨ji9, hji9⟩ : ∃ j_ : Int, (shl .u64 (IntKind.u64.wrap (Go.bits .and .u8 (rd l0 x12_1) 127)) (ji7)) = j_ := ⟨_, rfl⟩
                replace H : (if (rd l0 x12_1) < 128 then (if (rd l0 x12_1) = 0 then (if x12_1 > 0 then (some (0, 0, 3)) else (some (Go.bits .or .u64 x7_1 (ji9), wrap64 (x12_1 + 1), 0))) else (some (Go.bits .or .u64 x7_1 (ji9), wrap64 (x12_1 + 1), 0))) else (codec_groups.l0 k1 l0 a1 (Go.bits .or .u64 x7_1 (ji9)) l0 (l0.length : Int) (wrap64 (x12_1 + 1)))) = some (r1, r2, r3) := by first | (rw [hji9] at H; exact H) | (simp only [hji9] at H ⊢; exact H)
                have hji9_ : (IntKind.u64.wrap ((IntKind.u64.wrap (Go.bits .and .u8 (rd l0 x12_1) 127)) * 2 ^ min (ji7).toNat 64)) = ji9 := hji9
                have hji9z : (ji7) ≤ 64 → (IntKind.u64.wrap ((IntKind.u64.wrap (Go.bits .and .u8 (rd l0 x12_1) 127)) * 2 ^ (ji7).toNat)) = ji9 := shl_small hji9
                by_cases c10 : (rd l0 x12_1) < 128
                · rw [if_pos c10] at H
                  have c10b0 : decide ((rd l0 x12_1) < 128) = true := decide_eq_true c10
                  clear c10
                  by_cases c11 : (rd l0 x12_1) = 0
                  · rw [if_pos c11] at H
                    have c11b0 : ((rd l0 x12_1) == 0) = true := beq_iff_eq.mpr c11
                    have c11b1 : ((rd l0 x12_1) != 0) = false := bne_eq_false_iff_eq.mpr c11
                    clear c11
                    by_cases c12 : x12_1 > 0
                    · rw [if_pos c12] at H
                      have c12b0 : decide (0 < x12_1) = true := decide_eq_true c12
                      clear c12
                      simp only [Option.some.injEq, Prod.mk.injEq] at H
                      obtain ⟨rfl, rfl, rfl⟩ := H
                      have p101 : 0 ≤ (x12_1 : Int) := of_decide_eq_true (by first | (with_reducible assumption) | assumption)
                      have q101 : x12_1 < (l0.length : Int) := of_decide_eq_true (by first | (with_reducible assumption) | assumption)
                      obtain ⟨ad101, e101, hx101_0⟩ := Kd.at_int HR0.out x12_1 p101 q101
                      cases e101
                      replace p101 := eq_true p101
                      replace q101 := eq_true q101
                      go_wp2
                      go_ret3
                      exact ⟨by first | rfl | (simp; done) | (simp only [← hji7, ← hji9] <;> (first | rfl | simp)) | (simp [*]; done), by repeat (first | exact Drawn0.refl _ | apply Drawn0.step)⟩
                    · rw [if_neg c12] at H
                      have c12b0 : decide (0 < x12_1) = false := decide_eq_false c12
                      clear c12
                      simp only [Option.some.injEq, Prod.mk.injEq] at H
                      obtain ⟨rfl, rfl, rfl⟩ := H
                      have p101 : 0 ≤ (x12_1 : Int) := of_decide_eq_true (by first | (with_reducible assumption) | assumption)
                      have q101 : x12_1 < (l0.length : Int) := of_decide_eq_true (by first | (with_reducible assumption) | assumption)
                      obtain ⟨ad101, e101, hx101_0⟩ := Kd.at_int HR0.out x12_1 p101 q101
                      cases e101
                      replace p101 := eq_true p101
                      replace q101 := eq_true q101
                      go_wp2
                      go_ret3
                      exact ⟨by first | rfl | (simp; done) | (simp only [← hji7, ← hji9] <;> (first | rfl | simp)) | (simp [*]; done), by repeat (first | exact Drawn0.refl _ | apply Drawn0.step)⟩
                  · rw [if_neg c11] at H
                    have c11b0 : ((rd l0 x12_1) == 0) = false := beq_eq_false_iff_ne.mpr c11
                    have c11b1 : ((rd l0 x12_1) != 0) = true := bne_iff_ne.mpr c11
                    simp only [Option.some.injEq, Prod.mk.injEq] at H
                    obtain ⟨rfl, rfl, rfl⟩ := H
                    have p101 : 0 ≤ (x12_1 : Int) := of_decide_eq_true (by first | (with_reducible assumption) | assumption)
                    have q101 : x12_1 < (l0.length : Int) := of_decide_eq_true (by first | (with_reducible assumption) | assumption)
                    obtain ⟨ad101, e101, hx101_0⟩ := Kd.at_int HR0.out x12_1 p101 q101
                    cases e101
                    replace p101 := eq_true p101
                    replace q101 := eq_true q101
                    go_wp2
                    go_ret3
                    exact ⟨by first | rfl | (simp; done) | (simp only [← hji7, ← hji9] <;> (first | rfl | simp)) | (simp [*]; done), by repeat (first | exact Drawn0.refl _ | apply Drawn0.step)⟩
                · rw [if_neg c10] at H
                  have c10b0 : decide ((rd l0 x12_1) < 128) = false := decide_eq_false c10
                  clear c10
                  have H' := Aside0.mk H
                  clear H
                  have p101 : 0 ≤ (x12_1 : Int) := of_decide_eq_true (by first | (with_reducible assumption) | assumption)
                  have q101 : x12_1 < (l0.length : Int) := of_decide_eq_true (by first | (with_reducible assumption) | assumption)
                  obtain ⟨ad101, e101, hx101_0⟩ := Kd.at_int HR0.out x12_1 p101 q101
                  cases e101
                  replace p101 := eq_true p101
                  replace q101 := eq_true q101
                  go_wp2
                  go_roundg k1
                  case measure => have := HK1.out; omega
                  case rel => exact ⟨(Go.bits .or .u64 x7_1 (ji9)), (wrap64 (x12_1 + 1)), (by first | rfl | (simp; done) | (simp only [← hji9] <;> (first | rfl | simp)) | (simp [*]; done)), (by first | rfl | (simp; done) | (simp [*]; done)), H', ⟨by have := HK1.out; omega⟩, by repeat (first | exact Drawn0.refl _ | apply Drawn0.step)⟩
              · rw [if_neg c8] at H
                exact absurd H (by simp)
          · rw [if_neg c5] at H
            exact absurd H (by simp)
        · rw [if_neg c4] at H
          exact absurd H (by simp)
      · rw [if_neg c3] at H
        have c3b0 : decide (x12_1 < (l0.length : Int)) = false := decide_eq_false c3
        clear c3
        by_cases c13 : (l0.length : Int) ≥ a1
        · rw [if_pos c13] at H
          have c13b0 : decide (a1 ≤ (l0.length : Int)) = true := decide_eq_true c13
          clear c13
          simp only [Option.some.injEq, Prod.mk.injEq] at H
          obtain ⟨rfl, rfl, rfl⟩ := H
          go_wp2
          go_ret3
          exact ⟨by first | rfl | (simp; done) | (simp [*]; done), by repeat (first | exact Drawn0.refl _ | apply Drawn0.step)⟩
        · rw [if_neg c13] at H
          have c13b0 : decide (a1 ≤ (l0.length : Int)) = false := decide_eq_false c13
          clear c13
          simp only [Option.some.injEq, Prod.mk.injEq] at H
          obtain ⟨rfl, rfl, rfl⟩ := H
          go_wp2
          go_ret3
          exact ⟨by first | rfl | (simp; done) | (simp [*]; done), by repeat (first | exact Drawn0.refl _ | apply Drawn0.step)⟩

/-! ### codec_Parse: function 19 -/
def codec_Parse.f (k : Nat) (l0 : List Int) : Option (Int × Int × Int) := (codec_groups.f k l0 9).bind fun bt102 => (some (wrap64 (bt102.1), bt102.2.1, bt102.2.2))
theorem codec_Parse.mono : ∀ a0 k, LeO (codec_Parse.f k a0) (codec_Parse.f (k + 1) a0) := by
  intro a0 k
  unfold codec_Parse.f
  repeat' first
      | (with_reducible exact codec_groups.mono _ _ _)
      | (with_reducible exact LeO.refl _)
      | (with_reducible exact LeO.none _)
      | (with_reducible refine LeO.ite ?_ ?_)
      | (with_reducible refine LeO.bind ?_ (fun _ => ?_))
      | exact codec_groups.mono _ _ _
      | exact LeO.none _
      | refine LeO.ite ?_ ?_
      | refine LeO.bind ?_ (fun _ => ?_)
set_option maxHeartbeats 8000000 in
set_option maxRecDepth 100000 in
theorem codec_Parse.calls (k : Nat) (A0 : Option Addr) (c0 : Nat) (l0 : List Int) (r1 : Int) (r2 : Int) (r3 : Int) (w : World) (hr0 : Kd.C (Kd.int .u8) w A0 l0.length l0) (hc0 : l0.length ≤ c0) (h : codec_Parse.f k l0 = some (r1, r2, r3)) :
    Calls Tryd.prog 68 #[.slice A0 l0.length c0] w fun e w' => e = .returned (.tuple #[.int .i64 r1, .int .i64 r2, .int .i64 r3]) ∧ Drawn0 w w' := by
  have HR0 := Aside0.mk hr0
  have HC0 := Aside0.mk hc0
  clear hr0 hc0
  have H : ((codec_groups.f k l0 9).bind fun bt102 => (some (wrap64 (bt102.1), bt102.2.1, bt102.2.2))) = some (r1, r2, r3) := h
  clear h
  replace H := Option.bind_eq_some_iff.mp H
  obtain ⟨⟨t102, t103, t104⟩, A20, H⟩ := H
  replace H : (some (wrap64 (t102), t103, t104)) = some (r1, r2, r3) := H
  have A2 := Aside0.mk A20
  clear A20
  simp only [Option.some.injEq, Prod.mk.injEq] at H
  obtain ⟨rfl, rfl, rfl⟩ := H
  go_enter Tryd.func68, Tryd.ntmps68
  go_wp2_with (first | ((with_reducible refine gate_callee (f := 82) rfl ?_); refine goesL_ (some 8) rfl rfl Tryd.func82 (by kernel_rfl) rfl #[.slice A0 l0.length c0, .int .i64 9] rfl (by (try simp only [List.map_toArray, List.map_cons, List.map_nil]); first | done | rfl | (simp only [List.length_drop, List.length_take]; rfl)) ?_; (with_reducible refine (codec_groups.calls k _ _ l0 9 t102 t103 t104 _ ?side1 ?side2 A2.out).mono ?_); (case side1 => repeat (first | exact HR0.out | (with_reducible refine Kd.C_alloc ?_ _) | (with_reducible refine Kd.C_drewN ?_ _) | (with_reducible refine Kd.C_drew ?_))); (case side2 => exact HC0.out); rintro e w' ⟨rfl, ⟨nd, rfl⟩⟩; refine ⟨_, rfl, ?_⟩))
  go_ret3
  exact ⟨by first | rfl | (simp; done) | (simp [*]; done), by repeat (first | exact Drawn0.refl _ | apply Drawn0.step)⟩
end Go.Proofs.YtbddllklagiajaaDoor.PCodecNumbers

set_option linter.unusedVariables false
set_option linter.unusedSimpArgs false
namespace Go.Proofs.YtbddllklagiajaaDoor
open Go.RowKit Go.Proofs.YtbddllklagiajaaDoorW.PrintWords Go.Proofs.YtbddllklagiajaaDoorW.PrintLast Go.Proofs.YtbddllklagiajaaDoorW.PrintMore

/-- The elements are bytes. -/
def Bytes (l : List Int) : Prop := ∀ x ∈ l, 0 ≤ x ∧ x ≤ 255

/-- The number that groups stand for. -/
def val : List Int → Nat
  | [] => 0
  | c :: l => (c % 128).toNat + 128 * val l

/-- How many bytes at the beginning are at least 128. -/
def lead : List Int → Nat
  | [] => 0
  | c :: l => if 128 ≤ c then lead l + 1 else 0

theorem lead_le (l : List Int) : lead l ≤ l.length := by
  induction l with
  | nil => simp [lead]
  | cons c l ih => simp only [lead, List.length_cons]; split <;> omega

theorem lead_lt (l : List Int) : ∀ i, i < lead l → 128 ≤ l.getD i 0 := by
  induction l with
  | nil => intro i h; simp [lead] at h
  | cons c l ih =>
    intro i h
    simp only [lead] at h
    split at h
    · cases i with
      | zero => simpa
      | succ i => simpa using ih i (by omega)
    · omega

theorem lead_at (l : List Int) (h : lead l < l.length) : l.getD (lead l) 0 < 128 := by
  induction l with
  | nil => simp at h
  | cons c l ih =>
    simp only [lead] at h ⊢
    split
    · rename_i hc
      rw [if_pos hc] at h
      simpa using ih (by simpa using h)
    · simpa using (by omega : c < 128)

/-- What is at the beginning of bytes: the number, its length, and the error. -/
def grp (most : Nat) (l : List Int) : Nat × Nat × Nat :=
  if most ≤ lead l then (0, 0, 3)
  else if l.length ≤ lead l then (0, 0, 28)
  else if 0 < lead l ∧ l.getD (lead l) 0 = 0 then (0, 0, 3)
  else (val (l.take (lead l + 1)), lead l + 1, 0)

theorem val_append (l : List Int) (c : Int) (hb : 0 ≤ c) : val (l ++ [c]) = val l + (c % 128).toNat * 128 ^ l.length := by
  induction l with
  | nil => simp [val]
  | cons d l ih => simp only [List.cons_append, val, ih, List.length_cons, Nat.pow_succ]; rw [Nat.mul_add, ← Nat.add_assoc]; congr 1; rw [Nat.mul_comm 128, Nat.mul_assoc]

theorem val_lt (l : List Int) : val l < 128 ^ l.length := by
  induction l with
  | nil => simp [val]
  | cons d l ih =>
    simp only [val, List.length_cons, Nat.pow_succ]
    have : (d % 128).toNat < 128 := by omega
    omega

theorem take_snoc' (l : List Int) (i : Nat) (h : i < l.length) : l.take (i + 1) = l.take i ++ [l.getD i 0] := by
  rw [List.take_succ_eq_append_getElem h]
  simp [List.getD, h]

theorem enc_bytes (n : Nat) : Bytes (enc n) := by
  induction n using Nat.strongRecOn with
  | ind n ih =>
    by_cases h : n < 128
    · rw [enc_small h]; intro x hx; simp at hx; omega
    · rw [enc_big h]
      intro x hx
      rcases List.mem_cons.1 hx with rfl | hx
      · omega
      · exact ih (n / 128) (by omega) x hx

/-- The groups of a number, with anything behind them. -/
theorem lead_enc (n : Nat) (r : List Int) : lead (enc n ++ r) + 1 = (enc n).length := by
  induction n using Nat.strongRecOn with
  | ind n ih =>
    by_cases h : n < 128
    · rw [enc_small h]; simp [lead]; omega
    · rw [enc_big h]
      have := ih (n / 128) (by omega)
      simp only [List.cons_append, lead, List.length_cons]
      rw [if_pos (by omega)]
      omega

theorem val_enc (n : Nat) : val (enc n) = n := by
  induction n using Nat.strongRecOn with
  | ind n ih =>
    by_cases h : n < 128
    · rw [enc_small h]; simp [val]; omega
    · rw [enc_big h, val, ih (n / 128) (by omega)]
      omega

theorem enc_last (n : Nat) (r : List Int) : 0 < lead (enc n ++ r) → (enc n ++ r).getD (lead (enc n ++ r)) 0 ≠ 0 := by
  induction n using Nat.strongRecOn with
  | ind n ih =>
    by_cases h : n < 128
    · rw [enc_small h]; simp only [List.cons_append, lead]; rw [if_neg (by omega)]; omega
    · rw [enc_big h]
      simp only [List.cons_append, lead]
      rw [if_pos (by omega)]
      intro _
      rw [List.getD_cons_succ]
      by_cases h0 : 0 < lead (enc (n / 128) ++ r)
      · exact ih (n / 128) (by omega) h0
      · have e0 : lead (enc (n / 128) ++ r) = 0 := by omega
        rw [e0]
        by_cases h1 : n / 128 < 128
        · rw [enc_small h1]; simp; omega
        · rw [enc_big h1] at e0
          simp only [List.cons_append, lead] at e0
          rw [if_pos (by omega)] at e0
          omega

theorem grp_enc {most n : Nat} (r : List Int) (h : n < 128 ^ most) (hm : 0 < most) : grp most (enc n ++ r) = (n, (enc n).length, 0) := by
  have h1 := lead_enc n r
  have hlen : (enc n).length ≤ most := by
    obtain ⟨m, rfl⟩ : ∃ m, most = m + 1 := ⟨most - 1, by omega⟩
    exact enc_len m n h
  unfold grp
  rw [if_neg (by omega), if_neg (by simp; omega), if_neg (fun hh => enc_last n r hh.1 hh.2), h1]
  simp [val_enc]

/-- What is read is an encoding. -/
theorem enc_val (l : List Int) (hb : Bytes l) (h1 : lead l < l.length) (h2 : ¬ (0 < lead l ∧ l.getD (lead l) 0 = 0)) : enc (val (l.take (lead l + 1))) = l.take (lead l + 1) := by
  induction l with
  | nil => simp at h1
  | cons c l ih =>
    have hc := hb c (by simp)
    by_cases h : 128 ≤ c
    · simp only [lead] at h1 h2 ⊢
      rw [if_pos h] at h1 h2 ⊢
      simp only [List.length_cons] at h1
      rw [List.getD_cons_succ] at h2
      have hne : l.getD (lead l) 0 ≠ 0 := fun he => h2 ⟨by omega, he⟩
      have hi := ih (fun x hx => hb x (List.mem_cons_of_mem _ hx)) (by omega) (fun hh => hne hh.2)
      simp only [List.take_succ_cons, val]
      have hp : 0 < val (l.take (lead l + 1)) := by
        rw [take_snoc' l (lead l) (by omega), val_append _ _ (by
          rw [List.getD_eq_getElem?_getD, List.getElem?_eq_getElem (by omega)]
          exact (hb _ (List.mem_cons_of_mem _ (List.getElem_mem _))).1)]
        have h3 : 0 < (l.getD (lead l) 0 % 128).toNat := by
          have h4 := lead_at l (by omega)
          have h5 : 0 ≤ l.getD (lead l) 0 := by
            rw [List.getD_eq_getElem?_getD, List.getElem?_eq_getElem (by omega)]
            exact (hb _ (List.mem_cons_of_mem _ (List.getElem_mem _))).1
          omega
        have h6 : 0 < (l.getD (lead l) 0 % 128).toNat * 128 ^ (l.take (lead l)).length := Nat.mul_pos h3 (Nat.pos_of_ne_zero (by simp))
        omega
      rw [enc_big (by omega)]
      have e1 : ((c % 128).toNat + 128 * val (l.take (lead l + 1))) / 128 = val (l.take (lead l + 1)) := by omega
      have e2 : ((((c % 128).toNat + 128 * val (l.take (lead l + 1))) % 128 + 128 : Nat) : Int) = c := by omega
      rw [e1, e2, hi]
    · simp only [lead]
      rw [if_neg h]
      simp only [List.take_succ_cons, List.take_zero, val]
      rw [enc_small (by omega)]
      simp; omega

end Go.Proofs.YtbddllklagiajaaDoor

set_option linter.unusedVariables false
set_option linter.unusedSimpArgs false
namespace Go.Proofs.YtbddllklagiajaaDoor
open Go.RowKit Go.Proofs.YtbddllklagiajaaDoorW.PrintWords Go.Proofs.YtbddllklagiajaaDoorW.PrintLast Go.Proofs.YtbddllklagiajaaDoorW.PrintMore

theorem mod_join (v c p r : Nat) (hv : v < p) (hr : 0 < r) : (v + c * p) % (p * r) = v + p * (c % r) := by
  have h1 : v + c * p = v + p * (c % r) + (p * r) * (c / r) := by
    have h2 := Nat.div_add_mod c r
    have h3 : c * p = p * (r * (c / r) + c % r) := by rw [h2, Nat.mul_comm]
    rw [h3, Nat.mul_add, Nat.mul_assoc]
    omega
  rw [h1, Nat.add_mul_mod_self_left]
  refine Nat.mod_eq_of_lt ?_
  have h4 : c % r + 1 ≤ r := Nat.mod_lt _ hr
  have h5 : p * (c % r + 1) ≤ p * r := Nat.mul_le_mul_left _ h4
  rw [Nat.mul_add] at h5
  omega

theorem wraps_u64 (n : Int) (h0 : 0 ≤ n) (h1 : n < 2 ^ 64) : IntKind.u64.wrap n = n := by rw [IntKind.wrap_u64]; omega

/-- One group more. -/
theorem group_step (l : List Int) (i : Nat) (hi : i < l.length) (h9 : i ≤ 9) (hb : Bytes l) :
    Go.bits .or .u64 ((val (l.take i) % 18446744073709551616 : Nat) : Int) (shl .u64 (IntKind.u64.wrap (Go.bits .and .u8 (l.getD i 0) 127)) (wrap64 (7 * (i : Int)))) = ((val (l.take (i + 1)) % 18446744073709551616 : Nat) : Int) := by
  obtain ⟨c, hc⟩ : ∃ c : Nat, l.getD i 0 = (c : Int) ∧ c ≤ 255 := by
    have h1 : l.getD i 0 ∈ l := by
      rw [List.getD_eq_getElem?_getD, List.getElem?_eq_getElem hi]
      exact List.getElem_mem _
    have h2 := hb _ h1
    exact ⟨(l.getD i 0).toNat, by omega, by omega⟩
  obtain ⟨hc, hc2⟩ := hc
  have e1 : Go.bits .and .u8 (l.getD i 0) 127 = ((c % 128 : Nat) : Int) := by
    rw [hc]
    have := bits_mask .u8 8 (by decide) wraps_u8 7 (by decide) (c : Int) (by omega) (by omega)
    refine Eq.trans this ?_
    omega
  have e2 : IntKind.u64.wrap ((c % 128 : Nat) : Int) = ((c % 128 : Nat) : Int) := wraps_u64 _ (by omega) (by omega)
  have e3 : wrap64 (7 * (i : Int)) = ((7 * i : Nat) : Int) := by unfold wrap64; omega
  obtain ⟨p, hp⟩ : ∃ p : Nat, p = 2 ^ (7 * i) := ⟨_, rfl⟩
  have hp128 : p = 128 ^ i := by rw [hp, Nat.pow_mul]
  obtain ⟨r, hr⟩ : ∃ r : Nat, p * r = 18446744073709551616 ∧ 0 < r := by
    refine ⟨2 ^ (64 - 7 * i), ?_, Nat.two_pow_pos _⟩
    rw [hp, ← Nat.pow_add, show 7 * i + (64 - 7 * i) = 64 by omega]
  have hv := val_lt (l.take i)
  rw [List.length_take, Nat.min_eq_left (by omega), ← hp128] at hv
  have hpr : p ≤ p * r := Nat.le_mul_of_pos_right _ hr.2
  have e4 : shl .u64 ((c % 128 : Nat) : Int) ((7 * i : Nat) : Int) = ((p * (c % 128 % r) : Nat) : Int) := by
    unfold shl
    rw [show min ((7 * i : Nat) : Int).toNat IntKind.u64.bits = 7 * i from by simp [IntKind.bits]; omega]
    have h5 : ((c % 128 : Nat) : Int) * 2 ^ (7 * i) = ((c % 128 * p : Nat) : Int) := by rw [hp]; simp
    rw [h5, IntKind.wrap_u64]
    have h6 := mod_join 0 (c % 128) p r (by omega) hr.2
    rw [hr.1, Nat.zero_add, Nat.zero_add] at h6
    omega
  rw [e1, e2, e3, e4, Nat.mod_eq_of_lt (by omega)]
  have hlt : p * (c % 128 % r) < 2 ^ 64 := by
    have h4 : c % 128 % r + 1 ≤ r := Nat.mod_lt _ hr.2
    have h5 : p * (c % 128 % r + 1) ≤ p * r := Nat.mul_le_mul_left _ h4
    rw [Nat.mul_add] at h5
    omega
  rw [(bits_nat .u64 64 (by decide) wraps_u64 _ _ (by omega) hlt).2, Nat.or_comm, hp, ← Nat.two_pow_add_eq_or_of_lt (by omega), ← hp]
  rw [take_snoc' l i hi, val_append _ _ (by omega), List.length_take, Nat.min_eq_left (by omega), ← hp128, hc]
  have h7 := mod_join (val (l.take i)) (c % 128) p r hv hr.2
  rw [hr.1] at h7
  rw [show ((c : Int) % 128).toNat = c % 128 by omega, h7]
  omega

def grpW (most : Nat) (l : List Int) : Int × Int × Int := (((grp most l).1 % 18446744073709551616 : Nat), ((grp most l).2.1 : Nat), ((grp most l).2.2 : Nat))

theorem rd_nat (l : List Int) (i : Nat) : rd l (i : Int) = l.getD i 0 := by simp [rd]

theorem wrap7 {i : Nat} (h : i < 10) : 0 ≤ wrap64 (7 * (i : Int)) := by
  rw [show wrap64 (7 * (i : Int)) = ((7 * i : Nat) : Int) by unfold wrap64; omega]
  omega
theorem groups_l0 (most : Nat) (l : List Int) (hm : most ≤ 10) (hlen : l.length ≤ 9223372036854775806) (hb : Bytes l) (d : Nat) : ∀ (k i : Nat), i + d = min (lead l) most → d < k →
    PCodecNumbers.codec_groups.l0 k l most ((val (l.take i) % 18446744073709551616 : Nat) : Int) l l.length i = some (grpW most l) := by
  have hle := lead_le l
  induction d with
  | zero =>
    intro k i hi hk
    obtain ⟨k, rfl⟩ : ∃ m, k = m + 1 := ⟨k - 1, by omega⟩
    simp only [PCodecNumbers.codec_groups.l0]
    by_cases h1 : most ≤ lead l
    · have hg : grpW most l = (0, 0, 3) := by unfold grpW grp; rw [if_pos h1]; rfl
      rw [hg]
      have him : i = most := by omega
      by_cases h2 : i < l.length
      · rw [if_pos (by omega), if_pos (by omega), if_pos (by omega), if_pos (by omega)]
      · rw [if_neg (by omega), if_pos (by omega)]
    · have hil : i = lead l := by omega
      by_cases h2 : l.length ≤ lead l
      · have hg : grpW most l = (0, 0, 28) := by unfold grpW grp; rw [if_neg h1, if_pos h2]; rfl
        rw [hg, if_neg (by omega), if_neg (by omega)]
      · have hc := lead_at l (by omega)
        rw [← hil] at hc
        rw [if_pos (by omega), if_pos (by omega), if_pos (by omega), if_neg (by omega), if_pos (wrap7 (by omega)), rd_nat, if_pos hc]
        have hstep := group_step l i (by omega) (by omega) hb
        rw [hstep]
        by_cases h3 : l.getD i 0 = 0
        · rw [if_pos h3]
          by_cases h4 : i = 0
          · have hg : grpW most l = (((val (l.take (i + 1)) % 18446744073709551616 : Nat) : Int), ((i + 1 : Nat) : Int), (0 : Int)) := by
              unfold grpW grp; rw [if_neg h1, if_neg h2, if_neg (by omega), ← hil]; rfl
            rw [hg, if_neg (by omega)]
            simp only [Option.some.injEq, Prod.mk.injEq]
            exact ⟨trivial, by unfold wrap64; omega, trivial⟩
          · have hg : grpW most l = (0, 0, 3) := by
              unfold grpW grp; rw [if_neg h1, if_neg h2, if_pos ⟨by omega, by rw [← hil]; exact h3⟩]; rfl
            rw [hg, if_pos (by omega)]
        · rw [if_neg h3]
          have hg : grpW most l = (((val (l.take (i + 1)) % 18446744073709551616 : Nat) : Int), ((i + 1 : Nat) : Int), (0 : Int)) := by
            unfold grpW grp; rw [if_neg h1, if_neg h2, if_neg (by rw [← hil]; exact fun hh => h3 hh.2), ← hil]; rfl
          rw [hg]
          simp only [Option.some.injEq, Prod.mk.injEq]
          exact ⟨trivial, by unfold wrap64; omega, trivial⟩
  | succ d ih =>
    intro k i hi hk
    obtain ⟨k, rfl⟩ : ∃ m, k = m + 1 := ⟨k - 1, by omega⟩
    simp only [PCodecNumbers.codec_groups.l0]
    have hc := lead_lt l i (by omega)
    rw [if_pos (by omega), if_pos (by omega), if_pos (by omega), if_neg (by omega), if_pos (wrap7 (by omega)), rd_nat, if_neg (by omega)]
    rw [group_step l i (by omega) (by omega) hb, show wrap64 ((i : Int) + 1) = ((i + 1 : Nat) : Int) by unfold wrap64; omega]
    exact ih k (i + 1) (by omega) (by omega)

theorem groups_f {k most : Nat} (l : List Int) (hm : most ≤ 10) (hlen : l.length ≤ 9223372036854775806) (hb : Bytes l) (hk : 11 ≤ k) :
    PCodecNumbers.codec_groups.f k l most = some (grpW most l) := by
  unfold PCodecNumbers.codec_groups.f
  exact groups_l0 most l hm hlen hb (min (lead l) most) k 0 (by omega) (by omega)

/-- What Parse answers. -/
def prs (l : List Int) : Int × Int × Int := (((grp 9 l).1 : Nat), ((grp 9 l).2.1 : Nat), ((grp 9 l).2.2 : Nat))

theorem grp9_lt (l : List Int) : (grp 9 l).1 < 9223372036854775808 := by
  unfold grp
  split
  · simp
  split
  · simp
  split
  · simp
  · rename_i h1 h2 h3
    have h4 := val_lt (l.take (lead l + 1))
    have h5 : (l.take (lead l + 1)).length ≤ 9 := by rw [List.length_take]; omega
    have h6 : 128 ^ (l.take (lead l + 1)).length ≤ 128 ^ 9 := Nat.pow_le_pow_right (by omega) h5
    exact Nat.lt_of_lt_of_le h4 h6

theorem Parse_f {k : Nat} (l : List Int) (hlen : l.length ≤ 9223372036854775806) (hb : Bytes l) (hk : 11 ≤ k) : PCodecNumbers.codec_Parse.f k l = some (prs l) := by
  unfold PCodecNumbers.codec_Parse.f
  rw [show (9 : Int) = ((9 : Nat) : Int) from rfl, groups_f l (by omega) hlen hb hk]
  simp only [Option.bind_some, grpW, prs]
  have := grp9_lt l
  rw [show wrap64 ((((grp 9 l).1 % 18446744073709551616 : Nat)) : Int) = ((grp 9 l).1 : Int) by unfold wrap64; omega]

end Go.Proofs.YtbddllklagiajaaDoor

set_option linter.unusedVariables false
set_option linter.unusedSimpArgs false
namespace Go.Proofs.YtbddllklagiajaaDoor
open Go.RowKit Go.Proofs.YtbddllklagiajaaDoorW.PrintWords Go.Proofs.YtbddllklagiajaaDoorW.PrintLast Go.Proofs.YtbddllklagiajaaDoorW.PrintMore

/-- The reference's answer: a number beyond 64 bits is an error. -/
def grpR (most : Nat) (l : List Int) : Nat × Nat × Nat :=
  if (grp most l).2.2 = 0 ∧ lead l = 9 ∧ 1 < l.getD (lead l) 0 then (0, 0, 3) else grp most l

theorem grpR_9 (l : List Int) : grpR 9 l = grp 9 l := by
  unfold grpR
  rw [if_neg]
  rintro ⟨h1, h2, _⟩
  unfold grp at h1
  rw [if_pos (by omega)] at h1
  simp at h1

theorem val_drop (m : List Int) (i : Nat) (h : i < m.length) (hb : 0 ≤ m.getD i 0) : val (m.drop i) = (m.getD i 0 % 128).toNat + 128 * val (m.drop (i + 1)) := by
  rw [List.drop_eq_getElem_cons h]
  simp [val, List.getD, h]

theorem ref_l1 (l : List Int) (e : Nat) (he : e < l.length) (he9 : e ≤ 9) (hb : Bytes l) : ∀ (i k : Nat), i ≤ e + 1 → i < k →
    PImageDecodes.replevinref01_groups.l1 k l e ((val ((l.take (e + 1)).drop i) % 18446744073709551616 : Nat) : Int) ((i : Int) - 1) = some (((val (l.take (e + 1)) % 18446744073709551616 : Nat) : Int), ((e + 1 : Nat) : Int), 0) := by
  intro i
  induction i with
  | zero =>
    intro k hi hk
    obtain ⟨k, rfl⟩ : ∃ m, k = m + 1 := ⟨k - 1, by omega⟩
    simp only [PImageDecodes.replevinref01_groups.l1]
    rw [if_neg (by omega), List.drop_zero, show wrap64 ((e : Int) + 1) = ((e + 1 : Nat) : Int) by unfold wrap64; omega]
  | succ i ih =>
    intro k hi hk
    obtain ⟨k, rfl⟩ : ∃ m, k = m + 1 := ⟨k - 1, by omega⟩
    simp only [PImageDecodes.replevinref01_groups.l1]
    have hx : ((i + 1 : Nat) : Int) - 1 = (i : Int) := by omega
    rw [hx, if_pos (by omega), if_pos (by omega), if_pos (by omega), rd_nat]
    have hg : (l.take (e + 1)).getD i 0 = l.getD i 0 := by
      rw [List.getD_eq_getElem?_getD, List.getD_eq_getElem?_getD, List.getElem?_take_of_lt (by omega)]
    have hc : 0 ≤ l.getD i 0 := by
      rw [List.getD_eq_getElem?_getD, List.getElem?_eq_getElem (by omega)]
      exact (hb _ (List.getElem_mem _)).1
    have hv := val_drop (l.take (e + 1)) i (by rw [List.length_take]; omega) (by rw [hg]; exact hc)
    rw [hg] at hv
    have e1 : IntKind.u64.wrap (IntKind.u64.wrap (128 * ((val ((l.take (e + 1)).drop (i + 1)) % 18446744073709551616 : Nat) : Int)) + IntKind.u64.wrap (Int.tmod (l.getD i 0) 128)) = ((val ((l.take (e + 1)).drop i) % 18446744073709551616 : Nat) : Int) := by
      rw [hv, Int.tmod_eq_emod_of_nonneg hc]
      simp only [IntKind.wrap_u64]
      omega
    rw [e1, show wrap64 ((i : Int) - 1) = (i : Int) - 1 by unfold wrap64; omega]
    exact ih k (by omega) (by omega)

def grpZ (g : Nat × Nat × Nat) : Int × Int × Int := ((g.1 : Int), (g.2.1 : Int), (g.2.2 : Int))

theorem val_lt64 (l : List Int) (hb : Bytes l) (h1 : lead l < l.length) (h2 : lead l ≤ 9) (h3 : ¬ (lead l = 9 ∧ 1 < l.getD (lead l) 0)) : val (l.take (lead l + 1)) < 18446744073709551616 := by
  have hc0 : 0 ≤ l.getD (lead l) 0 := by
    rw [List.getD_eq_getElem?_getD, List.getElem?_eq_getElem h1]
    exact (hb _ (List.getElem_mem _)).1
  by_cases h9 : lead l = 9
  · rw [take_snoc' l _ h1, val_append _ _ (by
      rw [List.getD_eq_getElem?_getD, List.getElem?_eq_getElem h1]
      exact (hb _ (List.getElem_mem _)).1)]
    have h4 := val_lt (l.take (lead l))
    rw [List.length_take, Nat.min_eq_left (by omega)] at h4 ⊢
    have h5 : (l.getD (lead l) 0 % 128).toNat ≤ 1 := by omega
    have h6 : (128 : Nat) ^ lead l = 9223372036854775808 := by rw [h9]
    rw [h6] at h4 ⊢
    have : (l.getD (lead l) 0 % 128).toNat * 9223372036854775808 ≤ 1 * 9223372036854775808 := Nat.mul_le_mul_right _ h5
    omega
  · have h4 := val_lt (l.take (lead l + 1))
    have h5 : (l.take (lead l + 1)).length ≤ 9 := by rw [List.length_take]; omega
    have h6 : 128 ^ (l.take (lead l + 1)).length ≤ 128 ^ 9 := Nat.pow_le_pow_right (by omega) h5
    have : (128 : Nat) ^ 9 = 9223372036854775808 := by decide
    omega

theorem ref_l0 (most : Nat) (l : List Int) (hm : most ≤ 10) (hlen : l.length ≤ 9223372036854775806) (hb : Bytes l) (d : Nat) : ∀ (k i : Nat), i + d = min (lead l) most → d + 20 < k →
    PImageDecodes.replevinref01_groups.l0 k l most i = some (grpZ (grpR most l)) := by
  have hle := lead_le l
  induction d with
  | zero =>
    intro k i hi hk
    obtain ⟨k, rfl⟩ : ∃ m, k = m + 2 := ⟨k - 2, by omega⟩
    have hj : PImageDecodes.replevinref01_groups.j1 (k + 1) l most i = some (grpZ (grpR most l)) := by
      simp only [PImageDecodes.replevinref01_groups.j1]
      by_cases h1 : most ≤ lead l
      · have hg : grpZ (grpR most l) = (0, 0, 3) := by unfold grpR grp; rw [if_pos h1, if_neg (by simp)]; rfl
        rw [hg, if_pos (by omega)]
      · have hil : i = lead l := by omega
        rw [if_neg (by omega)]
        by_cases h2 : l.length ≤ lead l
        · have hg : grpZ (grpR most l) = (0, 0, 28) := by unfold grpR grp; rw [if_neg h1, if_pos h2, if_neg (by simp)]; rfl
          rw [hg, if_pos (by omega)]
        · rw [if_neg (by omega)]
          have key : ∀ b : Bool, (b = true ↔ (0 < i ∧ l.getD i 0 = 0)) → PImageDecodes.replevinref01_groups.j2 k l i b = some (grpZ (grpR most l)) := by
            intro b hbb
            obtain ⟨k, rfl⟩ : ∃ m, k = m + 2 := ⟨k - 2, by omega⟩
            simp only [PImageDecodes.replevinref01_groups.j2]
            by_cases h3 : 0 < i ∧ l.getD i 0 = 0
            · have hg : grpZ (grpR most l) = (0, 0, 3) := by unfold grpR grp; rw [if_neg h1, if_neg h2, ← hil, if_pos h3, if_neg (by simp)]; rfl
              rw [hg, if_pos (hbb.2 h3)]
            · have hgrp : grp most l = (val (l.take (i + 1)), i + 1, 0) := by unfold grp; rw [if_neg h1, if_neg h2, ← hil, if_neg h3]
              rw [if_neg (fun h => h3 (hbb.1 h))]
              have hj3 : ¬ (lead l = 9 ∧ 1 < l.getD (lead l) 0) → PImageDecodes.replevinref01_groups.j3 (k + 1) l i = some (grpZ (grpR most l)) := by
                intro h4
                simp only [PImageDecodes.replevinref01_groups.j3]
                have hl1 := ref_l1 l i (by omega) (by omega) hb (i + 1) k (by omega) (by omega)
                rw [List.drop_eq_nil_of_le (by rw [List.length_take]; omega)] at hl1
                rw [show (((i + 1 : Nat) : Int) - 1) = (i : Int) by omega] at hl1
                refine Eq.trans hl1 ?_
                unfold grpR
                rw [if_neg (fun hh => h4 hh.2), hgrp]
                have hv := val_lt64 l hb (by omega) (by omega) h4
                rw [← hil] at hv
                rw [Nat.mod_eq_of_lt hv]
                rfl
              by_cases h9 : i = 9
              · rw [if_pos (by omega), if_pos (by omega), if_pos (by omega), rd_nat]
                by_cases h4 : l.getD i 0 > 1
                · have hg : grpZ (grpR most l) = (0, 0, 3) := by unfold grpR; rw [if_pos ⟨by rw [hgrp], by omega, by rw [← hil]; exact h4⟩]; rfl
                  rw [hg, if_pos h4]
                · rw [if_neg h4]
                  exact hj3 (fun hh => h4 (by rw [hil]; exact hh.2))
              · rw [if_neg (by omega)]
                exact hj3 (fun hh => h9 (by omega))
          by_cases h3 : i = 0
          · rw [if_neg (by omega)]
            exact key false (by simp; omega)
          · rw [if_pos (by omega), if_pos (by omega), if_pos (by omega), rd_nat]
            exact key _ (by simp; omega)
    simp only [PImageDecodes.replevinref01_groups.l0]
    by_cases h1 : (i : Int) < (l.length : Int)
    · rw [if_pos h1]
      by_cases h2 : (i : Int) < (most : Int)
      · rw [if_pos h2, if_pos (by omega), rd_nat]
        have hc := lead_at l (by omega)
        rw [show lead l = i by omega] at hc
        rw [if_neg (by omega)]
        exact hj
      · rw [if_neg h2]; exact hj
    · rw [if_neg h1]; exact hj
  | succ d ih =>
    intro k i hi hk
    obtain ⟨k, rfl⟩ : ∃ m, k = m + 1 := ⟨k - 1, by omega⟩
    simp only [PImageDecodes.replevinref01_groups.l0]
    have hc := lead_lt l i (by omega)
    rw [if_pos (by omega), if_pos (by omega), if_pos (by omega), rd_nat, if_pos (by omega), show wrap64 ((i : Int) + 1) = ((i + 1 : Nat) : Int) by unfold wrap64; omega]
    exact ih k (i + 1) (by omega) (by omega)

theorem refGroups_f {k most : Nat} (l : List Int) (hm : most ≤ 10) (hlen : l.length ≤ 9223372036854775806) (hb : Bytes l) (hk : 40 ≤ k) :
    PImageDecodes.replevinref01_groups.f k l most = some (grpZ (grpR most l)) := by
  unfold PImageDecodes.replevinref01_groups.f
  exact ref_l0 most l hm hlen hb (min (lead l) most) k 0 (by omega) (by omega)

theorem refParse_f {k : Nat} (l : List Int) (hlen : l.length ≤ 9223372036854775806) (hb : Bytes l) (hk : 40 ≤ k) : PImageDecodes.replevinref01_Parse.f k l = some (prs l) := by
  unfold PImageDecodes.replevinref01_Parse.f
  rw [show (9 : Int) = ((9 : Nat) : Int) from rfl, refGroups_f l (by omega) hlen hb hk]
  simp only [Option.bind_some, grpZ, grpR_9, prs]
  have := grp9_lt l
  rw [show wrap64 (((grp 9 l).1 : Nat) : Int) = ((grp 9 l).1 : Int) by unfold wrap64; omega]

end Go.Proofs.YtbddllklagiajaaDoor

set_option linter.unusedVariables false
set_option linter.unusedSimpArgs false
namespace Go.Proofs.YtbddllklagiajaaDoor
open Go.RowKit Go.Proofs.YtbddllklagiajaaDoorW.PrintWords Go.Proofs.YtbddllklagiajaaDoorW.PrintLast Go.Proofs.YtbddllklagiajaaDoorW.PrintMore

/-- The signed number for which a natural number stands. -/
def unzig (u : Nat) : Int := if u % 2 = 1 then -1 - ((u / 2 : Nat) : Int) else ((u / 2 : Nat) : Int)

def numR (most : Int) (l : List Int) : Int × Int × Int := if (prs l).2.2 = 0 ∧ most < (prs l).1 then (0, 0, 2) else prs l
def sgnR (l : List Int) : Int × Int × Int := if (grpR 10 l).2.2 = 0 then (unzig (grpR 10 l).1, ((grpR 10 l).2.1 : Int), 0) else (0, 0, ((grpR 10 l).2.2 : Int))
def flgR (l : List Int) : Bool × Int × Int := if l.length = 0 then (false, 0, 28) else if 1 < l.getD 0 0 then (false, 0, 3) else (l.getD 0 0 == 1, 1, 0)
def txtR (most : Int) (l : List Int) : ByteArray × Int × Int :=
  if (prs l).2.2 ≠ 0 then (⟨#[]⟩, 0, (prs l).2.2)
  else if min most 16777216 < (prs l).1 then (⟨#[]⟩, 0, 5)
  else if (l.length : Int) - (prs l).2.1 < (prs l).1 then (⟨#[]⟩, 0, 28)
  else (strOfNums ((l.drop (prs l).2.1.toNat).take (prs l).1.toNat), (prs l).2.1 + (prs l).1, 0)

/-- Parse, three ways. -/
theorem prs_cases (l : List Int) (hb : Bytes l) : (prs l = (0, 0, 3)) ∨ (prs l = (0, 0, 28)) ∨ (∃ n k : Nat, prs l = ((n : Int), (k : Int), 0) ∧ n < 9223372036854775808 ∧ 0 < k ∧ k ≤ 9 ∧ k ≤ l.length ∧ enc n = l.take k) := by
  have h9 := grp9_lt l
  unfold prs grp at *
  by_cases h1 : 9 ≤ lead l
  · rw [if_pos h1]; exact .inl rfl
  rw [if_neg h1] at h9 ⊢
  by_cases h2 : l.length ≤ lead l
  · rw [if_pos h2]; exact .inr (.inl rfl)
  rw [if_neg h2] at h9 ⊢
  by_cases h3 : 0 < lead l ∧ l.getD (lead l) 0 = 0
  · rw [if_pos h3]; exact .inl rfl
  rw [if_neg h3] at h9 ⊢
  exact .inr (.inr ⟨_, _, rfl, h9, show 0 < lead l + 1 by omega, show lead l + 1 ≤ 9 by omega, show lead l + 1 ≤ l.length by omega, enc_val l hb (by omega) h3⟩)

/-- groups of at most ten, three ways. -/
theorem grpR_cases (l : List Int) (hb : Bytes l) : (grpR 10 l = (0, 0, 3)) ∨ (grpR 10 l = (0, 0, 28)) ∨
    (∃ n k : Nat, grpR 10 l = (n, k, 0) ∧ n < 18446744073709551616 ∧ 0 < k ∧ k ≤ 10 ∧ k ≤ l.length ∧ enc n = l.take k) := by
  unfold grpR
  by_cases h0 : (grp 10 l).2.2 = 0 ∧ lead l = 9 ∧ 1 < l.getD (lead l) 0
  · rw [if_pos h0]; exact .inl rfl
  rw [if_neg h0]
  unfold grp at h0 ⊢
  by_cases h1 : 10 ≤ lead l
  · rw [if_pos h1]; exact .inl rfl
  rw [if_neg h1] at h0 ⊢
  by_cases h2 : l.length ≤ lead l
  · rw [if_pos h2]; exact .inr (.inl rfl)
  rw [if_neg h2] at h0 ⊢
  by_cases h3 : 0 < lead l ∧ l.getD (lead l) 0 = 0
  · rw [if_pos h3]; exact .inl rfl
  rw [if_neg h3] at h0 ⊢
  have h4 := val_lt64 l hb (by omega) (by omega) (fun hh => h0 ⟨rfl, hh⟩)
  exact .inr (.inr ⟨_, _, rfl, h4, show 0 < lead l + 1 by omega, show lead l + 1 ≤ 10 by omega, show lead l + 1 ≤ l.length by omega, enc_val l hb (by omega) h3⟩)

/-- codec's own groups against the reference's: the tenth byte. -/
theorem grpW_cases (l : List Int) (hb : Bytes l) :
    (grpW 10 l).2.2 ≠ 0 ∧ sgnR l = (0, 0, (grpW 10 l).2.2) ∨
    (∃ n k : Nat, grpW 10 l = ((n : Int), (k : Int), 0) ∧ n < 18446744073709551616 ∧ k ≤ l.length ∧ (k = 10 → 9 < l.length) ∧
      ((k = 10 ∧ 1 < l.getD 9 0 ∧ sgnR l = (0, 0, 3)) ∨ (¬ (k = 10 ∧ 1 < l.getD 9 0) ∧ sgnR l = (unzig n, (k : Int), 0)))) := by
  by_cases he : (grp 10 l).2.2 = 0
  · right
    have hlead : (grp 10 l) = (val (l.take (lead l + 1)), lead l + 1, 0) ∧ lead l < l.length ∧ lead l ≤ 9 := by
      unfold grp at he ⊢
      by_cases h1 : 10 ≤ lead l
      · rw [if_pos h1] at he; simp at he
      rw [if_neg h1] at he ⊢
      by_cases h2 : l.length ≤ lead l
      · rw [if_pos h2] at he; simp at he
      rw [if_neg h2] at he ⊢
      by_cases h3 : 0 < lead l ∧ l.getD (lead l) 0 = 0
      · rw [if_pos h3] at he; simp at he
      rw [if_neg h3]
      exact ⟨rfl, by omega, by omega⟩
    obtain ⟨hg, hl1, hl2⟩ := hlead
    by_cases h9 : lead l = 9 ∧ 1 < l.getD (lead l) 0
    · refine ⟨val (l.take (lead l + 1)) % 18446744073709551616, lead l + 1, by unfold grpW; rw [hg]; rfl, by omega, by omega, fun _ => by omega, .inl ⟨by omega, by rw [← h9.1]; exact h9.2, ?_⟩⟩
      have hR : grpR 10 l = (0, 0, 3) := by unfold grpR; rw [if_pos ⟨he, h9⟩]
      unfold sgnR
      rw [hR]
      rfl
    · have hv := val_lt64 l hb hl1 hl2 h9
      refine ⟨val (l.take (lead l + 1)) % 18446744073709551616, lead l + 1, by unfold grpW; rw [hg]; rfl, by omega, by omega, fun _ => by omega, .inr ⟨fun hh => h9 ⟨by omega, by rw [show lead l = 9 by omega]; exact hh.2⟩, ?_⟩⟩
      have hR : grpR 10 l = grp 10 l := by unfold grpR; rw [if_neg (fun hh => h9 hh.2)]
      unfold sgnR
      rw [hR, hg, Nat.mod_eq_of_lt hv]
      rfl
  · left
    unfold grpW
    refine ⟨by simpa using he, ?_⟩
    have hR : grpR 10 l = grp 10 l := by unfold grpR; rw [if_neg (fun hh => he hh.1)]
    unfold sgnR
    rw [hR, if_neg he]

theorem numR_size (most : Int) (l : List Int) (hb : Bytes l) (h : (numR most l).2.2 = 0) : 0 < (numR most l).2.1 ∧ (numR most l).2.1 ≤ l.length := by
  unfold numR at h ⊢
  by_cases h1 : (prs l).2.2 = 0 ∧ most < (prs l).1
  · rw [if_pos h1] at h; simp at h
  rw [if_neg h1] at h ⊢
  rcases prs_cases l hb with hr | hr | ⟨n, k, hr, _, h3, h4, h5, _⟩
  · rw [hr] at h; simp at h
  · rw [hr] at h; simp at h
  · rw [hr]; simp; omega
theorem sgnR_size (l : List Int) (hb : Bytes l) (h : (sgnR l).2.2 = 0) : 0 < (sgnR l).2.1 ∧ (sgnR l).2.1 ≤ l.length := by
  unfold sgnR at h ⊢
  rcases grpR_cases l hb with hr | hr | ⟨n, k, hr, _, h3, h4, h5, _⟩
  · rw [hr] at h; simp at h
  · rw [hr] at h; simp at h
  · rw [hr]; simp; omega
theorem flgR_size (l : List Int) (h : (flgR l).2.2 = 0) : 0 < (flgR l).2.1 ∧ (flgR l).2.1 ≤ l.length := by
  unfold flgR at h ⊢
  by_cases h1 : l.length = 0
  · rw [if_pos h1] at h; simp at h
  rw [if_neg h1] at h ⊢
  by_cases h2 : 1 < l.getD 0 0
  · rw [if_pos h2] at h; simp at h
  rw [if_neg h2]
  simp; omega
theorem txtR_size (most : Int) (l : List Int) (hb : Bytes l) (h : (txtR most l).2.2 = 0) : 0 < (txtR most l).2.1 ∧ (txtR most l).2.1 ≤ l.length := by
  unfold txtR at h ⊢
  rcases prs_cases l hb with hr | hr | ⟨n, k, hr, _, h3, h4, h5, _⟩
  · rw [hr, if_pos (by simp)] at h; simp at h
  · rw [hr, if_pos (by simp)] at h; simp at h
  · rw [hr, if_neg (by simp)] at h ⊢
    by_cases h6 : min most 16777216 < (n : Int)
    · rw [if_pos h6] at h; simp at h
    rw [if_neg h6] at h ⊢
    by_cases h7 : (l.length : Int) - (k : Int) < (n : Int)
    · rw [if_pos h7] at h; simp at h
    rw [if_neg h7]
    dsimp only
    omega

/-- A value read, or not. -/
def rStep {α : Type} (z : α) (r : α × Int × Int) (s : Nat × Int) : α × Nat × Int := if s.2 = 0 then (if r.2.2 = 0 then (r.1, s.1 + r.2.1.toNat, 0) else (z, s.1, r.2.2)) else (z, s.1, s.2)

end Go.Proofs.YtbddllklagiajaaDoor

namespace Go.Proofs.YtbddllklagiajaaDoor
open Go.RowKit Go.Proofs.YtbddllklagiajaaDoorW.PrintWords Go.Proofs.YtbddllklagiajaaDoorW.PrintLast Go.Proofs.YtbddllklagiajaaDoorW.PrintMore
set_option linter.unusedVariables false
set_option linter.unusedSimpArgs false

theorem wrap_in {x : Int} (h1 : -9223372036854775808 ≤ x) (h2 : x ≤ 9223372036854775807) : wrap64 x = x := by unfold wrap64; omega

/-- The next multiple of 64. -/
def upI (n : Nat) : Nat := (n + 63) / 64 * 64
/-- The first error of an image. -/
def chkI (c d : ByteArray) (z e : Int) : Int :=
  if c.size = 0 then 1 else if c.size % 4 ≠ 0 then 3 else if z < 0 ∨ 4096 < z then 2 else if 4096 < (upI c.size : Int) + d.size + z then 5 else if e < 0 ∨ e % 4 ≠ 0 ∨ (c.size : Int) - 4 < e then 2 else 0

theorem toList_nil (s : ByteArray) : s.toList = ([] : List UInt8) ↔ s.size = 0 := by
  rw [Lib.toList_data]
  have : s.size = s.data.toList.length := rfl
  rw [this, List.length_eq_zero_iff]

theorem dataAt_f (c d : ByteArray) (z e : Int) (hc : c.size ≤ 1000000) : PImageDecodes.image_Image_dataAt.f c d z e = some (upI c.size : Int) := by
  unfold PImageDecodes.image_Image_dataAt.f upI
  rw [wrap_in (x := (c.size : Int) + 64) (by omega) (by omega), wrap_in (x := (c.size : Int) + 64 - 1) (by omega) (by omega), Int.tdiv_eq_ediv_of_nonneg (by omega), wrap_in (x := ((c.size : Int) + 64 - 1) / 64) (by omega) (by omega), wrap_in (by omega) (by omega)]
  exact congrArg some (by omega)
theorem upI_lt (c : ByteArray) (hc : c.size ≤ 1000000) : upI c.size ≤ 1000063 := by unfold upI; omega
theorem end_f (c d : ByteArray) (z e : Int) (hc : c.size ≤ 1000000) (hd : d.size ≤ 1000000) (hz : 0 ≤ z ∧ z ≤ 4096) : PImageDecodes.image_Image_end.f c d z e = some ((upI c.size : Int) + d.size + z) := by
  have h := upI_lt c hc
  unfold PImageDecodes.image_Image_end.f
  rw [dataAt_f c d z e hc]
  simp only [Option.bind_some]
  rw [wrap_in (x := (upI c.size : Int) + d.size) (by omega) (by omega), wrap_in (by omega) (by omega)]
theorem check_f (c d : ByteArray) (z e : Int) (hc : c.size ≤ 1000000) (hd : d.size ≤ 1000000) : PImageDecodes.image_Image_Check.f 2 c d z e = some (chkI c d z e) := by
  unfold PImageDecodes.image_Image_Check.f chkI
  by_cases h0 : c.size = 0
  · rw [if_pos ((toList_nil c).2 h0), if_pos h0]
  rw [if_neg (fun h => h0 ((toList_nil c).1 h)), if_neg h0]
  by_cases h4 : c.size % 4 = 0
  · rw [if_pos (by omega), if_neg (show ¬ (c.size % 4 ≠ 0) from fun h => h h4)]
    by_cases hz : z < 0 ∨ 4096 < z
    · rw [if_pos hz]
      by_cases hz0 : z < 0
      · rw [if_pos hz0]; rfl
      · rw [if_neg hz0, decide_eq_true (by omega)]; rfl
    · rw [if_neg hz, if_neg (by omega), decide_eq_false (by omega)]
      unfold PImageDecodes.image_Image_Check.j0
      dsimp only
      rw [if_neg Bool.false_ne_true]
      rw [end_f c d z e hc hd (by omega)]
      simp only [Option.bind_some]
      by_cases h5 : 4096 < (upI c.size : Int) + d.size + z
      · rw [if_pos h5, if_pos h5]
      rw [if_neg h5, if_neg h5]
      by_cases he : e < 0
      · rw [if_pos he, if_pos (.inl he)]
      rw [if_neg he]
      have ht : Int.tmod e 4 = e % 4 := Int.tmod_eq_emod_of_nonneg (by omega)
      rw [ht]
      by_cases he4 : e % 4 = 0
      · rw [if_pos he4, wrap_in (by omega) (by omega)]
        by_cases hl : (c.size : Int) - 4 < e
        · rw [if_pos hl, if_pos (.inr (.inr hl))]
        · rw [if_neg hl, if_neg (by omega)]
      · rw [if_neg he4, if_pos (.inr (.inl he4))]
  · rw [if_neg (by omega), if_pos h4]
theorem valid_f (c d : ByteArray) (z e : Int) (hc : c.size ≤ 1000000) (hd : d.size ≤ 1000000) : PImageDecodes.image_Image_valid.f 2 c d z e = some (chkI c d z e == 0) := by
  unfold PImageDecodes.image_Image_valid.f
  rw [check_f c d z e hc hd]
  rfl
/-- The end of a valid image. -/
theorem End_f (c d : ByteArray) (z e : Int) (hc : c.size ≤ 1000000) (hd : d.size ≤ 1000000) : PImageDecodes.image_Image_End.f 2 c d z e = some (if chkI c d z e = 0 then (upI c.size : Int) + d.size + z else 0) := by
  unfold PImageDecodes.image_Image_End.f
  rw [valid_f c d z e hc hd]
  simp only [Option.bind_some]
  by_cases h : chkI c d z e = 0
  · have hz : 0 ≤ z ∧ z ≤ 4096 := by
      unfold chkI at h
      repeat' split at h
      all_goals first | (simp at h; done) | omega
    simp [h, end_f c d z e hc hd hz]
  · rw [beq_eq_false_iff_ne.mpr h, if_neg (by decide), if_neg h]
theorem NumPages_f (c d : ByteArray) (z e : Int) (hc : c.size ≤ 1000000) (hd : d.size ≤ 1000000) : PImageDecodes.image_Image_NumPages.f 2 c d z e = some (if chkI c d z e = 0 then ((upI c.size : Int) + d.size + z + 63) / 64 else 0) := by
  unfold PImageDecodes.image_Image_NumPages.f
  rw [End_f c d z e hc hd]
  simp only [Option.bind_some]
  have hu := upI_lt c hc
  by_cases h : chkI c d z e = 0
  · have hz : 0 ≤ z ∧ z ≤ 4096 := by
      unfold chkI at h
      repeat' split at h
      all_goals first | (simp at h; done) | omega
    rw [if_pos h, if_pos h, wrap_in (x := (upI c.size : Int) + d.size + z + 64) (by omega) (by omega), wrap_in (x := (upI c.size : Int) + d.size + z + 64 - 1) (by omega) (by omega), Int.tdiv_eq_ediv_of_nonneg (by omega), wrap_in (by omega) (by omega)]
    exact congrArg some (by omega)
  · rw [if_neg h, if_neg h]
    decide +kernel
theorem DataAt_f (c d : ByteArray) (z e : Int) (hc : c.size ≤ 1000000) (hd : d.size ≤ 1000000) : PImageDecodes.image_Image_DataAt.f 2 c d z e = some (if chkI c d z e = 0 then (upI c.size : Int) else 0) := by
  unfold PImageDecodes.image_Image_DataAt.f
  rw [valid_f c d z e hc hd]
  simp only [Option.bind_some]
  by_cases h : chkI c d z e = 0
  · simp [h, dataAt_f c d z e hc]
  · rw [beq_eq_false_iff_ne.mpr h, if_neg (by decide), if_neg h]
theorem refCheck_f (c d : ByteArray) (z e : Int) (hc : c.size ≤ 1000000) (hd : d.size ≤ 1000000) : PImageDecodes.replevinref20_Check.f 2 c d z e = some (chkI c d z e) := by
  unfold PImageDecodes.replevinref20_Check.f chkI
  by_cases h0 : c.size = 0
  · rw [if_pos ((toList_nil c).2 h0), if_pos h0]
  rw [if_neg (fun h => h0 ((toList_nil c).1 h)), if_neg h0]
  by_cases h4 : c.size % 4 = 0
  · rw [if_pos (by omega), if_neg (show ¬ (c.size % 4 ≠ 0) from fun h => h h4)]
    by_cases hz : z < 0 ∨ 4096 < z
    · rw [if_pos hz]
      by_cases hz0 : z < 0
      · rw [if_pos hz0]; rfl
      · rw [if_neg hz0, decide_eq_true (by omega)]; rfl
    · have hu := upI_lt c hc
      have hup : PImageDecodes.replevinref20_up.f (c.size : Int) = some (upI c.size : Int) := by
        unfold PImageDecodes.replevinref20_up.f upI
        have g1 : wrap64 ((c.size : Int) + 63) = (c.size : Int) + 63 := wrap_in (by omega) (by omega)
        have g2 : wrap64 (((c.size : Int) + 63) / 64) = ((c.size : Int) + 63) / 64 := wrap_in (by omega) (by omega)
        have g3 : wrap64 (((c.size : Int) + 63) / 64 * 64) = ((c.size : Int) + 63) / 64 * 64 := wrap_in (by omega) (by omega)
        rw [g1, Int.tdiv_eq_ediv_of_nonneg (by omega), g2, g3]
        exact congrArg some (by omega)
      rw [if_neg hz, if_neg (by omega), decide_eq_false (by omega)]
      unfold PImageDecodes.replevinref20_Check.j0
      dsimp only
      rw [if_neg Bool.false_ne_true]
      rw [hup, Option.bind_some]
      have e1 : wrap64 ((upI c.size : Int) + d.size) = (upI c.size : Int) + d.size := wrap_in (by omega) (by omega)
      have e2 : wrap64 ((upI c.size : Int) + d.size + z) = (upI c.size : Int) + d.size + z := wrap_in (by omega) (by omega)
      rw [e1, e2]
      by_cases h5 : 4096 < (upI c.size : Int) + d.size + z
      · rw [if_pos h5, if_pos h5]
      rw [if_neg h5, if_neg h5]
      by_cases he : e < 0
      · rw [if_pos he, if_pos (.inl he)]
      rw [if_neg he]
      have ht : Int.tmod e 4 = e % 4 := Int.tmod_eq_emod_of_nonneg (by omega)
      rw [ht]
      by_cases he4 : e % 4 = 0
      · rw [if_pos he4, wrap_in (by omega) (by omega)]
        by_cases hl : (c.size : Int) - 4 < e
        · rw [if_pos hl, if_pos (.inr (.inr hl))]
        · rw [if_neg hl, if_neg (by omega)]
      · rw [if_neg he4, if_pos (.inr (.inl he4))]
  · rw [if_neg (by omega), if_pos h4]

/-- What a valid image keeps. -/
theorem chk_ok {c d : ByteArray} {z e : Int} (h : chkI c d z e = 0) : 0 < c.size ∧ c.size % 4 = 0 ∧ 0 ≤ z ∧ z ≤ 4096 ∧ (upI c.size : Int) + d.size + z ≤ 4096 ∧ 0 ≤ e ∧ e % 4 = 0 ∧ e ≤ (c.size : Int) - 4 := by
  unfold chkI at h
  repeat' split at h
  all_goals first | (simp at h; done) | (refine ⟨by omega, by omega, by omega, by omega, by omega, by omega, by omega, by omega⟩)
end Go.Proofs.YtbddllklagiajaaDoor

namespace Go.Proofs.YtbddllklagiajaaDoor
open Go.RowKit Go.Proofs.YtbddllklagiajaaDoorW.PrintWords Go.Proofs.YtbddllklagiajaaDoorW.PrintLast Go.Proofs.YtbddllklagiajaaDoorW.PrintMore

/-- What a call leaves: the streams as they were; no block has gone; of the blocks that were there only those of S may differ. -/
structure Frm (w w' : World) (S : Nat → Prop) : Prop where
  os : w'.os = w.os
  tape : w'.tape = w.tape
  output : w'.output = w.output
  kept : Kept w w' S

namespace Frm
variable {w w1 w2 w' : World} {S S2 S' : Nat → Prop}
theorem refl (w : World) (S : Nat → Prop) : Frm w w S := ⟨rfl, rfl, rfl, Kept.refl w S⟩
theorem size (h : Frm w w' S) : w.heap.size ≤ w'.heap.size := h.kept.1
theorem of_below {B : Nat} (h : Below B w w') (S : Nat → Prop) (hB : ∀ k, k < w.heap.size → ¬ S k → k < B) : Frm w w' S :=
  ⟨h.os, h.tape, h.output, h.size, fun i hi hn => h.block i (hB i hi hn)⟩
theorem of_fresh (h : Below w.heap.size w w') (S : Nat → Prop) : Frm w w' S := of_below h S (fun _ hk _ => hk)
theorem below {B : Nat} (h : Frm w w' S) (hB : ∀ k, S k → B ≤ k) (hs : B ≤ w.heap.size) : Below B w w' :=
  ⟨h.os, h.tape, h.output, h.kept.1, fun k hk => h.kept.2 k (Nat.lt_of_lt_of_le hk hs) (fun hS => by have := hB k hS; omega)⟩
theorem mono (h : Frm w w' S) (hs : ∀ k, S k → S' k) : Frm w w' S' := ⟨h.os, h.tape, h.output, h.kept.mono hs⟩
theorem then_ (h : Frm w w1 S) (k : Frm w1 w2 S2) (hs : ∀ k, S2 k → S k ∨ w.heap.size ≤ k) : Frm w w2 S :=
  ⟨k.os.trans h.os, k.tape.trans h.tape, k.output.trans h.output, h.kept.then_ k.kept hs⟩
theorem fresh (h : Frm w w1 S) (hb : Below w1.heap.size w1 w2) : Frm w w2 S := h.then_ (of_fresh hb (fun _ => False)) (fun _ hk => hk.elim)
theorem alloc (h : Frm w w1 S) (o : Obj) : Frm w (w1.alloc o) S := h.fresh (below_alloc (Below.refl _ _) o)
theorem drew (h : Frm w w1 S) : Frm w w1.drew S := ⟨h.os, h.tape, h.output, h.kept⟩
theorem drewN (h : Frm w w1 S) (m : Nat) : Frm w (w1.drewN m) S := ⟨h.os, h.tape, h.output, h.kept⟩
theorem setCell (h : Frm w w1 S) {p : Addr} (hp : S p.block ∨ w.heap.size ≤ p.block) (u : Value) : Frm w (w1.setCell p u) S :=
  ⟨h.os, h.tape, h.output, h.kept.setCell hp u⟩
theorem grown {row : Option Nat} (h : Frm w w1 S) (hg : w1.grownBy w2 row) (hr : ∀ k, row = some k → S k ∨ w.heap.size ≤ k) : Frm w w2 S :=
  ⟨hg.os.trans h.os, hg.tape.trans h.tape, hg.output.trans h.output, h.kept.of_grown hg hr⟩
theorem blk {g : Nat} {o : Obj} (h : Frm w w' S) (hb : w.heap[g]? = some o) (hn : ¬ S g) : w'.heap[g]? = some o := blk_kept hb h.kept hn
theorem cell {a : Addr} {v : Value} (h : Frm w w' S) (hc : w.cell? a = some v) (hn : ¬ S a.block) : w'.cell? a = some v := cell_kept hc h.kept hn
end Frm

/-- A row's value is a slice, its length under a name of its own. -/
theorem R_form' {α : Type} {d : Kd α} {e base : Nat} {ok : Nat → Prop} {w : World} {v : Value} {xs : List α} (h : d.R e w base ok v xs) : ∃ A n c, v = .slice A n c := by
  obtain ⟨A, c, he⟩ := Kd.R_slice h
  exact ⟨A, _, c, he⟩

abbrev KB : Kd Int := Kd.int .u8
abbrev KI : Kd Int := Kd.int .i64

/-- A Writer lies at block g: its bytes (a row of the call's own, or nil) and its error. -/
def Wr (base : Nat) (w : World) (g : Nat) (P : Nat → Prop) (out : List Int) (f : Int) : Prop :=
  ∃ v, w.heap[g]? = some (.cells #[v, .int .i64 f] 95 (0, 0)) ∧ base ≤ g ∧ KB.R 5 w base P v out

namespace Wr
variable {base g : Nat} {w w' : World} {P P' S : Nat → Prop} {out : List Int} {f : Int}
theorem mono (h : Wr base w g P out f) (hp : ∀ k, P k → P' k) : Wr base w g P' out f := by
  obtain ⟨v, hb, hg, hr⟩ := h
  exact ⟨v, hb, hg, Kd.R_mono hr hp⟩
theorem frm (h : Wr base w g P out f) (hk : Frm w w' S) (hg : ¬ S g) (hS : ∀ k, P k → ¬ S k) : Wr base w' g P out f := by
  obtain ⟨v, hb, hg', hr⟩ := h
  exact ⟨v, hk.blk hb hg, hg', Kd.R_kept hr hk.kept hS⟩
/-- The row's block is not the Writer's, is there, and is the call's own. -/
theorem tight (h : Wr base w g P out f) : Wr base w g (fun k => P k ∧ k ≠ g ∧ base ≤ k ∧ k < w.heap.size) out f := by
  obtain ⟨v, hb, hg', hr⟩ := h
  refine ⟨v, hb, hg', ?_⟩
  have h1 := Kd.R_types hr hb (by intro q hq; simp [KB, Kd.int, Kd.scalar] at hq; omega)
  exact Kd.R_mono (Kd.R_bound h1) (fun k hk => ⟨hk.1.1, hk.1.2, hk.2.1, hk.2.2.1⟩)
theorem lt (h : Wr base w g P out f) : g < w.heap.size := by
  obtain ⟨v, hb, _⟩ := h
  exact blk_lt hb
end Wr

/-- A slice value reads as xs, and goes on doing so whatever is written in the blocks of S. -/
def Stab {α : Type} (d : Kd α) (w : World) (S : Nat → Prop) (v : Value) (xs : List α) : Prop :=
  ∃ A c, v = .slice A xs.length c ∧ xs.length ≤ c ∧ ∀ W, Kept w W S → d.C W A xs.length xs

namespace Stab
variable {α : Type} {d : Kd α} {w w' : World} {S S' : Nat → Prop} {v : Value} {xs : List α}
theorem of_R {e base : Nat} {ok : Nat → Prop} (h : d.R e w base ok v xs) (hok : ∀ k, ok k → base ≤ k → k < w.heap.size → ¬ S k) : Stab d w S v xs := by
  obtain ⟨A, c, rfl, hc, _⟩ := Kd.R_reads h
  refine ⟨A, c, rfl, hc, Kd.C_kept_own (Kd.R_mono (Kd.R_bound h) (ok' := fun k => ok k ∧ base ≤ k ∧ k < w.heap.size) (fun k hk => ⟨hk.1, hk.2.1, hk.2.2.1⟩)) (fun k hk => hok k hk.1 hk.2.1 hk.2.2)⟩
theorem step (h : Stab d w S v xs) (hk : Kept w w' S) : Stab d w' S v xs := by
  obtain ⟨A, c, e, hc, hC⟩ := h
  exact ⟨A, c, e, hc, Kd.C_kept_step hC hk⟩
theorem fewer (h : Stab d w S v xs) (hs : ∀ k, k < w.heap.size → S' k → S k) : Stab d w S' v xs := by
  obtain ⟨A, c, e, hc, hC⟩ := h
  exact ⟨A, c, e, hc, fun W hk => hC W ⟨hk.1, fun i hi hn => hk.2 i hi (fun hs' => hn (hs i hi hs'))⟩⟩
theorem now (h : Stab d w S v xs) : ∃ A c, v = .slice A xs.length c ∧ xs.length ≤ c ∧ d.C w A xs.length xs := by
  obtain ⟨A, c, e, hc, hC⟩ := h
  exact ⟨A, c, e, hc, hC w (Kept.refl w S)⟩
theorem form (h : Stab d w S v xs) : ∃ A n c, v = .slice A n c := by
  obtain ⟨A, c, e, _⟩ := h
  exact ⟨A, _, c, e⟩
theorem nil (d : Kd α) (w : World) (S : Nat → Prop) : Stab d w S (.slice none 0 0) ([] : List α) := ⟨none, 0, rfl, Nat.le_refl _, fun W _ => Kd.C_nil d W⟩
/-- The bytes of a string, converted. -/
theorem bytes (w : World) (s : ByteArray) (hs : s.size ≤ 9223372036854775807) (hS : ¬ S w.heap.size) (c : Nat) (hc : s.size ≤ c) : Stab KB (Lib.bytesWorld w 5 s) S (.slice (some ⟨w.heap.size, 0, none⟩) s.size c) (bytesOf s) := by
  have hl := bytesOf_length s
  refine ⟨some ⟨w.heap.size, 0, none⟩, c, by rw [hl], by omega, fun W hk => ?_⟩
  rw [hl]
  refine Kd.C_of_reads (d := 0) ?_
  have h1 := bytes_reads w 5 s hs
  refine ⟨h1.1, h1.2.1, fun hn => ?_⟩
  obtain ⟨ad, e, hcell⟩ := h1.2.2 hn
  refine ⟨ad, e, fun j hj => cell_kept (hcell j hj) hk ?_⟩
  have : ad = ⟨w.heap.size, 0, none⟩ := by injection e with e; exact e.symm
  subst this
  rw [add_plain]
  exact hS
end Stab

/-- Slices laid in a new block: the block reads as their lists, and goes on doing so. -/
theorem parts_stab {w : World} (S : Nat → Prop) (vs : List Value) (ps : List (List Int)) (hl : vs.length = ps.length) (h : ∀ (j : Nat) (v : Value) (xs : List Int), vs[j]? = some v → ps[j]? = some xs → Stab KB w S v xs) (hS : ¬ S w.heap.size) (hm : ps.length ≤ 1000000000) :
    ∀ W, Kept (w.alloc (.cells vs.toArray 46)) W S → (Kd.slice 5 KB).C W (some ⟨w.heap.size, 0, none⟩) ps.length ps := by
  intro W hk
  refine ⟨rfl, by omega, fun _ => ⟨_, rfl, fun j p hj => ?_⟩⟩
  have hj1 : j < vs.length := by rw [hl]; exact (List.getElem?_eq_some_iff.1 hj).1
  have hv := List.getElem?_eq_getElem hj1
  obtain ⟨A, c, e, hc, hC⟩ := h j _ p hv hj
  refine ⟨[vs[j]], rfl, ⟨A, c, by rw [e], hc, hC W ?_⟩, fun i u hu => ?_⟩
  · have h1 : Kept w (w.alloc (.cells vs.toArray 46)) S := (Kept.refl w S).alloc _
    exact h1.then_ hk (fun _ h => .inl h)
  · have hi : i = 0 := by
      have := (List.getElem?_eq_some_iff.1 hu).1
      simp at this
      omega
    subst hi
    simp at hu
    rw [add_plain]
    refine cell_kept ?_ hk hS
    rw [blk_cell (blk_new w _), ← hu]
    simp [Kd.slice, hj1]
end Go.Proofs.YtbddllklagiajaaDoor

namespace Go.Proofs.YtbddllklagiajaaDoor
open Go.RowKit Go.Proofs.YtbddllklagiajaaDoorW.PrintWords Go.Proofs.YtbddllklagiajaaDoorW.PrintLast Go.Proofs.YtbddllklagiajaaDoorW.PrintMore
set_option linter.unusedVariables false
set_option linter.unusedSimpArgs false

/-- A word rotated to the right. -/
def rot (n x : Int) : Int := Go.bits .or .u32 (x * 2 ^ min (32 - n).toNat 32 % 4294967296) (x / 2 ^ n.toNat)

theorem rotl_calls (n m x : Int) (w : World) (e : Go.bits .and .u64 (IntKind.u64.wrap m) 31 = 32 - n) (e2 : IntKind.u64.wrap (32 - (32 - n)) = n) (h1 : 0 ≤ n) (h2 : n ≤ 31) :
    Calls Tryd.prog 89 #[.int .u32 x, .int .i64 m] w fun e w' => e = .returned (.int .u32 (rot n x)) ∧ w' = w := by
  obtain ⟨k, hk⟩ : ∃ k, 32 - n = k := ⟨_, rfl⟩
  unfold rot
  rw [hk] at e e2 ⊢
  have hk0 : decide (k < 0) = false := decide_eq_false (by omega)
  have hk1 : ¬ k < 0 := by omega
  have hn0 : decide (n < 0) = false := decide_eq_false (by omega)
  have hn1 : ¬ n < 0 := by omega
  clear hk
  go_enter Tryd.func89, Tryd.ntmps89
  go_wp2
  go_ret
  exact ⟨rfl, rfl⟩

theorem right_calls (n x : Int) (w : World) (hn : n = 2 ∨ n = 6 ∨ n = 7 ∨ n = 11 ∨ n = 13 ∨ n = 17 ∨ n = 18 ∨ n = 19 ∨ n = 22 ∨ n = 25) :
    Calls Tryd.prog 84 #[.int .i64 n, .int .u32 x] w fun e w' => e = .returned (.int .u32 (rot n x)) ∧ w' = w := by
  have HR := Aside0.mk (show ∀ W : World, Calls Tryd.prog 89 #[.int .u32 x, .int .i64 (-n)] W fun e w' => e = .returned (.int .u32 (rot n x)) ∧ w' = W from fun W => rotl_calls n (-n) x W (by rcases hn with rfl | rfl | rfl | rfl | rfl | rfl | rfl | rfl | rfl | rfl <;> decide) (by rcases hn with rfl | rfl | rfl | rfl | rfl | rfl | rfl | rfl | rfl | rfl <;> decide) (by omega) (by omega))
  have hw : IntKind.i64.wrap (-n) = -n := by rcases hn with rfl | rfl | rfl | rfl | rfl | rfl | rfl | rfl | rfl | rfl <;> decide
  go_enter Tryd.func84, Tryd.ntmps84
  go_wp2_with fail
  refine (HR.out _).mono ?_
  rintro e w' ⟨rfl, rfl⟩
  go_wp2
  go_ret
  exact ⟨rfl, rfl⟩
end Go.Proofs.YtbddllklagiajaaDoor

namespace Go.Proofs.YtbddllklagiajaaDoor
open Go.RowKit Go.Proofs.YtbddllklagiajaaDoorW.PrintWords Go.Proofs.YtbddllklagiajaaDoorW.PrintLast Go.Proofs.YtbddllklagiajaaDoorW.PrintMore
set_option linter.unusedVariables false
set_option linter.unusedSimpArgs false

theorem i64_in {x : Int} (h1 : -9223372036854775808 ≤ x) (h2 : x ≤ 9223372036854775807) : IntKind.i64.wrap x = x := by
  rw [IntKind.wrap_i64]; omega

theorem _root_.Go.RowKit.Below.dr {B : Nat} {a w : World} (h : Below B a w) : Below B a w.drew := ⟨h.os, h.tape, h.output, h.size, h.block⟩

/-- An array of words in a block of its own. -/
def Arr (w : World) (g t : Nat) (xs : List Int) : Prop := w.heap[g]? = some (.cells (xs.map (Value.int .u32)).toArray t (0, 0))

namespace Arr
variable {w w' : World} {g t : Nat} {xs : List Int}
theorem cell (h : Arr w g t xs) (i : Nat) (hi : i < xs.length) : w.cell? ⟨g, i, none⟩ = some (.int .u32 (xs.getD i 0)) := by
  rw [blk_cell h i]
  simp [hi]
theorem frozen (h : Arr w g t xs) (i : Nat) : w.frozen? ⟨g, i, none⟩ = false := blk_frozen h i
theorem set (h : Arr w g t xs) (i : Nat) (v : Int) : Arr (w.setCell ⟨g, i, none⟩ (.int .u32 v)) g t (xs.set i v) := by
  have := blk_set h i (.int .u32 v)
  unfold Arr
  rw [this]
  congr 2
  rw [List.map_set]
  simp
theorem kept {S : Nat → Prop} (h : Arr w g t xs) (hk : Kept w w' S) (hg : ¬ S g) : Arr w' g t xs := blk_kept h hk hg
theorem below {B : Nat} (h : Arr w g t xs) (hb : Below B w w') (hg : g < B) : Arr w' g t xs := (hb.block _ hg).trans h
theorem lt (h : Arr w g t xs) : g < w.heap.size := blk_lt h
theorem far (h : Arr w g t xs) (k i : Nat) (v : Value) (hk : g ≠ k) : Arr (w.setCell ⟨k, i, none⟩ v) g t xs := blk_far h (p := ⟨k, i, none⟩) hk v
theorem drewN (h : Arr w g t xs) (m : Nat) : Arr (w.drewN m) g t xs := h
theorem drew (h : Arr w g t xs) : Arr w.drew g t xs := h
theorem alloc (h : Arr w g t xs) (o : Obj) : Arr (w.alloc o) g t xs := blk_alloc h o
theorem new (w : World) (t : Nat) (xs : List Int) : Arr (w.alloc (.cells (xs.map (Value.int .u32)).toArray t)) w.heap.size t xs := blk_new w _
end Arr

theorem list8 {xs : List Int} (h : xs.length = 8) : ∃ x0 x1 x2 x3 x4 x5 x6 x7, xs = [x0, x1, x2, x3, x4, x5, x6, x7] := by
  match xs, h with
  | [x0, x1, x2, x3, x4, x5, x6, x7], _ => exact ⟨x0, x1, x2, x3, x4, x5, x6, x7, rfl⟩

/-- The words of the rounds. -/
def kS : List Int := [1116352408, 1899447441, 3049323471, 3921009573, 961987163, 1508970993, 2453635748, 2870763221, 3624381080, 310598401, 607225278, 1426881987, 1925078388, 2162078206, 2614888103, 3248222580, 3835390401, 4022224774, 264347078, 604807628, 770255983, 1249150122, 1555081692, 1996064986, 2554220882, 2821834349, 2952996808, 3210313671, 3336571891, 3584528711, 113926993, 338241895, 666307205, 773529912, 1294757372, 1396182291, 1695183700, 1986661051, 2177026350, 2456956037, 2730485921, 2820302411, 3259730800, 3345764771, 3516065817, 3600352804, 4094571909, 275423344, 430227734, 506948616, 659060556, 883997877, 958139571, 1322822218, 1537002063, 1747873779, 1955562222, 2024104815, 2227730452, 2361852424, 2428436474, 2756734187, 3204031479, 3329325298]
/-- The table lies in the program's variable. -/
def KT (w : World) : Prop := 0 < w.heap.size ∧ ∀ i, i < 64 → w.cell? ⟨0, i, none⟩ = some (.int .u32 (kS.getD i 0))
theorem KT.below {w w' : World} {B : Nat} (h : KT w) (hb : Below B w w') (hB : 0 < B) : KT w' := by
  refine ⟨Nat.lt_of_lt_of_le h.1 hb.size, fun i hi => ?_⟩
  have := h.2 i hi
  rw [← this]
  unfold World.cell?
  rw [hb.block 0 hB]
theorem KT.after {w w' : World} (h : KT w) (hb : Below w.heap.size w w') : KT w' := h.below hb h.1

def xorU (a b : Int) : Int := Go.bits .xor .u32 a b
def andU (a b : Int) : Int := Go.bits .and .u32 a b
def orU (a b : Int) : Int := Go.bits .or .u32 a b
/-- A word of a block's bytes. -/
def wordB (l : List Int) (k : Nat) : Int := orU (orU (orU (l.getD (4 * k) 0 % 4294967296 * 16777216 % 4294967296) (l.getD (4 * k + 1) 0 % 4294967296 * 65536 % 4294967296)) (l.getD (4 * k + 2) 0 % 4294967296 * 256 % 4294967296)) (l.getD (4 * k + 3) 0 % 4294967296)
/-- The next word of the schedule. -/
def nextW (ws : List Int) (k : Nat) : Int := (ws.getD (k - 16) 0 + xorU (xorU (rot 7 (ws.getD (k - 15) 0)) (rot 18 (ws.getD (k - 15) 0))) (ws.getD (k - 15) 0 / 8) + ws.getD (k - 7) 0 + xorU (xorU (rot 17 (ws.getD (k - 2) 0)) (rot 19 (ws.getD (k - 2) 0))) (ws.getD (k - 2) 0 / 1024)) % 4294967296
/-- The array of the words, the first k of the first sixteen being there. -/
def first16 (l : List Int) : Nat → List Int
  | 0 => List.replicate 64 0
  | k + 1 => (first16 l k).set k (wordB l k)
/-- The array of the words, n more being there. -/
def sched (l : List Int) : Nat → List Int
  | 0 => first16 l 16
  | n + 1 => (sched l n).set (n + 16) (nextW (sched l n) (n + 16))
theorem first16_len (l : List Int) : ∀ k, (first16 l k).length = 64
  | 0 => List.length_replicate
  | k + 1 => by unfold first16; rw [List.length_set, first16_len l k]
theorem sched_len (l : List Int) : ∀ k, (sched l k).length = 64
  | 0 => first16_len l 16
  | k + 1 => by unfold sched; rw [List.length_set, sched_len l k]
/-- One round. -/
def temp1 (kk ww : Int) (x4 x5 x6 x7 : Int) : Int := x7 + xorU (xorU (rot 6 x4) (rot 11 x4)) (rot 25 x4) + xorU (andU x4 x5) (andU (xorU IntKind.u32.max x4) x6) + kk + ww
def temp2 (x0 x1 x2 : Int) : Int := xorU (xorU (rot 2 x0) (rot 13 x0)) (rot 22 x0) + xorU (xorU (andU x0 x1) (andU x0 x2)) (andU x1 x2)
def roundS (kk ww : Int) : List Int → List Int
  | [x0, x1, x2, x3, x4, x5, x6, x7] => [(temp1 kk ww x4 x5 x6 x7 + temp2 x0 x1 x2) % 4294967296, x0, x1, x2, (x3 + temp1 kk ww x4 x5 x6 x7) % 4294967296, x4, x5, x6]
  | xs => xs
def rounds (ws s : List Int) : Nat → List Int
  | 0 => s
  | k + 1 => roundS (kS.getD k 0) (ws.getD k 0) (rounds ws s k)
theorem roundS_len (kk ww : Int) (xs : List Int) (h : xs.length = 8) : (roundS kk ww xs).length = 8 := by
  obtain ⟨x0, x1, x2, x3, x4, x5, x6, x7, rfl⟩ := list8 h
  rfl
theorem rounds_len (ws s : List Int) (h : s.length = 8) : ∀ k, (rounds ws s k).length = 8
  | 0 => h
  | k + 1 => roundS_len _ _ _ (rounds_len ws s h k)
/-- The sums at the end. -/
def addS (s x : List Int) : Nat → List Int
  | 0 => s
  | k + 1 => (addS s x k).set k (((addS s x k).getD k 0 + x.getD k 0) % 4294967296)
theorem addS_len (s x : List Int) : ∀ k, (addS s x k).length = s.length
  | 0 => rfl
  | k + 1 => by unfold addS; rw [List.length_set, addS_len s x k]
/-- The state behind a block. -/
def blkS (s l : List Int) : List Int := addS s (rounds (sched l 48) s 64) 8
theorem blkS_len (s l : List Int) (h : s.length = 8) : (blkS s l).length = 8 := by unfold blkS; rw [addS_len]; exact h

theorem byte_at (b : ByteArray) (m : Nat) (h : m < b.size) : ((b[m]'h).toNat : Int) = (bytesOf b).getD m 0 := by
  have h2 : m < (bytesOf b).length := by rw [bytesOf_length]; exact h
  rw [List.getD_eq_getElem?_getD, List.getElem?_eq_getElem h2]
  simp only [bytesOf, List.getElem_map, Option.getD_some]
  rfl

set_option maxHeartbeats 8000000 in
set_option maxRecDepth 100000 in
theorem block_calls (s0 s1 s2 s3 s4 s5 s6 s7 : Int) (b : ByteArray) (hb : b.size = 64) (w : World) (hK : KT w) :
    Calls Tryd.prog 75 #[.agg #[.int .u32 s0, .int .u32 s1, .int .u32 s2, .int .u32 s3, .int .u32 s4, .int .u32 s5, .int .u32 s6, .int .u32 s7], .string b] w fun e w' => (∃ r0 r1 r2 r3 r4 r5 r6 r7 : Int, blkS [s0, s1, s2, s3, s4, s5, s6, s7] (bytesOf b) = [r0, r1, r2, r3, r4, r5, r6, r7] ∧ e = .returned (.agg #[.int .u32 r0, .int .u32 r1, .int .u32 r2, .int .u32 r3, .int .u32 r4, .int .u32 r5, .int .u32 r6, .int .u32 r7])) ∧ Below w.heap.size w w' := by
  obtain ⟨l, hl⟩ : ∃ l, bytesOf b = l := ⟨_, rfl⟩
  have HL := Aside0.mk hl
  have HK := Aside0.mk hK
  rw [hl]
  clear hl hK
  go_enter Tryd.func75, Tryd.ntmps75
  go_wp2
  obtain ⟨W0, hW0⟩ : ∃ W0, ((w.alloc (.cells #[.int .u32 s0, .int .u32 s1, .int .u32 s2, .int .u32 s3, .int .u32 s4, .int .u32 s5, .int .u32 s6, .int .u32 s7] 84)).alloc (.cells #[.int .u32 0, .int .u32 0, .int .u32 0, .int .u32 0, .int .u32 0, .int .u32 0, .int .u32 0, .int .u32 0] 84)).alloc (.cells (((List.replicate 64 (0 : Int)).map (Value.int .u32)).toArray) 123) = W0 := ⟨_, rfl⟩
  have A0 : Arr W0 w.heap.size 84 [s0, s1, s2, s3, s4, s5, s6, s7] := by
    rw [← hW0]
    exact ((Arr.new w 84 [s0, s1, s2, s3, s4, s5, s6, s7]).alloc _).alloc _
  have A1 : Arr W0 (w.heap.size + 1) 84 (List.replicate 8 0) := by
    rw [← hW0]
    have := Arr.new (w.alloc (.cells #[.int .u32 s0, .int .u32 s1, .int .u32 s2, .int .u32 s3, .int .u32 s4, .int .u32 s5, .int .u32 s6, .int .u32 s7] 84)) 84 (List.replicate 8 0)
    rw [World.size_alloc] at this
    exact this.alloc _
  have A2 : Arr W0 (w.heap.size + 1 + 1) 123 (List.replicate 64 0) := by
    rw [← hW0]
    have := Arr.new ((w.alloc (.cells #[.int .u32 s0, .int .u32 s1, .int .u32 s2, .int .u32 s3, .int .u32 s4, .int .u32 s5, .int .u32 s6, .int .u32 s7] 84)).alloc (.cells #[.int .u32 0, .int .u32 0, .int .u32 0, .int .u32 0, .int .u32 0, .int .u32 0, .int .u32 0, .int .u32 0] 84)) 123 (List.replicate 64 0)
    rw [World.size_alloc, World.size_alloc] at this
    exact this
  have B0 : Below w.heap.size w W0 := by rw [← hW0]; exact below_alloc (below_alloc (below_alloc (Below.refl _ _) _) _) _
  have e0 : (((List.replicate 64 (0 : Int)).map (Value.int .u32)).toArray) = #[.int .u32 0, .int .u32 0, .int .u32 0, .int .u32 0, .int .u32 0, .int .u32 0, .int .u32 0, .int .u32 0, .int .u32 0, .int .u32 0, .int .u32 0, .int .u32 0, .int .u32 0, .int .u32 0, .int .u32 0, .int .u32 0, .int .u32 0, .int .u32 0, .int .u32 0, .int .u32 0, .int .u32 0, .int .u32 0, .int .u32 0, .int .u32 0, .int .u32 0, .int .u32 0, .int .u32 0, .int .u32 0, .int .u32 0, .int .u32 0, .int .u32 0, .int .u32 0, .int .u32 0, .int .u32 0, .int .u32 0, .int .u32 0, .int .u32 0, .int .u32 0, .int .u32 0, .int .u32 0, .int .u32 0, .int .u32 0, .int .u32 0, .int .u32 0, .int .u32 0, .int .u32 0, .int .u32 0, .int .u32 0, .int .u32 0, .int .u32 0, .int .u32 0, .int .u32 0, .int .u32 0, .int .u32 0, .int .u32 0, .int .u32 0, .int .u32 0, .int .u32 0, .int .u32 0, .int .u32 0, .int .u32 0, .int .u32 0, .int .u32 0, .int .u32 0] := rfl
  rw [e0] at hW0
  rw [hW0]
  clear hW0 e0
  obtain ⟨g, hg⟩ : ∃ g, w.heap.size = g := ⟨_, rfl⟩
  rw [hg] at A0 A1 A2 B0 ⊢
  have hA0 := Aside0.mk A0
  have hA1 := Aside0.mk A1
  have hA2 := Aside0.mk A2
  have hB0 := Aside0.mk B0
  clear A0 A1 A2 B0
  go_loopw [6, 17] (fun v6 i wr => ∃ k : Nat, k ≤ 16 ∧ i = .int .i64 k ∧ Arr wr g 84 [s0, s1, s2, s3, s4, s5, s6, s7] ∧ Arr wr (g + 1) 84 (List.replicate 8 0) ∧ Arr wr (g + 1 + 1) 123 (first16 l k) ∧ Below g w wr) (fun _ i _ => 16 - (intOf i).toNat)
  case atStart => exact ⟨0, Nat.zero_le _, rfl, hA0.out, hA1.out, hA2.out, hB0.out⟩
  case round =>
    obtain ⟨k, hk, rfl, A0, A1, A2, B⟩ := hrel
    have hws := first16_len l k
    have HA0 := Aside0.mk A0
    have HA1 := Aside0.mk A1
    have HA2 := Aside0.mk A2
    have HB := Aside0.mk B
    clear A0 A1 A2 B hA0 hA1 hA2 hB0
    by_cases hlt : k < 16
    · obtain ⟨m0, hm0⟩ : ∃ m : Nat, 4 * k = m := ⟨_, rfl⟩
      obtain ⟨m1, hm1⟩ : ∃ m : Nat, 4 * k + 1 = m := ⟨_, rfl⟩
      obtain ⟨m2, hm2⟩ : ∃ m : Nat, 4 * k + 2 = m := ⟨_, rfl⟩
      obtain ⟨m3, hm3⟩ : ∃ m : Nat, 4 * k + 3 = m := ⟨_, rfl⟩
      have q0 : IntKind.i64.wrap (4 * (k : Int)) = (m0 : Int) := by rw [i64_in (by omega) (by omega)]; omega
      have q1 : IntKind.i64.wrap ((m0 : Int) + 1) = (m1 : Int) := by rw [i64_in (by omega) (by omega)]; omega
      have q2 : IntKind.i64.wrap ((m0 : Int) + 2) = (m2 : Int) := by rw [i64_in (by omega) (by omega)]; omega
      have q3 : IntKind.i64.wrap ((m0 : Int) + 3) = (m3 : Int) := by rw [i64_in (by omega) (by omega)]; omega
      have k64 : (k : Int) < 64 := by omega
      have i0 : m0 < b.size := by omega
      have i1 : m1 < b.size := by omega
      have i2 : m2 < b.size := by omega
      have i3 : m3 < b.size := by omega
      have f0 : wr.frozen? ⟨g + 1 + 1, k, none⟩ = false := HA2.out.frozen k
      have c0 : wr.cell? ⟨g + 1 + 1, k, none⟩ = some (.int .u32 ((first16 l k).getD k 0)) := HA2.out.cell k (by omega)
      have hwo : orU (orU (orU ((b[m0]'i0).toNat % 4294967296 * 16777216 % 4294967296) ((b[m1]'i1).toNat % 4294967296 * 65536 % 4294967296)) ((b[m2]'i2).toNat % 4294967296 * 256 % 4294967296)) ((b[m3]'i3).toNat % 4294967296) = wordB l k := by
        unfold wordB
        rw [byte_at, byte_at, byte_at, byte_at, HL.out, hm1, hm2, hm3, hm0]
      have HWO := Aside0.mk hwo
      have HBS := Aside0.mk hb
      have HM := Aside0.mk (And.intro hm0 (And.intro hm1 (And.intro hm2 hm3)))
      clear hb hwo hm0 hm1 hm2 hm3
      go_wp2_with fail
      go_still_tail 31, (by kernel_rfl)
      change wpList _ _ _ _ _ wr.drew
      go_wp2_with fail
      go_roundw
      case rel =>
        have e := HWO.out
        unfold orU at e
        rw [e]
        refine ⟨k + 1, by omega, by go_num, HA0.out.far (g + 1 + 1) k _ (by omega), HA1.out.far (g + 1 + 1) k _ (by omega), HA2.out.set k _, (HB.out.setCell (p := ⟨g + 1 + 1, k, none⟩) (by show g ≤ g + 1 + 1; omega) _).dr⟩
      case measure => simp [intOf]; omega
    · obtain rfl : k = 16 := by omega
      clear hlt hk
      have HBS := Aside0.mk hb
      clear hb
      go_wp2_with fail
      go_loopw [7, 8, 9] (fun i v8 v9 wr => ∃ k : Nat, 16 ≤ k ∧ k ≤ 64 ∧ i = .int .i64 k ∧ Arr wr g 84 [s0, s1, s2, s3, s4, s5, s6, s7] ∧ Arr wr (g + 1) 84 (List.replicate 8 0) ∧ Arr wr (g + 1 + 1) 123 (sched l (k - 16)) ∧ Below g w wr) (fun i _ _ _ => 64 - (intOf i).toNat)
      case atStart => exact ⟨16, Nat.le_refl _, by omega, rfl, HA0.out, HA1.out, HA2.out, HB.out⟩
      case round =>
        clear HA0 HA1 HA2 HB hws
        obtain ⟨k, hk, hk6, rfl, A0, A1, A2, B⟩ := hrel
        obtain ⟨n, hn⟩ : ∃ n, k - 16 = n := ⟨_, rfl⟩
        rw [hn] at A2
        obtain ⟨ws, hws⟩ : ∃ ws, sched l n = ws := ⟨_, rfl⟩
        have hwl := sched_len l n
        rw [hws] at A2 hwl
        have HWS := Aside0.mk hws
        have HA0 := Aside0.mk A0
        have HA1 := Aside0.mk A1
        have HA2 := Aside0.mk A2
        have HB := Aside0.mk B
        clear A0 A1 A2 B hws
        by_cases hlt : k < 64
        · obtain ⟨m15, hm15⟩ : ∃ m : Nat, k - 15 = m := ⟨_, rfl⟩
          obtain ⟨m2, hm2⟩ : ∃ m : Nat, k - 2 = m := ⟨_, rfl⟩
          obtain ⟨m16, hm16⟩ : ∃ m : Nat, k - 16 = m := ⟨_, rfl⟩
          obtain ⟨m7, hm7⟩ : ∃ m : Nat, k - 7 = m := ⟨_, rfl⟩
          have q0 : IntKind.i64.wrap ((k : Int) - 15) = (m15 : Int) := by rw [i64_in (by omega) (by omega)]; omega
          have q1 : IntKind.i64.wrap ((k : Int) - 2) = (m2 : Int) := by rw [i64_in (by omega) (by omega)]; omega
          have q2 : IntKind.i64.wrap ((k : Int) - 16) = (m16 : Int) := by rw [i64_in (by omega) (by omega)]; omega
          have q3 : IntKind.i64.wrap ((k : Int) - 7) = (m7 : Int) := by rw [i64_in (by omega) (by omega)]; omega
          have k64 : (k : Int) < 64 := by omega
          have i15 : (m15 : Int) < 64 := by omega
          have i2 : (m2 : Int) < 64 := by omega
          have i16 : (m16 : Int) < 64 := by omega
          have i7 : (m7 : Int) < 64 := by omega
          have hnx : nextW ws k = nextW ws k := rfl
          unfold nextW at hnx
          rw [hm15, hm2, hm16, hm7] at hnx
          obtain ⟨x15, hx15⟩ : ∃ x, ws.getD m15 0 = x := ⟨_, rfl⟩
          obtain ⟨x2, hx2⟩ : ∃ x, ws.getD m2 0 = x := ⟨_, rfl⟩
          obtain ⟨x16, hx16⟩ : ∃ x, ws.getD m16 0 = x := ⟨_, rfl⟩
          obtain ⟨x7, hx7⟩ : ∃ x, ws.getD m7 0 = x := ⟨_, rfl⟩
          have c15 : ∀ q, (wr.drewN q).cell? ⟨g + 1 + 1, m15, none⟩ = some (.int .u32 x15) := fun q => by rw [← hx15]; exact (HA2.out.drewN q).cell m15 (by omega)
          have c2 : ∀ q, (wr.drewN q).cell? ⟨g + 1 + 1, m2, none⟩ = some (.int .u32 x2) := fun q => by rw [← hx2]; exact (HA2.out.drewN q).cell m2 (by omega)
          have c16 : ∀ q, (wr.drewN q).cell? ⟨g + 1 + 1, m16, none⟩ = some (.int .u32 x16) := fun q => by rw [← hx16]; exact (HA2.out.drewN q).cell m16 (by omega)
          have c7 : ∀ q, (wr.drewN q).cell? ⟨g + 1 + 1, m7, none⟩ = some (.int .u32 x7) := fun q => by rw [← hx7]; exact (HA2.out.drewN q).cell m7 (by omega)
          have ck : ∀ q, (wr.drewN q).cell? ⟨g + 1 + 1, k, none⟩ = some (.int .u32 (ws.getD k 0)) := fun q => (HA2.out.drewN q).cell k (by omega)
          have fk : ∀ q, (wr.drewN q).frozen? ⟨g + 1 + 1, k, none⟩ = false := fun q => (HA2.out.drewN q).frozen k
          have hnw : (x16 + xorU (xorU (rot 7 x15) (rot 18 x15)) (x15 / 8) + x7 + xorU (xorU (rot 17 x2) (rot 19 x2)) (x2 / 1024)) % 4294967296 = nextW ws k := by
            unfold nextW
            rw [hm15, hm2, hm16, hm7, hx15, hx2, hx16, hx7]
          have HNW := Aside0.mk hnw
          clear hx15 hx2 hx16 hx7 hnx hnw hm15 hm2 hm16 hm7
          go_wp2_with fail
          go_quiet (fail)
          go_wp2_with fail
          generalize hw2 : wr.drewN nq = w2
          have d16 : w2.drew.cell? ⟨g + 1 + 1, m16, none⟩ = some (.int .u32 x16) := by rw [← hw2]; exact c16 nq
          have d7 : w2.drew.cell? ⟨g + 1 + 1, m7, none⟩ = some (.int .u32 x7) := by rw [← hw2]; exact c7 nq
          have dk : w2.drew.cell? ⟨g + 1 + 1, k, none⟩ = some (.int .u32 (ws.getD k 0)) := by rw [← hw2]; exact ck nq
          have ek : w2.drew.frozen? ⟨g + 1 + 1, k, none⟩ = false := by rw [← hw2]; exact fk nq
          have HA0 := Aside0.mk (show Arr w2 g 84 [s0, s1, s2, s3, s4, s5, s6, s7] by rw [← hw2]; exact HA0.out)
          have HA1 := Aside0.mk (show Arr w2 (g + 1) 84 (List.replicate 8 0) by rw [← hw2]; exact HA1.out)
          have HA2 := Aside0.mk (show Arr w2 (g + 1 + 1) 123 ws by rw [← hw2]; exact HA2.out)
          have HB := Aside0.mk (show Below g w w2 by rw [← hw2]; exact pw_below_drewN HB.out nq)
          clear c15 c2 c16 c7 ck fk hw2
          refine wp_region_still_tail 29 (by kernel_rfl) (by kernel_rfl) ?_
          change wpStill _ _ w2.drew _ _ _
          simp only [List.take_succ_cons, List.take_zero, List.drop_succ_cons, List.drop_zero]
          repeat still_step
          still_call (right_calls 7 x15 _ (by decide))
          repeat still_step
          still_call (right_calls 18 x15 _ (by decide))
          repeat still_step
          still_call (right_calls 17 x2 _ (by decide))
          repeat still_step
          still_call (right_calls 19 x2 _ (by decide))
          repeat still_step
          refine wpStill_nil ?_
          change wpList _ _ _ _ _ w2.drew
          go_wp2_with fail
          go_roundw
          case rel =>
            have e := HNW.out
            unfold xorU at e
            rw [e]
            (repeat apply Exists.intro)
            refine ⟨?_, rfl⟩
            refine ⟨k + 1, by omega, by omega, by go_num, HA0.out.far (g + 1 + 1) k _ (by omega), HA1.out.far (g + 1 + 1) k _ (by omega), ?_, (HB.out.setCell (p := ⟨g + 1 + 1, k, none⟩) (by show g ≤ g + 1 + 1; omega) _).dr⟩
            rw [show k + 1 - 16 = n + 1 by omega]
            unfold sched
            rw [HWS.out, show n + 16 = k by omega]
            exact HA2.out.set k _
          case measure => simp [intOf]; omega
        · obtain rfl : k = 64 := by omega
          obtain rfl : n = 48 := by omega
          clear hlt hn hk hk6
          have hA2lt := HA2.out.lt
          have y0 : wr.cell? ⟨g, 0, none⟩ = some (.int .u32 s0) := HA0.out.cell 0 (Nat.zero_lt_succ _)
          have y1 : wr.cell? ⟨g, 1, none⟩ = some (.int .u32 s1) := HA0.out.cell 1 (Nat.lt_of_lt_of_le (show 1 < 8 by decide) (Nat.le_refl 8))
          have y2 : wr.cell? ⟨g, 2, none⟩ = some (.int .u32 s2) := HA0.out.cell 2 (Nat.lt_of_lt_of_le (show 2 < 8 by decide) (Nat.le_refl 8))
          have y3 : wr.cell? ⟨g, 3, none⟩ = some (.int .u32 s3) := HA0.out.cell 3 (Nat.lt_of_lt_of_le (show 3 < 8 by decide) (Nat.le_refl 8))
          have y4 : wr.cell? ⟨g, 4, none⟩ = some (.int .u32 s4) := HA0.out.cell 4 (Nat.lt_of_lt_of_le (show 4 < 8 by decide) (Nat.le_refl 8))
          have y5 : wr.cell? ⟨g, 5, none⟩ = some (.int .u32 s5) := HA0.out.cell 5 (Nat.lt_of_lt_of_le (show 5 < 8 by decide) (Nat.le_refl 8))
          have y6 : wr.cell? ⟨g, 6, none⟩ = some (.int .u32 s6) := HA0.out.cell 6 (Nat.lt_of_lt_of_le (show 6 < 8 by decide) (Nat.le_refl 8))
          have y7 : wr.cell? ⟨g, 7, none⟩ = some (.int .u32 s7) := HA0.out.cell 7 (Nat.lt_of_lt_of_le (show 7 < 8 by decide) (Nat.le_refl 8))
          go_wp2_with fail
          have A3 := Arr.new wr 84 [s0, s1, s2, s3, s4, s5, s6, s7]
          have HA0 := Aside0.mk (HA0.out.alloc (.cells #[.int .u32 s0, .int .u32 s1, .int .u32 s2, .int .u32 s3, .int .u32 s4, .int .u32 s5, .int .u32 s6, .int .u32 s7] 84))
          have HA1 := Aside0.mk (HA1.out.alloc (.cells #[.int .u32 s0, .int .u32 s1, .int .u32 s2, .int .u32 s3, .int .u32 s4, .int .u32 s5, .int .u32 s6, .int .u32 s7] 84))
          have HA2 := Aside0.mk (HA2.out.alloc (.cells #[.int .u32 s0, .int .u32 s1, .int .u32 s2, .int .u32 s3, .int .u32 s4, .int .u32 s5, .int .u32 s6, .int .u32 s7] 84))
          have hgp : g + 2 < wr.heap.size := by have := HA2.out.lt; have h2 : (wr.alloc (.cells #[.int .u32 s0, .int .u32 s1, .int .u32 s2, .int .u32 s3, .int .u32 s4, .int .u32 s5, .int .u32 s6, .int .u32 s7] 84)).heap.size = wr.heap.size + 1 := World.size_alloc _ _; have h3 := hA2lt; omega
          have HB := Aside0.mk (HB.out.trans ((below_alloc (Below.refl _ wr) (.cells #[.int .u32 s0, .int .u32 s1, .int .u32 s2, .int .u32 s3, .int .u32 s4, .int .u32 s5, .int .u32 s6, .int .u32 s7] 84)).mono (by have := HB.out.size; omega)))
          have A3' : Arr (wr.alloc (.cells #[.int .u32 s0, .int .u32 s1, .int .u32 s2, .int .u32 s3, .int .u32 s4, .int .u32 s5, .int .u32 s6, .int .u32 s7] 84)) wr.heap.size 84 [s0, s1, s2, s3, s4, s5, s6, s7] := A3
          obtain ⟨w3, hw3⟩ : ∃ w3, wr.alloc (.cells #[.int .u32 s0, .int .u32 s1, .int .u32 s2, .int .u32 s3, .int .u32 s4, .int .u32 s5, .int .u32 s6, .int .u32 s7] 84) = w3 := ⟨_, rfl⟩
          rw [hw3] at HA0 HA1 HA2 HB A3' ⊢
          obtain ⟨p, hp⟩ : ∃ p, wr.heap.size = p := ⟨_, rfl⟩
          rw [hp] at A3' hgp ⊢
          have HA3 := Aside0.mk A3'
          clear A3 A3' hw3 hp y0 y1 y2 y3 y4 y5 y6 y7 hA2lt
          go_loopw [11, 12, 13, 14, 15, 94] (fun v11 v12 v13 v14 v15 i wr => ∃ k : Nat, k ≤ 64 ∧ i = .int .i64 k ∧ Arr wr g 84 [s0, s1, s2, s3, s4, s5, s6, s7] ∧ Arr wr (g + 1) 84 (List.replicate 8 0) ∧ Arr wr (g + 1 + 1) 123 ws ∧ Arr wr p 84 (rounds ws [s0, s1, s2, s3, s4, s5, s6, s7] k) ∧ Below g w wr) (fun _ _ _ _ _ i _ => 64 - (intOf i).toNat)
          case atStart => exact ⟨0, Nat.zero_le _, rfl, HA0.out, HA1.out, HA2.out, HA3.out, HB.out⟩
          case round =>
            clear HA0 HA1 HA2 HA3 HB
            obtain ⟨k, hk, rfl, A0, A1, A2, A3, B⟩ := hrel
            obtain ⟨x0, x1, x2, x3, x4, x5, x6, x7, hx⟩ := list8 (rounds_len ws [s0, s1, s2, s3, s4, s5, s6, s7] rfl k)
            rw [hx] at A3
            have HX := Aside0.mk hx
            have HA0 := Aside0.mk A0
            have HA1 := Aside0.mk A1
            have HA2 := Aside0.mk A2
            have HA3 := Aside0.mk A3
            have HB := Aside0.mk B
            clear A0 A1 A2 A3 B hx
            by_cases hlt : k < 64
            · have k64 : (k : Int) < 64 := by omega
              obtain ⟨kk, hkk⟩ : ∃ x, kS.getD k 0 = x := ⟨_, rfl⟩
              obtain ⟨wk, hwk⟩ : ∃ x, ws.getD k 0 = x := ⟨_, rfl⟩
              have HV := Aside0.mk (And.intro hkk hwk)
              clear hkk hwk
              have cw : ∀ q, (wr.drewN q).cell? ⟨g + 1 + 1, k, none⟩ = some (.int .u32 wk) := fun q => by rw [← HV.out.2]; exact (HA2.out.drewN q).cell k (by omega)
              have ck : ∀ q, (wr.drewN q).cell? ⟨0, k, none⟩ = some (.int .u32 kk) := fun q => by rw [← HV.out.1]; exact (HK.out.below HB.out (by have := HK.out.1; omega)).2 k hlt
              have c0 : ∀ q, (wr.drewN q).cell? ⟨p, 0, none⟩ = some (.int .u32 x0) := fun q => (HA3.out.drewN q).cell 0 (Nat.lt_of_lt_of_le (show 0 < 8 by decide) (Nat.le_refl 8))
              have c1 : ∀ q, (wr.drewN q).cell? ⟨p, 1, none⟩ = some (.int .u32 x1) := fun q => (HA3.out.drewN q).cell 1 (Nat.lt_of_lt_of_le (show 1 < 8 by decide) (Nat.le_refl 8))
              have c2 : ∀ q, (wr.drewN q).cell? ⟨p, 2, none⟩ = some (.int .u32 x2) := fun q => (HA3.out.drewN q).cell 2 (Nat.lt_of_lt_of_le (show 2 < 8 by decide) (Nat.le_refl 8))
              have c3 : ∀ q, (wr.drewN q).cell? ⟨p, 3, none⟩ = some (.int .u32 x3) := fun q => (HA3.out.drewN q).cell 3 (Nat.lt_of_lt_of_le (show 3 < 8 by decide) (Nat.le_refl 8))
              have c4 : ∀ q, (wr.drewN q).cell? ⟨p, 4, none⟩ = some (.int .u32 x4) := fun q => (HA3.out.drewN q).cell 4 (Nat.lt_of_lt_of_le (show 4 < 8 by decide) (Nat.le_refl 8))
              have c5 : ∀ q, (wr.drewN q).cell? ⟨p, 5, none⟩ = some (.int .u32 x5) := fun q => (HA3.out.drewN q).cell 5 (Nat.lt_of_lt_of_le (show 5 < 8 by decide) (Nat.le_refl 8))
              have c6 : ∀ q, (wr.drewN q).cell? ⟨p, 6, none⟩ = some (.int .u32 x6) := fun q => (HA3.out.drewN q).cell 6 (Nat.lt_of_lt_of_le (show 6 < 8 by decide) (Nat.le_refl 8))
              have c7 : ∀ q, (wr.drewN q).cell? ⟨p, 7, none⟩ = some (.int .u32 x7) := fun q => (HA3.out.drewN q).cell 7 (Nat.lt_of_lt_of_le (show 7 < 8 by decide) (Nat.le_refl 8))
              go_wp2_with fail
              go_quiet (fail)
              go_wp2_with fail
              generalize hw2 : wr.drewN nq = w4
              clear cw ck c0 c1 c2 c3 c4 c5 c6 c7
              have HA0 := Aside0.mk (show Arr w4 g 84 [s0, s1, s2, s3, s4, s5, s6, s7] by rw [← hw2]; exact HA0.out)
              have HA1 := Aside0.mk (show Arr w4 (g + 1) 84 (List.replicate 8 0) by rw [← hw2]; exact HA1.out)
              have HA2 := Aside0.mk (show Arr w4 (g + 1 + 1) 123 ws by rw [← hw2]; exact HA2.out)
              have HA3 := Aside0.mk (show Arr w4 p 84 [x0, x1, x2, x3, x4, x5, x6, x7] by rw [← hw2]; exact HA3.out)
              have HB := Aside0.mk (show Below g w w4 by rw [← hw2]; exact pw_below_drewN HB.out nq)
              clear hw2
              have cw : ∀ q, (w4.drewN q).cell? ⟨g + 1 + 1, k, none⟩ = some (.int .u32 wk) := fun q => by rw [← HV.out.2]; exact (HA2.out.drewN q).cell k (by omega)
              have ck : ∀ q, (w4.drewN q).cell? ⟨0, k, none⟩ = some (.int .u32 kk) := fun q => by rw [← HV.out.1]; exact (HK.out.below HB.out (by have := HK.out.1; omega)).2 k hlt
              have c0 : ∀ q, (w4.drewN q).cell? ⟨p, 0, none⟩ = some (.int .u32 x0) := fun q => (HA3.out.drewN q).cell 0 (Nat.lt_of_lt_of_le (show 0 < 8 by decide) (Nat.le_refl 8))
              have c1 : ∀ q, (w4.drewN q).cell? ⟨p, 1, none⟩ = some (.int .u32 x1) := fun q => (HA3.out.drewN q).cell 1 (Nat.lt_of_lt_of_le (show 1 < 8 by decide) (Nat.le_refl 8))
              have c2 : ∀ q, (w4.drewN q).cell? ⟨p, 2, none⟩ = some (.int .u32 x2) := fun q => (HA3.out.drewN q).cell 2 (Nat.lt_of_lt_of_le (show 2 < 8 by decide) (Nat.le_refl 8))
              have c3 : ∀ q, (w4.drewN q).cell? ⟨p, 3, none⟩ = some (.int .u32 x3) := fun q => (HA3.out.drewN q).cell 3 (Nat.lt_of_lt_of_le (show 3 < 8 by decide) (Nat.le_refl 8))
              have c4 : ∀ q, (w4.drewN q).cell? ⟨p, 4, none⟩ = some (.int .u32 x4) := fun q => (HA3.out.drewN q).cell 4 (Nat.lt_of_lt_of_le (show 4 < 8 by decide) (Nat.le_refl 8))
              have c5 : ∀ q, (w4.drewN q).cell? ⟨p, 5, none⟩ = some (.int .u32 x5) := fun q => (HA3.out.drewN q).cell 5 (Nat.lt_of_lt_of_le (show 5 < 8 by decide) (Nat.le_refl 8))
              have c6 : ∀ q, (w4.drewN q).cell? ⟨p, 6, none⟩ = some (.int .u32 x6) := fun q => (HA3.out.drewN q).cell 6 (Nat.lt_of_lt_of_le (show 6 < 8 by decide) (Nat.le_refl 8))
              have c7 : ∀ q, (w4.drewN q).cell? ⟨p, 7, none⟩ = some (.int .u32 x7) := fun q => (HA3.out.drewN q).cell 7 (Nat.lt_of_lt_of_le (show 7 < 8 by decide) (Nat.le_refl 8))
              go_quiet (first | (go_at_call 84; exact Calls.quiet_of_same (right_calls _ _ _ (by decide))))
              go_wp2_with fail
              generalize hw2 : w4.drewN nq = w5
              clear cw ck c0 c1 c2 c3 c4 c5 c6 c7
              have HA0 := Aside0.mk (show Arr w5 g 84 [s0, s1, s2, s3, s4, s5, s6, s7] by rw [← hw2]; exact HA0.out)
              have HA1 := Aside0.mk (show Arr w5 (g + 1) 84 (List.replicate 8 0) by rw [← hw2]; exact HA1.out)
              have HA2 := Aside0.mk (show Arr w5 (g + 1 + 1) 123 ws by rw [← hw2]; exact HA2.out)
              have HA3 := Aside0.mk (show Arr w5 p 84 [x0, x1, x2, x3, x4, x5, x6, x7] by rw [← hw2]; exact HA3.out)
              have HB := Aside0.mk (show Below g w w5 by rw [← hw2]; exact pw_below_drewN HB.out nq)
              clear hw2
              have cw : ∀ q, (w5.drewN q).cell? ⟨g + 1 + 1, k, none⟩ = some (.int .u32 wk) := fun q => by rw [← HV.out.2]; exact (HA2.out.drewN q).cell k (by omega)
              have ck : ∀ q, (w5.drewN q).cell? ⟨0, k, none⟩ = some (.int .u32 kk) := fun q => by rw [← HV.out.1]; exact (HK.out.below HB.out (by have := HK.out.1; omega)).2 k hlt
              have c0 : ∀ q, (w5.drewN q).cell? ⟨p, 0, none⟩ = some (.int .u32 x0) := fun q => (HA3.out.drewN q).cell 0 (Nat.lt_of_lt_of_le (show 0 < 8 by decide) (Nat.le_refl 8))
              have c1 : ∀ q, (w5.drewN q).cell? ⟨p, 1, none⟩ = some (.int .u32 x1) := fun q => (HA3.out.drewN q).cell 1 (Nat.lt_of_lt_of_le (show 1 < 8 by decide) (Nat.le_refl 8))
              have c2 : ∀ q, (w5.drewN q).cell? ⟨p, 2, none⟩ = some (.int .u32 x2) := fun q => (HA3.out.drewN q).cell 2 (Nat.lt_of_lt_of_le (show 2 < 8 by decide) (Nat.le_refl 8))
              have c3 : ∀ q, (w5.drewN q).cell? ⟨p, 3, none⟩ = some (.int .u32 x3) := fun q => (HA3.out.drewN q).cell 3 (Nat.lt_of_lt_of_le (show 3 < 8 by decide) (Nat.le_refl 8))
              have c4 : ∀ q, (w5.drewN q).cell? ⟨p, 4, none⟩ = some (.int .u32 x4) := fun q => (HA3.out.drewN q).cell 4 (Nat.lt_of_lt_of_le (show 4 < 8 by decide) (Nat.le_refl 8))
              have c5 : ∀ q, (w5.drewN q).cell? ⟨p, 5, none⟩ = some (.int .u32 x5) := fun q => (HA3.out.drewN q).cell 5 (Nat.lt_of_lt_of_le (show 5 < 8 by decide) (Nat.le_refl 8))
              have c6 : ∀ q, (w5.drewN q).cell? ⟨p, 6, none⟩ = some (.int .u32 x6) := fun q => (HA3.out.drewN q).cell 6 (Nat.lt_of_lt_of_le (show 6 < 8 by decide) (Nat.le_refl 8))
              have c7 : ∀ q, (w5.drewN q).cell? ⟨p, 7, none⟩ = some (.int .u32 x7) := fun q => (HA3.out.drewN q).cell 7 (Nat.lt_of_lt_of_le (show 7 < 8 by decide) (Nat.le_refl 8))
              go_quiet (first | (go_at_call 84; exact Calls.quiet_of_same (right_calls _ _ _ (by decide))))
              generalize hw2 : w5.drewN nq = w6
              clear cw ck c0 c1 c2 c3 c4 c5 c6 c7
              have HA0 := Aside0.mk (show Arr w6 g 84 [s0, s1, s2, s3, s4, s5, s6, s7] by rw [← hw2]; exact HA0.out)
              have HA1 := Aside0.mk (show Arr w6 (g + 1) 84 (List.replicate 8 0) by rw [← hw2]; exact HA1.out)
              have HA2 := Aside0.mk (show Arr w6 (g + 1 + 1) 123 ws by rw [← hw2]; exact HA2.out)
              have HA3 := Aside0.mk (show Arr w6 p 84 [x0, x1, x2, x3, x4, x5, x6, x7] by rw [← hw2]; exact HA3.out)
              have HB := Aside0.mk (show Below g w w6 by rw [← hw2]; exact pw_below_drewN HB.out nq)
              clear hw2
              have c0 : w6.cell? ⟨p, 0, none⟩ = some (.int .u32 x0) := HA3.out.cell 0 (Nat.lt_of_lt_of_le (show 0 < 8 by decide) (Nat.le_refl 8))
              have f0 : w6.frozen? ⟨p, 0, none⟩ = false := HA3.out.frozen 0
              have c1 : w6.cell? ⟨p, 1, none⟩ = some (.int .u32 x1) := HA3.out.cell 1 (Nat.lt_of_lt_of_le (show 1 < 8 by decide) (Nat.le_refl 8))
              have f1 : w6.frozen? ⟨p, 1, none⟩ = false := HA3.out.frozen 1
              have c2 : w6.cell? ⟨p, 2, none⟩ = some (.int .u32 x2) := HA3.out.cell 2 (Nat.lt_of_lt_of_le (show 2 < 8 by decide) (Nat.le_refl 8))
              have f2 : w6.frozen? ⟨p, 2, none⟩ = false := HA3.out.frozen 2
              have c3 : w6.cell? ⟨p, 3, none⟩ = some (.int .u32 x3) := HA3.out.cell 3 (Nat.lt_of_lt_of_le (show 3 < 8 by decide) (Nat.le_refl 8))
              have f3 : w6.frozen? ⟨p, 3, none⟩ = false := HA3.out.frozen 3
              have c4 : w6.cell? ⟨p, 4, none⟩ = some (.int .u32 x4) := HA3.out.cell 4 (Nat.lt_of_lt_of_le (show 4 < 8 by decide) (Nat.le_refl 8))
              have f4 : w6.frozen? ⟨p, 4, none⟩ = false := HA3.out.frozen 4
              have c5 : w6.cell? ⟨p, 5, none⟩ = some (.int .u32 x5) := HA3.out.cell 5 (Nat.lt_of_lt_of_le (show 5 < 8 by decide) (Nat.le_refl 8))
              have f5 : w6.frozen? ⟨p, 5, none⟩ = false := HA3.out.frozen 5
              have c6 : w6.cell? ⟨p, 6, none⟩ = some (.int .u32 x6) := HA3.out.cell 6 (Nat.lt_of_lt_of_le (show 6 < 8 by decide) (Nat.le_refl 8))
              have f6 : w6.frozen? ⟨p, 6, none⟩ = false := HA3.out.frozen 6
              have c7 : w6.cell? ⟨p, 7, none⟩ = some (.int .u32 x7) := HA3.out.cell 7 (Nat.lt_of_lt_of_le (show 7 < 8 by decide) (Nat.le_refl 8))
              have f7 : w6.frozen? ⟨p, 7, none⟩ = false := HA3.out.frozen 7
              go_wp2_with fail
              go_roundw
              case rel =>
                have hn1 : g ≠ p := by omega
                have hn2 : g + 1 ≠ p := by omega
                have hn3 : g + 1 + 1 ≠ p := by omega
                (repeat apply Exists.intro)
                refine ⟨?_, rfl⟩
                refine ⟨k + 1, by omega, by go_num, ((((((((HA0.out.far p 0 _ hn1).far p 1 _ hn1).far p 2 _ hn1).far p 3 _ hn1).far p 4 _ hn1).far p 5 _ hn1).far p 6 _ hn1).far p 7 _ hn1), ((((((((HA1.out.far p 0 _ hn2).far p 1 _ hn2).far p 2 _ hn2).far p 3 _ hn2).far p 4 _ hn2).far p 5 _ hn2).far p 6 _ hn2).far p 7 _ hn2), ((((((((HA2.out.far p 0 _ hn3).far p 1 _ hn3).far p 2 _ hn3).far p 3 _ hn3).far p 4 _ hn3).far p 5 _ hn3).far p 6 _ hn3).far p 7 _ hn3), ?_, (Below.setCell (Below.setCell (Below.setCell (Below.setCell (Below.setCell (Below.setCell (Below.setCell (Below.setCell HB.out (p := ⟨p, 0, none⟩) (Nat.le_of_lt (show g < p by omega)) _) (p := ⟨p, 1, none⟩) (Nat.le_of_lt (show g < p by omega)) _) (p := ⟨p, 2, none⟩) (Nat.le_of_lt (show g < p by omega)) _) (p := ⟨p, 3, none⟩) (Nat.le_of_lt (show g < p by omega)) _) (p := ⟨p, 4, none⟩) (Nat.le_of_lt (show g < p by omega)) _) (p := ⟨p, 5, none⟩) (Nat.le_of_lt (show g < p by omega)) _) (p := ⟨p, 6, none⟩) (Nat.le_of_lt (show g < p by omega)) _) (p := ⟨p, 7, none⟩) (Nat.le_of_lt (show g < p by omega)) _)⟩
                rw [show rounds ws [s0, s1, s2, s3, s4, s5, s6, s7] (k + 1) = roundS (kS.getD k 0) (ws.getD k 0) (rounds ws [s0, s1, s2, s3, s4, s5, s6, s7] k) from rfl, HX.out, HV.out.1, HV.out.2]
                exact ((((((((HA3.out.set 0 _).set 1 _).set 2 _).set 3 _).set 4 _).set 5 _).set 6 _).set 7 _)
              case measure => simp [intOf]; omega
            · obtain rfl : k = 64 := by omega
              clear hlt hk
              obtain ⟨xs, hxs⟩ : ∃ xs, [x0, x1, x2, x3, x4, x5, x6, x7] = xs := ⟨_, rfl⟩
              rw [hxs] at HX HA3
              have hxl : xs.length = 8 := by rw [← hxs]; rfl
              clear hxs
              go_wp2_with fail
              go_loopw [16, 174] (fun v16 i wr => ∃ k : Nat, k ≤ 8 ∧ i = .int .i64 k ∧ Arr wr g 84 (addS [s0, s1, s2, s3, s4, s5, s6, s7] xs k) ∧ Arr wr (g + 1) 84 (List.replicate 8 0) ∧ Arr wr p 84 xs ∧ Below g w wr) (fun _ i _ => 8 - (intOf i).toNat)
              case atStart => exact ⟨0, Nat.zero_le _, rfl, HA0.out, HA1.out, HA3.out, HB.out⟩
              case round =>
                clear HA0 HA1 HA2 HA3 HB
                obtain ⟨k, hk, rfl, A0, A1, A3, B⟩ := hrel
                have hzl : (addS [s0, s1, s2, s3, s4, s5, s6, s7] xs k).length = 8 := addS_len _ _ _
                have HA0 := Aside0.mk A0
                have HA1 := Aside0.mk A1
                have HA3 := Aside0.mk A3
                have HB := Aside0.mk B
                clear A0 A1 A3 B
                by_cases hlt : k < 8
                · have k8 : (k : Int) < 8 := by omega
                  obtain ⟨zk, hzk⟩ : ∃ x, (addS [s0, s1, s2, s3, s4, s5, s6, s7] xs k).getD k 0 = x := ⟨_, rfl⟩
                  obtain ⟨xk, hxk⟩ : ∃ x, xs.getD k 0 = x := ⟨_, rfl⟩
                  have c0 : wr.drew.cell? ⟨g, k, none⟩ = some (.int .u32 zk) := by rw [← hzk]; exact HA0.out.drew.cell k (by omega)
                  have c1 : wr.drew.cell? ⟨p, k, none⟩ = some (.int .u32 xk) := by rw [← hxk]; exact HA3.out.drew.cell k (by omega)
                  have f0 : wr.drew.frozen? ⟨g, k, none⟩ = false := HA0.out.drew.frozen k
                  have HV := Aside0.mk (And.intro hzk hxk)
                  clear hzk hxk
                  go_wp2_with fail
                  refine wp_region_still_tail 8 (by kernel_rfl) (by kernel_rfl) ?_
                  change wpStill _ _ wr.drew _ _ _
                  simp only [List.take_succ_cons, List.take_zero, List.drop_succ_cons, List.drop_zero]
                  repeat still_step
                  refine wpStill_nil ?_
                  change wpList _ _ _ _ _ wr.drew
                  go_wp2_with fail
                  go_roundw
                  case rel =>
                    (repeat apply Exists.intro)
                    refine ⟨?_, rfl⟩
                    refine ⟨k + 1, by omega, by go_num, ?_, HA1.out.far g k _ (by omega), HA3.out.far g k _ (by omega), (HB.out.setCell (p := ⟨g, k, none⟩) (Nat.le_refl g) _).dr⟩
                    rw [show addS [s0, s1, s2, s3, s4, s5, s6, s7] xs (k + 1) = (addS [s0, s1, s2, s3, s4, s5, s6, s7] xs k).set k (((addS [s0, s1, s2, s3, s4, s5, s6, s7] xs k).getD k 0 + xs.getD k 0) % 4294967296) from rfl, HV.out.1, HV.out.2]
                    exact HA0.out.set k _
                  case measure => simp [intOf]; omega
                · obtain rfl : k = 8 := by omega
                  clear hlt hk
                  obtain ⟨r0, r1, r2, r3, r4, r5, r6, r7, hr⟩ := list8 hzl
                  rw [hr] at HA0
                  have HR := Aside0.mk hr
                  clear hr hzl
                  have c0 : wr.cell? ⟨g, 0, none⟩ = some (.int .u32 r0) := HA0.out.cell 0 (Nat.lt_of_lt_of_le (show 0 < 8 by decide) (Nat.le_refl 8))
                  have d0 : wr.cell? ⟨g + 1, 0, none⟩ = some (.int .u32 0) := HA1.out.cell 0 (Nat.lt_of_lt_of_le (show 0 < 8 by decide) (Nat.le_refl 8))
                  have f0 : wr.frozen? ⟨g + 1, 0, none⟩ = false := HA1.out.frozen 0
                  have c1 : wr.cell? ⟨g, 1, none⟩ = some (.int .u32 r1) := HA0.out.cell 1 (Nat.lt_of_lt_of_le (show 1 < 8 by decide) (Nat.le_refl 8))
                  have d1 : wr.cell? ⟨g + 1, 1, none⟩ = some (.int .u32 0) := HA1.out.cell 1 (Nat.lt_of_lt_of_le (show 1 < 8 by decide) (Nat.le_refl 8))
                  have f1 : wr.frozen? ⟨g + 1, 1, none⟩ = false := HA1.out.frozen 1
                  have c2 : wr.cell? ⟨g, 2, none⟩ = some (.int .u32 r2) := HA0.out.cell 2 (Nat.lt_of_lt_of_le (show 2 < 8 by decide) (Nat.le_refl 8))
                  have d2 : wr.cell? ⟨g + 1, 2, none⟩ = some (.int .u32 0) := HA1.out.cell 2 (Nat.lt_of_lt_of_le (show 2 < 8 by decide) (Nat.le_refl 8))
                  have f2 : wr.frozen? ⟨g + 1, 2, none⟩ = false := HA1.out.frozen 2
                  have c3 : wr.cell? ⟨g, 3, none⟩ = some (.int .u32 r3) := HA0.out.cell 3 (Nat.lt_of_lt_of_le (show 3 < 8 by decide) (Nat.le_refl 8))
                  have d3 : wr.cell? ⟨g + 1, 3, none⟩ = some (.int .u32 0) := HA1.out.cell 3 (Nat.lt_of_lt_of_le (show 3 < 8 by decide) (Nat.le_refl 8))
                  have f3 : wr.frozen? ⟨g + 1, 3, none⟩ = false := HA1.out.frozen 3
                  have c4 : wr.cell? ⟨g, 4, none⟩ = some (.int .u32 r4) := HA0.out.cell 4 (Nat.lt_of_lt_of_le (show 4 < 8 by decide) (Nat.le_refl 8))
                  have d4 : wr.cell? ⟨g + 1, 4, none⟩ = some (.int .u32 0) := HA1.out.cell 4 (Nat.lt_of_lt_of_le (show 4 < 8 by decide) (Nat.le_refl 8))
                  have f4 : wr.frozen? ⟨g + 1, 4, none⟩ = false := HA1.out.frozen 4
                  have c5 : wr.cell? ⟨g, 5, none⟩ = some (.int .u32 r5) := HA0.out.cell 5 (Nat.lt_of_lt_of_le (show 5 < 8 by decide) (Nat.le_refl 8))
                  have d5 : wr.cell? ⟨g + 1, 5, none⟩ = some (.int .u32 0) := HA1.out.cell 5 (Nat.lt_of_lt_of_le (show 5 < 8 by decide) (Nat.le_refl 8))
                  have f5 : wr.frozen? ⟨g + 1, 5, none⟩ = false := HA1.out.frozen 5
                  have c6 : wr.cell? ⟨g, 6, none⟩ = some (.int .u32 r6) := HA0.out.cell 6 (Nat.lt_of_lt_of_le (show 6 < 8 by decide) (Nat.le_refl 8))
                  have d6 : wr.cell? ⟨g + 1, 6, none⟩ = some (.int .u32 0) := HA1.out.cell 6 (Nat.lt_of_lt_of_le (show 6 < 8 by decide) (Nat.le_refl 8))
                  have f6 : wr.frozen? ⟨g + 1, 6, none⟩ = false := HA1.out.frozen 6
                  have c7 : wr.cell? ⟨g, 7, none⟩ = some (.int .u32 r7) := HA0.out.cell 7 (Nat.lt_of_lt_of_le (show 7 < 8 by decide) (Nat.le_refl 8))
                  have d7 : wr.cell? ⟨g + 1, 7, none⟩ = some (.int .u32 0) := HA1.out.cell 7 (Nat.lt_of_lt_of_le (show 7 < 8 by decide) (Nat.le_refl 8))
                  have f7 : wr.frozen? ⟨g + 1, 7, none⟩ = false := HA1.out.frozen 7
                  go_wp2_with fail
                  have AR : Arr ((((((((wr.setCell ⟨g + 1, 0, none⟩ (.int .u32 r0)).setCell ⟨g + 1, 1, none⟩ (.int .u32 r1)).setCell ⟨g + 1, 2, none⟩ (.int .u32 r2)).setCell ⟨g + 1, 3, none⟩ (.int .u32 r3)).setCell ⟨g + 1, 4, none⟩ (.int .u32 r4)).setCell ⟨g + 1, 5, none⟩ (.int .u32 r5)).setCell ⟨g + 1, 6, none⟩ (.int .u32 r6)).setCell ⟨g + 1, 7, none⟩ (.int .u32 r7)) (g + 1) 84 [r0, r1, r2, r3, r4, r5, r6, r7] := ((((((((HA1.out.set 0 r0).set 1 r1).set 2 r2).set 3 r3).set 4 r4).set 5 r5).set 6 r6).set 7 r7)
                  (try simp only [Exit.inBlock, Exit.then])
                  refine bodyPost_ret (results_cell_row rfl _ _ (g + 1) 84 _ (0, 0) _ rfl AR Tryd.underlying84 rfl (by kernel_rfl)) rfl ?_
                  clear AR
                  have hfin : blkS [s0, s1, s2, s3, s4, s5, s6, s7] l = [r0, r1, r2, r3, r4, r5, r6, r7] := by
                    unfold blkS
                    rw [HWS.out, HX.out]
                    exact HR.out
                  refine ⟨⟨r0, r1, r2, r3, r4, r5, r6, r7, hfin, rfl⟩, ?_⟩
                  rw [hg]
                  exact (Below.setCell (Below.setCell (Below.setCell (Below.setCell (Below.setCell (Below.setCell (Below.setCell (Below.setCell HB.out (p := ⟨g + 1, 0, none⟩) (Nat.le_succ g) _) (p := ⟨g + 1, 1, none⟩) (Nat.le_succ g) _) (p := ⟨g + 1, 2, none⟩) (Nat.le_succ g) _) (p := ⟨g + 1, 3, none⟩) (Nat.le_succ g) _) (p := ⟨g + 1, 4, none⟩) (Nat.le_succ g) _) (p := ⟨g + 1, 5, none⟩) (Nat.le_succ g) _) (p := ⟨g + 1, 6, none⟩) (Nat.le_succ g) _) (p := ⟨g + 1, 7, none⟩) (Nat.le_succ g) _)
end Go.Proofs.YtbddllklagiajaaDoor

namespace Go.Proofs.YtbddllklagiajaaDoor
open Go.RowKit Go.Proofs.YtbddllklagiajaaDoorW.PrintWords Go.Proofs.YtbddllklagiajaaDoorW.PrintLast Go.Proofs.YtbddllklagiajaaDoorW.PrintMore
set_option linter.unusedVariables false
set_option linter.unusedSimpArgs false

theorem bytesOf_extract (s : ByteArray) (a b : Nat) : bytesOf (s.extract a b) = ((bytesOf s).drop a).take (b - a) := by
  unfold bytesOf
  rw [ByteArray.data_extract, Array.toList_extract, List.extract_eq_take_drop, List.map_take, List.map_drop]

theorem nums_bytesOf (s : ByteArray) : strOfNums (bytesOf s) = s := by
  apply ByteArray.ext
  apply Array.ext'
  rw [strOfNums_data]
  unfold bytesOf
  rw [List.map_map]
  conv => rhs; rw [← List.map_id s.data.toList]
  apply List.map_congr_left
  intro x _
  simp

/-- The first state. -/
def ivS : List Int := [1779033703, 3144134277, 1013904242, 2773480762, 1359893119, 2600822924, 528734635, 1541459225]
/-- The state behind k blocks. -/
def absN (st l : List Int) : Nat → List Int
  | 0 => st
  | k + 1 => blkS (absN st l k) ((l.drop (64 * k)).take 64)
theorem absN_len (st l : List Int) (h : st.length = 8) : ∀ k, (absN st l k).length = 8
  | 0 => h
  | k + 1 => blkS_len _ _ (absN_len st l h k)
theorem absN_take (st l l' : List Int) : ∀ k, l.take (64 * k) = l'.take (64 * k) → absN st l k = absN st l' k
  | 0, _ => rfl
  | k + 1, h => by
    have h1 : l.take (64 * k) = l'.take (64 * k) := by
      have := congrArg (List.take (64 * k)) h
      rw [List.take_take, List.take_take, show min (64 * k) (64 * (k + 1)) = 64 * k by omega] at this
      exact this
    have h2 : (l.drop (64 * k)).take 64 = (l'.drop (64 * k)).take 64 := by
      have := congrArg (List.drop (64 * k)) h
      rw [show 64 * (k + 1) = 64 * k + 64 by omega, ← List.take_drop, ← List.take_drop] at this
      exact this
    unfold absN
    rw [absN_take st l l' k h1, h2]

theorem Arr.put8 {w : World} {g t : Nat} {xs : List Int} (h : Arr w g t xs) (hl : xs.length = 8) (v0 v1 v2 v3 v4 v5 v6 v7 : Int) :
    Arr ((((((((w.setCell ⟨g, 0, none⟩ (.int .u32 v0)).setCell ⟨g, 1, none⟩ (.int .u32 v1)).setCell ⟨g, 2, none⟩ (.int .u32 v2)).setCell ⟨g, 3, none⟩ (.int .u32 v3)).setCell ⟨g, 4, none⟩ (.int .u32 v4)).setCell ⟨g, 5, none⟩ (.int .u32 v5)).setCell ⟨g, 6, none⟩ (.int .u32 v6)).setCell ⟨g, 7, none⟩ (.int .u32 v7)) g t [v0, v1, v2, v3, v4, v5, v6, v7] := by
  obtain ⟨x0, x1, x2, x3, x4, x5, x6, x7, rfl⟩ := list8 hl
  exact ((((((((h.set 0 v0).set 1 v1).set 2 v2).set 3 v3).set 4 v4).set 5 v5).set 6 v6).set 7 v7)
theorem put8_below {a w : World} {B g : Nat} (h : Below B a w) (hg : B ≤ g) (v0 v1 v2 v3 v4 v5 v6 v7 : Value) :
    Below B a ((((((((w.setCell ⟨g, 0, none⟩ v0).setCell ⟨g, 1, none⟩ v1).setCell ⟨g, 2, none⟩ v2).setCell ⟨g, 3, none⟩ v3).setCell ⟨g, 4, none⟩ v4).setCell ⟨g, 5, none⟩ v5).setCell ⟨g, 6, none⟩ v6).setCell ⟨g, 7, none⟩ v7) := (Below.setCell (Below.setCell (Below.setCell (Below.setCell (Below.setCell (Below.setCell (Below.setCell (Below.setCell h (p := ⟨g, 0, none⟩) hg _) (p := ⟨g, 1, none⟩) hg _) (p := ⟨g, 2, none⟩) hg _) (p := ⟨g, 3, none⟩) hg _) (p := ⟨g, 4, none⟩) hg _) (p := ⟨g, 5, none⟩) hg _) (p := ⟨g, 6, none⟩) hg _) (p := ⟨g, 7, none⟩) hg _)

set_option maxHeartbeats 1000000 in
set_option maxRecDepth 100000 in
theorem begin_calls (w : World) : Calls Tryd.prog 74 #[] w fun e w' => e = .returned (.agg #[.int .u32 1779033703, .int .u32 3144134277, .int .u32 1013904242, .int .u32 2773480762, .int .u32 1359893119, .int .u32 2600822924, .int .u32 528734635, .int .u32 1541459225]) ∧ Below w.heap.size w w' := by
  have A0 : Arr (w.alloc (.cells #[.int .u32 1779033703, .int .u32 3144134277, .int .u32 1013904242, .int .u32 2773480762, .int .u32 1359893119, .int .u32 2600822924, .int .u32 528734635, .int .u32 1541459225] 84)) w.heap.size 84 [1779033703, 3144134277, 1013904242, 2773480762, 1359893119, 2600822924, 528734635, 1541459225] := Arr.new w 84 [1779033703, 3144134277, 1013904242, 2773480762, 1359893119, 2600822924, 528734635, 1541459225]
  have B0 := below_alloc (Below.refl w.heap.size w) (.cells #[.int .u32 1779033703, .int .u32 3144134277, .int .u32 1013904242, .int .u32 2773480762, .int .u32 1359893119, .int .u32 2600822924, .int .u32 528734635, .int .u32 1541459225] 84)
  go_enter Tryd.func74, Tryd.ntmps74
  go_wp2
  generalize w.alloc (.cells #[.int .u32 1779033703, .int .u32 3144134277, .int .u32 1013904242, .int .u32 2773480762, .int .u32 1359893119, .int .u32 2600822924, .int .u32 528734635, .int .u32 1541459225] 84) = W at A0 B0 ⊢
  (try simp only [Exit.inBlock, Exit.then])
  refine bodyPost_ret (results_cell_row rfl _ _ w.heap.size 84 _ (0, 0) _ rfl A0 Tryd.underlying84 rfl (by kernel_rfl)) rfl ?_
  exact ⟨rfl, B0⟩

/-- A Hash lies at block g. -/
def HashAt (w : World) (g : Nat) (st : List Int) (tail : ByteArray) (n : Int) : Prop := w.heap[g]? = some (.cells ((st.map (Value.int .u32)) ++ [Value.string tail, Value.int .i64 n]).toArray 86 (0, 0))

namespace HashAt
variable {w w' : World} {g : Nat} {st : List Int} {tail : ByteArray} {n : Int} {S : Nat → Prop}
theorem put8 (h : HashAt w g st tail n) (hl : st.length = 8) (v0 v1 v2 v3 v4 v5 v6 v7 : Int) : HashAt ((((((((w.setCell ⟨g, 0, none⟩ (.int .u32 v0)).setCell ⟨g, 1, none⟩ (.int .u32 v1)).setCell ⟨g, 2, none⟩ (.int .u32 v2)).setCell ⟨g, 3, none⟩ (.int .u32 v3)).setCell ⟨g, 4, none⟩ (.int .u32 v4)).setCell ⟨g, 5, none⟩ (.int .u32 v5)).setCell ⟨g, 6, none⟩ (.int .u32 v6)).setCell ⟨g, 7, none⟩ (.int .u32 v7)) g [v0, v1, v2, v3, v4, v5, v6, v7] tail n := by
  obtain ⟨x0, x1, x2, x3, x4, x5, x6, x7, rfl⟩ := list8 hl
  have h0 : w.heap[g]? = some (.cells #[.int .u32 x0, .int .u32 x1, .int .u32 x2, .int .u32 x3, .int .u32 x4, .int .u32 x5, .int .u32 x6, .int .u32 x7, .string tail, .int .i64 n] 86 (0, 0)) := h
  exact (blk_put (cs' := #[.int .u32 v0, .int .u32 v1, .int .u32 v2, .int .u32 v3, .int .u32 v4, .int .u32 v5, .int .u32 v6, .int .u32 v7, .string tail, .int .i64 n]) (blk_put (cs' := #[.int .u32 v0, .int .u32 v1, .int .u32 v2, .int .u32 v3, .int .u32 v4, .int .u32 v5, .int .u32 v6, .int .u32 x7, .string tail, .int .i64 n]) (blk_put (cs' := #[.int .u32 v0, .int .u32 v1, .int .u32 v2, .int .u32 v3, .int .u32 v4, .int .u32 v5, .int .u32 x6, .int .u32 x7, .string tail, .int .i64 n]) (blk_put (cs' := #[.int .u32 v0, .int .u32 v1, .int .u32 v2, .int .u32 v3, .int .u32 v4, .int .u32 x5, .int .u32 x6, .int .u32 x7, .string tail, .int .i64 n]) (blk_put (cs' := #[.int .u32 v0, .int .u32 v1, .int .u32 v2, .int .u32 v3, .int .u32 x4, .int .u32 x5, .int .u32 x6, .int .u32 x7, .string tail, .int .i64 n]) (blk_put (cs' := #[.int .u32 v0, .int .u32 v1, .int .u32 v2, .int .u32 x3, .int .u32 x4, .int .u32 x5, .int .u32 x6, .int .u32 x7, .string tail, .int .i64 n]) (blk_put (cs' := #[.int .u32 v0, .int .u32 v1, .int .u32 x2, .int .u32 x3, .int .u32 x4, .int .u32 x5, .int .u32 x6, .int .u32 x7, .string tail, .int .i64 n]) (blk_put (cs' := #[.int .u32 v0, .int .u32 x1, .int .u32 x2, .int .u32 x3, .int .u32 x4, .int .u32 x5, .int .u32 x6, .int .u32 x7, .string tail, .int .i64 n]) h0 0 (.int .u32 v0) rfl) 1 (.int .u32 v1) rfl) 2 (.int .u32 v2) rfl) 3 (.int .u32 v3) rfl) 4 (.int .u32 v4) rfl) 5 (.int .u32 v5) rfl) 6 (.int .u32 v6) rfl) 7 (.int .u32 v7) rfl)
theorem setN (h : HashAt w g st tail n) (hl : st.length = 8) (m : Int) : HashAt (w.setCell ⟨g, 9, none⟩ (.int .i64 m)) g st tail m := by
  obtain ⟨x0, x1, x2, x3, x4, x5, x6, x7, rfl⟩ := list8 hl
  exact blk_put h 9 _ rfl
theorem setTail (h : HashAt w g st tail n) (hl : st.length = 8) (t : ByteArray) : HashAt (w.setCell ⟨g, 8, none⟩ (.string t)) g st t n := by
  obtain ⟨x0, x1, x2, x3, x4, x5, x6, x7, rfl⟩ := list8 hl
  exact blk_put h 8 _ rfl
theorem frm (h : HashAt w g st tail n) (hk : Frm w w' S) (hg : ¬ S g) : HashAt w' g st tail n := hk.blk h hg
theorem lt (h : HashAt w g st tail n) : g < w.heap.size := blk_lt h
end HashAt
theorem KT.frm {w w' : World} {S : Nat → Prop} (h : KT w) (hk : Frm w w' S) (h0 : ¬ S 0) : KT w' :=
  ⟨Nat.lt_of_lt_of_le h.1 hk.size, fun i hi => hk.cell (h.2 i hi) h0⟩

set_option maxHeartbeats 8000000 in
set_option maxRecDepth 100000 in
theorem hwrite_calls (g : Nat) (s : ByteArray) (w : World) (hK : KT w) (h : HashAt w g (List.replicate 8 0) ⟨#[]⟩ 0) (hg : 0 < g) (hs : s.size ≤ 1000000) :
    Calls Tryd.prog 56 #[.pointer (some ⟨g, 0, none⟩), .string s] w fun e w' => e = .returned (.int .i64 0) ∧
      (∃ tail, HashAt w' g (if s.size < 64 then List.replicate 8 0 else absN ivS (bytesOf s) (s.size / 64)) tail s.size ∧ bytesOf tail = (bytesOf s).drop (64 * (s.size / 64))) ∧ Frm w w' (fun k => k = g) := by
  obtain ⟨l, hl⟩ : ∃ l, bytesOf s = l := ⟨_, rfl⟩
  have hll : l.length = s.size := by rw [← hl]; exact bytesOf_length s
  have HK := Aside0.mk hK
  have HL := Aside0.mk hl
  have HLL := Aside0.mk hll
  rw [hl]
  clear hl hll hK
  have c9 : w.cell? ⟨g, 9, none⟩ = some (.int .i64 0) := blk_cell h 9
  have HH := Aside0.mk h
  clear h
  go_enter Tryd.func56, Tryd.ntmps56
  go_wp2_with fail
  refine (begin_calls w).mono ?_
  rintro e w1 ⟨rfl, B1⟩
  have hg1 : g < w1.heap.size := Nat.lt_of_lt_of_le (blk_lt HH.out) B1.size
  have h1 := (B1.block _ (blk_lt HH.out)).trans HH.out
  have d0 : w1.cell? ⟨g, 0, none⟩ = some (.int .u32 0) := blk_cell h1 0
  have f0 : w1.frozen? ⟨g, 0, none⟩ = false := blk_frozen h1 0
  have d1 : w1.cell? ⟨g, 1, none⟩ = some (.int .u32 0) := blk_cell h1 1
  have f1 : w1.frozen? ⟨g, 1, none⟩ = false := blk_frozen h1 1
  have d2 : w1.cell? ⟨g, 2, none⟩ = some (.int .u32 0) := blk_cell h1 2
  have f2 : w1.frozen? ⟨g, 2, none⟩ = false := blk_frozen h1 2
  have d3 : w1.cell? ⟨g, 3, none⟩ = some (.int .u32 0) := blk_cell h1 3
  have f3 : w1.frozen? ⟨g, 3, none⟩ = false := blk_frozen h1 3
  have d4 : w1.cell? ⟨g, 4, none⟩ = some (.int .u32 0) := blk_cell h1 4
  have f4 : w1.frozen? ⟨g, 4, none⟩ = false := blk_frozen h1 4
  have d5 : w1.cell? ⟨g, 5, none⟩ = some (.int .u32 0) := blk_cell h1 5
  have f5 : w1.frozen? ⟨g, 5, none⟩ = false := blk_frozen h1 5
  have d6 : w1.cell? ⟨g, 6, none⟩ = some (.int .u32 0) := blk_cell h1 6
  have f6 : w1.frozen? ⟨g, 6, none⟩ = false := blk_frozen h1 6
  have d7 : w1.cell? ⟨g, 7, none⟩ = some (.int .u32 0) := blk_cell h1 7
  have f7 : w1.frozen? ⟨g, 7, none⟩ = false := blk_frozen h1 7
  have d8 : w1.cell? ⟨g, 8, none⟩ = some (.string ⟨#[]⟩) := blk_cell h1 8
  have f8 : w1.frozen? ⟨g, 8, none⟩ = false := blk_frozen h1 8
  have d9 : w1.cell? ⟨g, 9, none⟩ = some (.int .i64 0) := blk_cell h1 9
  have f9 : w1.frozen? ⟨g, 9, none⟩ = false := blk_frozen h1 9
  have HB1 := Aside0.mk B1
  have HH1 := Aside0.mk h1
  clear B1 h1 c9
  go_wp2_with fail
  have h2 : HashAt (((((((((w1.setCell ⟨g, 0, none⟩ (.int .u32 1779033703)).setCell ⟨g, 1, none⟩ (.int .u32 3144134277)).setCell ⟨g, 2, none⟩ (.int .u32 1013904242)).setCell ⟨g, 3, none⟩ (.int .u32 2773480762)).setCell ⟨g, 4, none⟩ (.int .u32 1359893119)).setCell ⟨g, 5, none⟩ (.int .u32 2600822924)).setCell ⟨g, 6, none⟩ (.int .u32 528734635)).setCell ⟨g, 7, none⟩ (.int .u32 1541459225)).setCell ⟨g, 9, none⟩ (.int .i64 s.size)) g ivS ⟨#[]⟩ s.size := ((show HashAt w1 g (List.replicate 8 0) ⟨#[]⟩ 0 from HH1.out).put8 List.length_replicate _ _ _ _ _ _ _ _).setN rfl _
  have F2 : Frm w (((((((((w1.setCell ⟨g, 0, none⟩ (.int .u32 1779033703)).setCell ⟨g, 1, none⟩ (.int .u32 3144134277)).setCell ⟨g, 2, none⟩ (.int .u32 1013904242)).setCell ⟨g, 3, none⟩ (.int .u32 2773480762)).setCell ⟨g, 4, none⟩ (.int .u32 1359893119)).setCell ⟨g, 5, none⟩ (.int .u32 2600822924)).setCell ⟨g, 6, none⟩ (.int .u32 528734635)).setCell ⟨g, 7, none⟩ (.int .u32 1541459225)).setCell ⟨g, 9, none⟩ (.int .i64 s.size)) (fun k => k = g) := ((((((((((Frm.of_fresh HB1.out (fun k => k = g)).setCell (p := ⟨g, 0, none⟩) (.inl rfl) _).setCell (p := ⟨g, 1, none⟩) (.inl rfl) _).setCell (p := ⟨g, 2, none⟩) (.inl rfl) _).setCell (p := ⟨g, 3, none⟩) (.inl rfl) _).setCell (p := ⟨g, 4, none⟩) (.inl rfl) _).setCell (p := ⟨g, 5, none⟩) (.inl rfl) _).setCell (p := ⟨g, 6, none⟩) (.inl rfl) _).setCell (p := ⟨g, 7, none⟩) (.inl rfl) _).setCell (p := ⟨g, 9, none⟩) (.inl rfl) _)
  obtain ⟨w2, hw2⟩ : ∃ w2, (((((((((w1.setCell ⟨g, 0, none⟩ (.int .u32 1779033703)).setCell ⟨g, 1, none⟩ (.int .u32 3144134277)).setCell ⟨g, 2, none⟩ (.int .u32 1013904242)).setCell ⟨g, 3, none⟩ (.int .u32 2773480762)).setCell ⟨g, 4, none⟩ (.int .u32 1359893119)).setCell ⟨g, 5, none⟩ (.int .u32 2600822924)).setCell ⟨g, 6, none⟩ (.int .u32 528734635)).setCell ⟨g, 7, none⟩ (.int .u32 1541459225)).setCell ⟨g, 9, none⟩ (.int .i64 s.size)) = w2 := ⟨_, rfl⟩
  rw [hw2] at h2 F2
  rw [hw2]
  have hes : (⟨#[]⟩ : ByteArray) ++ s = s := by apply ByteArray.ext; simp
  rw [hes]
  have HH2 := Aside0.mk h2
  have HF2 := Aside0.mk F2
  clear h2 F2 hw2 hes d0 d1 d2 d3 d4 d5 d6 d7 d8 d9 f0 f1 f2 f3 f4 f5 f6 f7 f8 f9
  go_loopw [1] (fun v wr => ∃ (k : Nat) (sk : ByteArray), 64 * k ≤ s.size ∧ v = .string sk ∧ bytesOf sk = l.drop (64 * k) ∧ HashAt wr g (absN ivS l k) ⟨#[]⟩ s.size ∧ Frm w wr (fun k => k = g)) (fun v _ => match v with | .string b => b.size | _ => 0)
  case atStart => exact ⟨0, s, Nat.zero_le _, rfl, by rw [Nat.mul_zero, List.drop_zero]; exact HL.out, HH2.out, HF2.out⟩
  case round =>
    clear HH2 HF2
    obtain ⟨k, sk, hk, rfl, hsk, hH, hF⟩ := hrel
    have hsz : sk.size = s.size - 64 * k := by
      have := bytesOf_length sk
      rw [hsk, List.length_drop, HLL.out] at this
      omega
    obtain ⟨x0, x1, x2, x3, x4, x5, x6, x7, hx⟩ := list8 (absN_len ivS l rfl k)
    rw [hx] at hH
    have hKr := HK.out.frm hF (by omega)
    have HX := Aside0.mk hx
    have HH := Aside0.mk hH
    have HF := Aside0.mk hF
    have HSK := Aside0.mk hsk
    have HKR := Aside0.mk hKr
    clear hx hH hF hsk hKr
    have d0 : wr.cell? ⟨g, 0, none⟩ = some (.int .u32 x0) := blk_cell HH.out 0
    have f0 : wr.frozen? ⟨g, 0, none⟩ = false := blk_frozen HH.out 0
    have d1 : wr.cell? ⟨g, 1, none⟩ = some (.int .u32 x1) := blk_cell HH.out 1
    have f1 : wr.frozen? ⟨g, 1, none⟩ = false := blk_frozen HH.out 1
    have d2 : wr.cell? ⟨g, 2, none⟩ = some (.int .u32 x2) := blk_cell HH.out 2
    have f2 : wr.frozen? ⟨g, 2, none⟩ = false := blk_frozen HH.out 2
    have d3 : wr.cell? ⟨g, 3, none⟩ = some (.int .u32 x3) := blk_cell HH.out 3
    have f3 : wr.frozen? ⟨g, 3, none⟩ = false := blk_frozen HH.out 3
    have d4 : wr.cell? ⟨g, 4, none⟩ = some (.int .u32 x4) := blk_cell HH.out 4
    have f4 : wr.frozen? ⟨g, 4, none⟩ = false := blk_frozen HH.out 4
    have d5 : wr.cell? ⟨g, 5, none⟩ = some (.int .u32 x5) := blk_cell HH.out 5
    have f5 : wr.frozen? ⟨g, 5, none⟩ = false := blk_frozen HH.out 5
    have d6 : wr.cell? ⟨g, 6, none⟩ = some (.int .u32 x6) := blk_cell HH.out 6
    have f6 : wr.frozen? ⟨g, 6, none⟩ = false := blk_frozen HH.out 6
    have d7 : wr.cell? ⟨g, 7, none⟩ = some (.int .u32 x7) := blk_cell HH.out 7
    have f7 : wr.frozen? ⟨g, 7, none⟩ = false := blk_frozen HH.out 7
    have d8 : wr.cell? ⟨g, 8, none⟩ = some (.string ⟨#[]⟩) := blk_cell HH.out 8
    have f8 : wr.frozen? ⟨g, 8, none⟩ = false := blk_frozen HH.out 8
    have d9 : wr.cell? ⟨g, 9, none⟩ = some (.int .i64 s.size) := blk_cell HH.out 9
    have f9 : wr.frozen? ⟨g, 9, none⟩ = false := blk_frozen HH.out 9
    have HSZ := Aside0.mk hsz
    by_cases hlt : 64 ≤ sk.size
    · have hli : (64 : Int) ≤ (sk.size : Int) := by omega
      have hbc := block_calls x0 x1 x2 x3 x4 x5 x6 x7 (sk.extract 0 64) (by rw [ByteArray.size_extract]; omega) wr.drew (show KT wr.drew from HKR.out)
      rw [bytesOf_extract, HSK.out, List.drop_zero, Nat.sub_zero] at hbc
      have HBC := Aside0.mk hbc
      clear hsz hbc
      go_wp2_with fail
      go_region_with (go_at_call 75; refine HBC.out.mono ?_; rintro e w9 ⟨⟨r0, r1, r2, r3, r4, r5, r6, r7, hr, rfl⟩, B9⟩; have k9 := (B9.block g (blk_lt HH.out)).trans HH.out; have e0 : w9.cell? ⟨g, 0, none⟩ = some (.int .u32 x0) := blk_cell k9 0; have g0 : w9.frozen? ⟨g, 0, none⟩ = false := blk_frozen k9 0; have e1 : w9.cell? ⟨g, 1, none⟩ = some (.int .u32 x1) := blk_cell k9 1; have g1 : w9.frozen? ⟨g, 1, none⟩ = false := blk_frozen k9 1; have e2 : w9.cell? ⟨g, 2, none⟩ = some (.int .u32 x2) := blk_cell k9 2; have g2 : w9.frozen? ⟨g, 2, none⟩ = false := blk_frozen k9 2; have e3 : w9.cell? ⟨g, 3, none⟩ = some (.int .u32 x3) := blk_cell k9 3; have g3 : w9.frozen? ⟨g, 3, none⟩ = false := blk_frozen k9 3; have e4 : w9.cell? ⟨g, 4, none⟩ = some (.int .u32 x4) := blk_cell k9 4; have g4 : w9.frozen? ⟨g, 4, none⟩ = false := blk_frozen k9 4; have e5 : w9.cell? ⟨g, 5, none⟩ = some (.int .u32 x5) := blk_cell k9 5; have g5 : w9.frozen? ⟨g, 5, none⟩ = false := blk_frozen k9 5; have e6 : w9.cell? ⟨g, 6, none⟩ = some (.int .u32 x6) := blk_cell k9 6; have g6 : w9.frozen? ⟨g, 6, none⟩ = false := blk_frozen k9 6; have e7 : w9.cell? ⟨g, 7, none⟩ = some (.int .u32 x7) := blk_cell k9 7; have g7 : w9.frozen? ⟨g, 7, none⟩ = false := blk_frozen k9 7)
      all_goals
        have HR := Aside0.mk hr
        have HH9 := Aside0.mk (show HashAt w9 g [x0, x1, x2, x3, x4, x5, x6, x7] ⟨#[]⟩ s.size from k9)
        have HF9 := Aside0.mk (Frm.of_fresh (show Below wr.heap.size wr w9 from ⟨B9.os, B9.tape, B9.output, B9.size, B9.block⟩) (fun k => k = g))
        clear hr k9 B9 d0 d1 d2 d3 d4 d5 d6 d7 d8 d9 f0 f1 f2 f3 f4 f5 f6 f7 f8 f9 e0 e1 e2 e3 e4 e5 e6 e7 g0 g1 g2 g3 g4 g5 g6 g7
        go_wp2_with fail
        go_roundw
        case rel =>
          refine ⟨k + 1, sk.extract 64 sk.size, by have := HSZ.out; omega, rfl, ?_, ?_, ?_⟩
          · rw [bytesOf_extract, HSK.out, List.drop_drop, show 64 * k + 64 = 64 * (k + 1) by omega, List.take_of_length_le]
            have := HLL.out
            have := HSZ.out
            rw [List.length_drop]
            omega
          · unfold absN
            rw [HX.out, HR.out]
            exact HH9.out.put8 rfl _ _ _ _ _ _ _ _
          · exact (((((((((HF.out.then_ HF9.out (fun _ h => .inl h)).setCell (p := ⟨g, 0, none⟩) (.inl rfl) _).setCell (p := ⟨g, 1, none⟩) (.inl rfl) _).setCell (p := ⟨g, 2, none⟩) (.inl rfl) _).setCell (p := ⟨g, 3, none⟩) (.inl rfl) _).setCell (p := ⟨g, 4, none⟩) (.inl rfl) _).setCell (p := ⟨g, 5, none⟩) (.inl rfl) _).setCell (p := ⟨g, 6, none⟩) (.inl rfl) _).setCell (p := ⟨g, 7, none⟩) (.inl rfl) _)
        case measure =>
          show (sk.extract 64 sk.size).size < sk.size
          rw [ByteArray.size_extract]
          omega
    · have hli : ¬ (64 : Int) ≤ (sk.size : Int) := by omega
      have hskl : sk.size < 1000000 := by omega
      have kb := print_bytes (P := Tryd.prog) 9 46 5 Tryd.underlying9 Tryd.underlying46 Tryd.underlying5 sk wr
      have kc : (convert 46 9 (.slice (some ⟨wr.heap.size, 0, none⟩) sk.size (grownCap wr sk.size 0 5))).run Tryd.prog (Lib.bytesWorld wr 5 sk) = .ok (.string sk) (Lib.bytesWorld wr 5 sk) := by
        obtain ⟨A0, c0, e0, hc0, hC0⟩ := (Stab.bytes (S := fun _ => False) wr sk (by omega) (fun h => h) _ (grownCap_ge wr sk.size 0 5)).now
        rw [e0]
        have := Kd.C_string (P := Tryd.prog) (c := c0) Tryd.underlying46 Tryd.underlying5 Tryd.underlying9 hC0
        rw [this, nums_bytesOf]
      have bw := bytes_below (Below.refl wr.heap.size wr) (Nat.le_refl _) 5 sk
      have hx := (bw.block g (blk_lt HH.out)).trans HH.out
      have hkq : k = s.size / 64 := by omega
      have HQ := Aside0.mk hkq
      clear hsz d0 d1 d2 d3 d4 d5 d6 d7 d8 d9 f0 f1 f2 f3 f4 f5 f6 f7 f8 f9
      have d0 : (Lib.bytesWorld wr 5 sk).cell? ⟨g, 0, none⟩ = some (.int .u32 x0) := blk_cell hx 0
      have f0 : (Lib.bytesWorld wr 5 sk).frozen? ⟨g, 0, none⟩ = false := blk_frozen hx 0
      have d1 : (Lib.bytesWorld wr 5 sk).cell? ⟨g, 1, none⟩ = some (.int .u32 x1) := blk_cell hx 1
      have f1 : (Lib.bytesWorld wr 5 sk).frozen? ⟨g, 1, none⟩ = false := blk_frozen hx 1
      have d2 : (Lib.bytesWorld wr 5 sk).cell? ⟨g, 2, none⟩ = some (.int .u32 x2) := blk_cell hx 2
      have f2 : (Lib.bytesWorld wr 5 sk).frozen? ⟨g, 2, none⟩ = false := blk_frozen hx 2
      have d3 : (Lib.bytesWorld wr 5 sk).cell? ⟨g, 3, none⟩ = some (.int .u32 x3) := blk_cell hx 3
      have f3 : (Lib.bytesWorld wr 5 sk).frozen? ⟨g, 3, none⟩ = false := blk_frozen hx 3
      have d4 : (Lib.bytesWorld wr 5 sk).cell? ⟨g, 4, none⟩ = some (.int .u32 x4) := blk_cell hx 4
      have f4 : (Lib.bytesWorld wr 5 sk).frozen? ⟨g, 4, none⟩ = false := blk_frozen hx 4
      have d5 : (Lib.bytesWorld wr 5 sk).cell? ⟨g, 5, none⟩ = some (.int .u32 x5) := blk_cell hx 5
      have f5 : (Lib.bytesWorld wr 5 sk).frozen? ⟨g, 5, none⟩ = false := blk_frozen hx 5
      have d6 : (Lib.bytesWorld wr 5 sk).cell? ⟨g, 6, none⟩ = some (.int .u32 x6) := blk_cell hx 6
      have f6 : (Lib.bytesWorld wr 5 sk).frozen? ⟨g, 6, none⟩ = false := blk_frozen hx 6
      have d7 : (Lib.bytesWorld wr 5 sk).cell? ⟨g, 7, none⟩ = some (.int .u32 x7) := blk_cell hx 7
      have f7 : (Lib.bytesWorld wr 5 sk).frozen? ⟨g, 7, none⟩ = false := blk_frozen hx 7
      have d8 : (Lib.bytesWorld wr 5 sk).cell? ⟨g, 8, none⟩ = some (.string ⟨#[]⟩) := blk_cell hx 8
      have f8 : (Lib.bytesWorld wr 5 sk).frozen? ⟨g, 8, none⟩ = false := blk_frozen hx 8
      have d9 : (Lib.bytesWorld wr 5 sk).cell? ⟨g, 9, none⟩ = some (.int .i64 s.size) := blk_cell hx 9
      have f9 : (Lib.bytesWorld wr 5 sk).frozen? ⟨g, 9, none⟩ = false := blk_frozen hx 9
      have HHY := Aside0.mk (show HashAt (Lib.bytesWorld wr 5 sk) g [x0, x1, x2, x3, x4, x5, x6, x7] ⟨#[]⟩ s.size from hx)
      have HFY := Aside0.mk (Frm.fresh HF.out bw)
      clear hx bw
      by_cases hn : s.size < 64
      · have hni : (s.size : Int) < 64 := by omega
        go_wp2_with fail
        go_ret
        refine ⟨rfl, ⟨sk, ?_, by rw [← HQ.out]; exact HSK.out⟩, (((((((((HFY.out.setCell (p := ⟨g, 8, none⟩) (.inl rfl) _).setCell (p := ⟨g, 0, none⟩) (.inl rfl) _).setCell (p := ⟨g, 1, none⟩) (.inl rfl) _).setCell (p := ⟨g, 2, none⟩) (.inl rfl) _).setCell (p := ⟨g, 3, none⟩) (.inl rfl) _).setCell (p := ⟨g, 4, none⟩) (.inl rfl) _).setCell (p := ⟨g, 5, none⟩) (.inl rfl) _).setCell (p := ⟨g, 6, none⟩) (.inl rfl) _).setCell (p := ⟨g, 7, none⟩) (.inl rfl) _)⟩
        exact ((HHY.out.setTail rfl sk).put8 rfl 0 0 0 0 0 0 0 0)
      · have hni : ¬ (s.size : Int) < 64 := by omega
        go_wp2_with fail
        go_ret
        refine ⟨rfl, ⟨sk, ?_, by rw [← HQ.out]; exact HSK.out⟩, HFY.out.setCell (p := ⟨g, 8, none⟩) (.inl rfl) _⟩
        rw [← HQ.out, HX.out]
        exact HHY.out.setTail rfl sk
end Go.Proofs.YtbddllklagiajaaDoor

namespace Go.Proofs.YtbddllklagiajaaDoor
open PImageDecodes (info5)
open Go.RowKit Go.Proofs.YtbddllklagiajaaDoorW.PrintWords Go.Proofs.YtbddllklagiajaaDoorW.PrintLast Go.Proofs.YtbddllklagiajaaDoorW.PrintMore
set_option linter.unusedVariables false
set_option linter.unusedSimpArgs false

/-- A slice of bytes in a block of the call's own, of whose cells none is frozen. -/
def RowB (w : World) (base : Nat) (v : Value) (xs : List Int) : Prop :=
  ∃ g cap cur fz, v = .slice (some ⟨g, 0, none⟩) xs.length cap ∧ base ≤ g ∧ w.heap[g]? = some (.cells cur 5 fz) ∧ (cur.size ≤ fz.1 ∨ fz = (0, 0)) ∧ xs.length ≤ cap ∧ cur.size = cap ∧ cap ≤ maxLen ∧ cur.toList.take xs.length = xs.map (Value.int .u8)

namespace RowB
variable {w w' : World} {base : Nat} {v : Value} {xs : List Int}
theorem form (h : RowB w base v xs) : ∃ g n c, v = .slice (some ⟨g, 0, none⟩) n c ∧ n = xs.length := by
  obtain ⟨g, cap, cur, fz, rfl, _⟩ := h
  exact ⟨g, _, cap, rfl, rfl⟩
theorem frm {S : Nat → Prop} (h : RowB w base v xs) (hk : Frm w w' S) (hS : ∀ k, some k = v.ownBlock → ¬ S k) : RowB w' base v xs := by
  obtain ⟨g, cap, cur, fz, rfl, hb, hg, rest⟩ := h
  exact ⟨g, cap, cur, fz, rfl, hb, hk.blk hg (hS g rfl), rest⟩
theorem ne (h : RowB w base v xs) {k t : Nat} {cs : Array Value} {fr : Nat × Nat} (hk : w.heap[k]? = some (.cells cs t fr)) (ht : t ≠ 5) : ¬ some k = v.ownBlock := by
  obtain ⟨g, cap, cur, fz, rfl, hb, hg, _⟩ := h
  intro e
  have e : k = g := by simpa [Value.ownBlock] using e
  subst e
  rw [hk] at hg
  injection hg with hg
  injection hg with _ ht2
  exact ht ht2
theorem ge (h : RowB w base v xs) {k : Nat} (hk : some k = v.ownBlock) : base ≤ k ∧ k < w.heap.size := by
  obtain ⟨g, cap, cur, fz, rfl, hb, hg, _⟩ := h
  have e : k = g := by simpa [Value.ownBlock] using hk
  subst e
  exact ⟨hb, blk_lt hg⟩
theorem cellAt (h : RowB w base v xs) : ∃ g cap, v = .slice (some ⟨g, 0, none⟩) xs.length cap ∧ xs.length ≤ cap ∧ cap ≤ maxLen ∧ ∀ j u, (xs.map (Value.int .u8))[j]? = some u → w.cell? ⟨g, j, none⟩ = some u := by
  obtain ⟨g, cap, cur, fz, rfl, hb, hg, hfz, hn, hs, hm, ht⟩ := h
  refine ⟨g, cap, rfl, hn, hm, fun j u hu => ?_⟩
  rw [cell_of_row w g j cur 5 fz hg]
  rw [← ht, List.getElem?_take] at hu
  split at hu
  · simpa using hu
  · cases hu
/-- It reads. -/
theorem reads (h : RowB w base v xs) : ∃ g cap, v = .slice (some ⟨g, 0, none⟩) xs.length cap ∧ xs.length ≤ cap ∧ KB.C w (some ⟨g, 0, none⟩) xs.length xs := by
  obtain ⟨g, cap, hv, hn, hm, hc⟩ := h.cellAt
  refine ⟨g, cap, hv, hn, Kd.C_of_reads (d := 0) ⟨rfl, by unfold maxLen at hm; omega, fun _ => ⟨_, rfl, fun j hj => ?_⟩⟩⟩
  rw [add_plain]
  refine hc j _ ?_
  simp [hj]
/-- A converted string. -/
theorem conv (w : World) (s : ByteArray) (hb : base ≤ w.heap.size) (hs : s.size ≤ maxLen) : RowB (Lib.bytesWorld w 5 s) base (.slice (some ⟨w.heap.size, 0, none⟩) s.size (grownCap w s.size 0 5)) (bytesOf s) := by
  have hl := bytesOf_length s
  have hge := grownCap_ge w s.size 0 5
  have hsz : (Lib.bytesCells w 5 s).size = grownCap w s.size 0 5 := by
    have : s.data.size = s.size := rfl
    simp [Lib.bytesCells, this]
    omega
  refine ⟨w.heap.size, _, _, _, by rw [hl], hb, Lib.bytesWorld_at_new w 5 s, .inl (Nat.le_refl _), by rw [hl]; exact hge, hsz, grownCap_le_maxLen w s.size 0 5 hs, ?_⟩
  have hd : s.data.toList.length = s.size := rfl
  simp only [Lib.bytesCells, Array.toList_append, Array.toList_map]
  rw [List.take_append_of_le_length (by rw [List.length_map, hl, hd]; exact Nat.le_refl _), List.take_of_length_le (by rw [List.length_map, hl, hd]; exact Nat.le_refl _)]
  unfold bytesOf
  rw [List.map_map]
  rfl
theorem of_own (h : w.ownsRow base 5 1 v xs.length (xs.map (Value.int .u8))) (hn : 0 < xs.length) : RowB w base v xs := by
  rcases h.2 with ⟨_, h0⟩ | ⟨g, cap, cur, rfl, hb, hg, hn2, hm, hs, ht⟩
  · omega
  · exact ⟨g, cap, cur, (0, 0), rfl, hb, hg, .inr rfl, hn2, by simpa using hs, hm, by simpa using ht⟩
end RowB

section
variable {P : Program} {ops : Array Oper} {rest : List Oper} {o : Oper} {a : Act} {Q : Exit → Act → World → Prop}
/-- One byte is appended. -/
theorem RowB.append1 {W : World} (base : Nat) (hgd : o.guard = none) (s x : Operand) (t : TypeId)
    (ho : o.op = .call { callee := .builtin .append, args := #[s, x], argTypes := #[t, t] })
    (ht : P.underlying t = some (.slice 5)) (hinfo : (P.info? 5).map (fun i => (i.zero, i.size, i.bytes)) = some (some (.int .u8 0), 1, 1))
    (v : Value) (xs : List Int) (y : Int) (hs : a.eval s = v) (hx : a.eval x = .slice (some ⟨W.heap.size, 0, none⟩) 1 1)
    (HR : RowB W base v xs) (hbase : base ≤ W.heap.size) (hl : xs.length ≤ 100000000)
    (h : ∀ v1 w1, RowB w1 base v1 (xs ++ [y]) → Frm W w1 (fun k => some k = v.ownBlock) → wpList P ops Q rest (a.put o.dst v1) w1) :
    wpList P ops Q (o :: rest) a (W.alloc (.cells #[.int .u8 y] 5)) := by
  obtain ⟨i, hi, h3, h4, h5⟩ : ∃ i, P.info? 5 = some i ∧ i.zero = some (.int .u8 0) ∧ i.size = 1 ∧ i.bytes = 1 := by
    obtain ⟨i, hi, e⟩ := Option.map_eq_some_iff.1 hinfo
    simp only [Prod.mk.injEq] at e
    exact ⟨i, hi, e.1, e.2.1, e.2.2⟩
  have HA : RowB (W.alloc (.cells #[.int .u8 y] 5)) base v xs := HR.frm ((Frm.refl W (fun _ => False)).alloc _) (fun _ _ h => h)
  obtain ⟨g, cap, cur, fz, rfl, hbg, hg, hfz, hn, hsz, hm, htk⟩ := HA
  have hgW : g < W.heap.size := (HR.ge (k := g) rfl).2
  obtain ⟨_, _, hv, hn2, _, hcell⟩ := HR.cellAt
  have hw1 : (W.alloc (.cells #[.int .u8 y] 5)).heap.size = W.heap.size + 1 := World.size_alloc _ _
  have hcellA : ∀ j u, (xs.map (Value.int .u8))[j]? = some u → (W.alloc (.cells #[.int .u8 y] 5)).cell? ⟨g, 0 + j, none⟩ = some u := by
    intro j u hu
    rw [Nat.zero_add, cell_of_row _ g j cur 5 fz hg]
    rw [← htk, List.getElem?_take] at hu
    split at hu
    · simpa using hu
    · cases hu
  refine wpList_append_arg (W.alloc (.cells #[.int .u8 y] 5)) hgd s x t ho 5 i (.int .u8 0) 1 1 ht hi h3 h4 h5 rfl (by decide) g 0 xs.length cap (xs.map (Value.int .u8)) hs (by simp) hcellA
    ⟨W.heap.size, 0, none⟩ 1 1 [.int .u8 y] hx rfl (fun j u hu => ?_) (fun u hu => by simp at hu; subst hu; rfl) (fun hroom j hj => ?_) (by unfold maxLen; omega) (by omega) (fun hroom => ?_) (fun hgrow v' w' hown hgb => ?_)
  · rw [add_plain]
    have hj : j = 0 := by
      have := (List.getElem?_eq_some_iff.1 hu).1
      simp at this
      omega
    subst hj
    rw [blk_cell (blk_new W _) 0]
    simpa using hu
  · simp only [List.length_singleton] at hj
    have hj0 : j = 0 := by omega
    subst hj0
    have hlt : xs.length < cur.size := by omega
    constructor
    · rw [cell_of_row _ g _ cur 5 fz hg]
      simp [hlt]
    · obtain ⟨f0, f1⟩ := fz
      simp only [World.frozen?, hg, Bool.and_eq_false_iff, decide_eq_false_iff_not]
      rcases hfz with hfz | hfz
      · left; simp only at hfz; omega
      · right; injection hfz with _ h2; omega
  · have hlt : xs.length < cur.size := by omega
    have hset : (W.alloc (.cells #[.int .u8 y] 5)).setCells g (0 + xs.length * 1) [.int .u8 y] = (W.alloc (.cells #[.int .u8 y] 5)).setCell ⟨g, xs.length, none⟩ (.int .u8 y) := by
      simp [World.setCells]
    rw [hset]
    refine h _ _ ⟨g, cap, cur.setIfInBounds xs.length (.int .u8 y), fz, by simp, hbg, ?_, by rw [Array.size_setIfInBounds]; exact hfz, by simp; omega, by rw [Array.size_setIfInBounds]; exact hsz, hm, ?_⟩ ?_
    · simp [World.setCell, Array.getElem?_modify, hg]
    · rw [Array.toList_setIfInBounds, List.length_append, List.length_singleton, List.map_append, ← htk]
      have hlt2 : xs.length < cur.toList.length := by simpa using hlt
      rw [List.take_add_one, List.take_set_of_le (Nat.le_refl _)]
      rw [List.getElem?_set_self hlt2]
      simp
    · refine Frm.setCell (Frm.alloc (Frm.refl W _) _) (.inl ?_) _
      rfl
  · have hne : 0 < (xs ++ [y]).length := by simp
    have hown' : w'.ownsRow base 5 1 v' (xs ++ [y]).length ((xs ++ [y]).map (Value.int .u8)) := by
      have h1 : w'.ownsRow (W.alloc (.cells #[.int .u8 y] 5)).heap.size 5 1 v' (xs ++ [y]).length ((xs ++ [y]).map (Value.int .u8)) := by simpa using hown
      refine ⟨h1.1, ?_⟩
      rcases h1.2 with h2 | ⟨g2, cap2, cur2, e2, hb2, rest2⟩
      · exact .inl h2
      · exact .inr ⟨g2, cap2, cur2, e2, by omega, rest2⟩
    exact h _ _ (RowB.of_own hown' hne) (((Frm.refl W _).alloc _).grown hgb (fun k hk => by cases hk))
end
end Go.Proofs.YtbddllklagiajaaDoor
