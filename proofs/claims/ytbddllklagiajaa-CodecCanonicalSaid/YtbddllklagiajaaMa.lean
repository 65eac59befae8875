/- Numbers and their encodings, without memory: the groups of seven bits, and that the printed functions of both packages give them. -/
import Derived.Test.YtbddllklagiajaaPCodecNumbersx1
set_option linter.unusedVariables false
set_option linter.unusedSimpArgs false
namespace Go.Proofs.Ytbddllklagiajaa
open Go.RowKit Go.Proofs.YtbddllklagiajaaW.PrintWords Go.Proofs.YtbddllklagiajaaW.PrintLast Go.Proofs.YtbddllklagiajaaW.PrintMore

/-- The encoding of a natural number. -/
def enc (n : Nat) : List Int := if n < 128 then [(n : Int)] else ((n % 128 + 128 : Nat) : Int) :: enc (n / 128)
termination_by n

theorem enc_small {n : Nat} (h : n < 128) : enc n = [(n : Int)] := by rw [enc, if_pos h]
theorem enc_big {n : Nat} (h : ¬ n < 128) : enc n = ((n % 128 + 128 : Nat) : Int) :: enc (n / 128) := by rw [enc, if_neg h]

theorem enc_pos (n : Nat) : 1 ≤ (enc n).length := by
  by_cases h : n < 128
  · rw [enc_small h]; simp
  · rw [enc_big h]; simp

theorem enc_len (d : Nat) : ∀ n, n < 128 ^ (d + 1) → (enc n).length ≤ d + 1 := by
  induction d with
  | zero => intro n h; rw [enc_small (by simpa using h)]; simp
  | succ d ih =>
    intro n h
    by_cases h1 : n < 128
    · rw [enc_small h1]; simp
    · rw [enc_big h1, List.length_cons]
      have := ih (n / 128) (by rw [Nat.div_lt_iff_lt_mul (by omega)]; rw [Nat.pow_succ] at h; exact h)
      omega

theorem enc_len10 {n : Nat} (h : n < 18446744073709551616) : (enc n).length ≤ 10 := enc_len 9 n (by omega)
theorem enc_len9 {n : Nat} (h : n < 9223372036854775808) : (enc n).length ≤ 9 := enc_len 8 n (by omega)

theorem or_128 : ∀ m : Fin 256, (m.val ||| 128) = m.val % 128 + 128 := by decide +kernel

theorem bits_or_128 (x : Int) (h0 : 0 ≤ x) : Go.bits .or .u8 (x % 256) 128 = x % 128 + 128 := by
  obtain ⟨m, hm⟩ := Int.eq_ofNat_of_zero_le (show 0 ≤ x % 256 by omega)
  have hlt : m < 256 := by omega
  have h1 := (bits_nat .u8 8 (by decide) wraps_u8 m 128 (by omega) (by omega)).2
  have h2 : (m ||| 128) = m % 128 + 128 := or_128 ⟨m, hlt⟩
  rw [hm]
  refine h1.trans ?_
  rw [h2]
  omega

theorem natural_l0 (d : Nat) : ∀ (k n : Nat) (out : List Int), n < 128 ^ (d + 1) → n < 18446744073709551616 → d < k → out.length + d < 1000 →
    PCodecNumbers.codec_natural.l0 k (n : Int) out = some (out ++ enc n) := by
  induction d with
  | zero =>
    intro k n out h h64 hk ho
    obtain ⟨k, rfl⟩ : ∃ m, k = m + 1 := ⟨k - 1, by omega⟩
    simp only [PCodecNumbers.codec_natural.l0]
    rw [if_neg (by omega), if_pos (by omega), enc_small (by omega), Int.emod_eq_of_lt (by omega) (by omega)]
  | succ d ih =>
    intro k n out h h64 hk ho
    obtain ⟨k, rfl⟩ : ∃ m, k = m + 1 := ⟨k - 1, by omega⟩
    simp only [PCodecNumbers.codec_natural.l0]
    by_cases h1 : n < 128
    · rw [if_neg (by omega), if_pos (by omega), enc_small h1, Int.emod_eq_of_lt (by omega) (by omega)]
    · rw [if_pos (by omega), if_pos (by omega)]
      have h3 := ih k (n / 128) (out ++ [Go.bits .or .u8 ((n : Int) % 256) 128]) (by rw [Nat.div_lt_iff_lt_mul (by omega)]; rw [Nat.pow_succ] at h; exact h) (by omega) (by omega) (by simp; omega)
      rw [show ((n : Int) / 128) = ((n / 128 : Nat) : Int) by omega, h3, enc_big h1, bits_or_128 _ (by omega)]
      simp

theorem natural_f {k n : Nat} (h : n < 18446744073709551616) (hk : 10 ≤ k) : PCodecNumbers.codec_natural.f k (n : Int) = some (enc n) := by
  unfold PCodecNumbers.codec_natural.f
  rw [natural_l0 9 k n [] (by omega) h (by omega) (by simp)]
  simp

theorem Natural_l0 (d : Nat) : ∀ (k n : Nat) (out : List Int), n < 128 ^ (d + 1) → n < 18446744073709551616 → d < k → out.length + d < 1000 →
    PCodecNumbers.replevinref01_Natural.l0 k (n : Int) out = some (out ++ enc n) := by
  induction d with
  | zero =>
    intro k n out h h64 hk ho
    obtain ⟨k, rfl⟩ : ∃ m, k = m + 1 := ⟨k - 1, by omega⟩
    simp only [PCodecNumbers.replevinref01_Natural.l0]
    rw [if_neg (by omega), if_pos (by omega), enc_small (by omega), Int.emod_eq_of_lt (by omega) (by omega)]
  | succ d ih =>
    intro k n out h h64 hk ho
    obtain ⟨k, rfl⟩ : ∃ m, k = m + 1 := ⟨k - 1, by omega⟩
    simp only [PCodecNumbers.replevinref01_Natural.l0]
    by_cases h1 : n < 128
    · rw [if_neg (by omega), if_pos (by omega), enc_small h1, Int.emod_eq_of_lt (by omega) (by omega)]
    · rw [if_pos (by omega), if_pos (by omega)]
      have e1 : IntKind.u64.wrap (Int.tdiv (n : Int) 128) = ((n / 128 : Nat) : Int) := by
        rw [Int.tdiv_eq_ediv_of_nonneg (by omega)]
        simp only [IntKind.wrap_u64]
        omega
      have e2 : IntKind.u64.wrap (Int.tmod (n : Int) 128 + 128) % 256 = ((n % 128 + 128 : Nat) : Int) := by
        rw [Int.tmod_eq_emod_of_nonneg (by omega)]
        simp only [IntKind.wrap_u64]
        omega
      rw [e1, e2]
      have h3 := ih k (n / 128) (out ++ [((n % 128 + 128 : Nat) : Int)]) (by rw [Nat.div_lt_iff_lt_mul (by omega)]; rw [Nat.pow_succ] at h; exact h) (by omega) (by omega) (by simp; omega)
      rw [h3, enc_big h1]
      simp

theorem Natural_f {k n : Nat} (h : n < 18446744073709551616) (hk : 10 ≤ k) : PCodecNumbers.replevinref01_Natural.f k (n : Int) = some (enc n) := by
  unfold PCodecNumbers.replevinref01_Natural.f
  rw [Natural_l0 9 k n [] (by omega) h (by omega) (by simp)]
  simp

end Go.Proofs.Ytbddllklagiajaa
