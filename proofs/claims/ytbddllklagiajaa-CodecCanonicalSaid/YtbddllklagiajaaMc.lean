/- The printed functions 'groups' of package codec and of the reference give 'grp'. -/
import Derived.Test.YtbddllklagiajaaMb
set_option linter.unusedVariables false
set_option linter.unusedSimpArgs false
namespace Go.Proofs.Ytbddllklagiajaa
open Go.RowKit Go.Proofs.YtbddllklagiajaaW.PrintWords Go.Proofs.YtbddllklagiajaaW.PrintLast Go.Proofs.YtbddllklagiajaaW.PrintMore

theorem mod_join (v c p r : Nat) (hv : v < p) (hr : 0 < r) : (v + c * p) % (p * r) = v + p * (c % r) := by
  have h1 : v + c * p = v + p * (c % r) + (p * r) * (c / r) := by
    have h2 := Nat.div_add_mod c r
    have h3 : c * p = p * (r * (c / r) + c % r) := by rw [h2, Nat.mul_comm]
    rw [h3, Nat.mul_add, Nat.mul_assoc]
    omega
  rw [h1, Nat.add_mul_mod_self_left]
  refine Nat.mod_eq_of_lt ?_
  have h4 : c % r + 1 ≤ r := Nat.mod_lt _ hr
  have h5 : p * (c % r + 1) ≤ p * r := Nat.mul_le_mul_left _ h4
  rw [Nat.mul_add] at h5
  omega

theorem wraps_u64 (n : Int) (h0 : 0 ≤ n) (h1 : n < 2 ^ 64) : IntKind.u64.wrap n = n := by rw [IntKind.wrap_u64]; omega

/-- One group more. -/
theorem group_step (l : List Int) (i : Nat) (hi : i < l.length) (h9 : i ≤ 9) (hb : Bytes l) :
    Go.bits .or .u64 ((val (l.take i) % 18446744073709551616 : Nat) : Int) (shl .u64 (IntKind.u64.wrap (Go.bits .and .u8 (l.getD i 0) 127)) (wrap64 (7 * (i : Int)))) = ((val (l.take (i + 1)) % 18446744073709551616 : Nat) : Int) := by
  obtain ⟨c, hc⟩ : ∃ c : Nat, l.getD i 0 = (c : Int) ∧ c ≤ 255 := by
    have h1 : l.getD i 0 ∈ l := by
      rw [List.getD_eq_getElem?_getD, List.getElem?_eq_getElem hi]
      exact List.getElem_mem _
    have h2 := hb _ h1
    exact ⟨(l.getD i 0).toNat, by omega, by omega⟩
  obtain ⟨hc, hc2⟩ := hc
  have e1 : Go.bits .and .u8 (l.getD i 0) 127 = ((c % 128 : Nat) : Int) := by
    rw [hc]
    have := bits_mask .u8 8 (by decide) wraps_u8 7 (by decide) (c : Int) (by omega) (by omega)
    refine Eq.trans this ?_
    omega
  have e2 : IntKind.u64.wrap ((c % 128 : Nat) : Int) = ((c % 128 : Nat) : Int) := wraps_u64 _ (by omega) (by omega)
  have e3 : wrap64 (7 * (i : Int)) = ((7 * i : Nat) : Int) := by unfold wrap64; omega
  obtain ⟨p, hp⟩ : ∃ p : Nat, p = 2 ^ (7 * i) := ⟨_, rfl⟩
  have hp128 : p = 128 ^ i := by rw [hp, Nat.pow_mul]
  obtain ⟨r, hr⟩ : ∃ r : Nat, p * r = 18446744073709551616 ∧ 0 < r := by
    refine ⟨2 ^ (64 - 7 * i), ?_, Nat.two_pow_pos _⟩
    rw [hp, ← Nat.pow_add, show 7 * i + (64 - 7 * i) = 64 by omega]
  have hv := val_lt (l.take i)
  rw [List.length_take, Nat.min_eq_left (by omega), ← hp128] at hv
  have hpr : p ≤ p * r := Nat.le_mul_of_pos_right _ hr.2
  have e4 : shl .u64 ((c % 128 : Nat) : Int) ((7 * i : Nat) : Int) = ((p * (c % 128 % r) : Nat) : Int) := by
    unfold shl
    rw [show min ((7 * i : Nat) : Int).toNat IntKind.u64.bits = 7 * i from by simp [IntKind.bits]; omega]
    have h5 : ((c % 128 : Nat) : Int) * 2 ^ (7 * i) = ((c % 128 * p : Nat) : Int) := by rw [hp]; simp
    rw [h5, IntKind.wrap_u64]
    have h6 := mod_join 0 (c % 128) p r (by omega) hr.2
    rw [hr.1, Nat.zero_add, Nat.zero_add] at h6
    omega
  rw [e1, e2, e3, e4, Nat.mod_eq_of_lt (by omega)]
  have hlt : p * (c % 128 % r) < 2 ^ 64 := by
    have h4 : c % 128 % r + 1 ≤ r := Nat.mod_lt _ hr.2
    have h5 : p * (c % 128 % r + 1) ≤ p * r := Nat.mul_le_mul_left _ h4
    rw [Nat.mul_add] at h5
    omega
  rw [(bits_nat .u64 64 (by decide) wraps_u64 _ _ (by omega) hlt).2, Nat.or_comm, hp, ← Nat.two_pow_add_eq_or_of_lt (by omega), ← hp]
  rw [take_snoc' l i hi, val_append _ _ (by omega), List.length_take, Nat.min_eq_left (by omega), ← hp128, hc]
  have h7 := mod_join (val (l.take i)) (c % 128) p r hv hr.2
  rw [hr.1] at h7
  rw [show ((c : Int) % 128).toNat = c % 128 by omega, h7]
  omega

def grpW (most : Nat) (l : List Int) : Int × Int × Int := (((grp most l).1 % 18446744073709551616 : Nat), ((grp most l).2.1 : Nat), ((grp most l).2.2 : Nat))

theorem rd_nat (l : List Int) (i : Nat) : rd l (i : Int) = l.getD i 0 := by simp [rd]

theorem wrap7 {i : Nat} (h : i < 10) : 0 ≤ wrap64 (7 * (i : Int)) := by
  rw [show wrap64 (7 * (i : Int)) = ((7 * i : Nat) : Int) by unfold wrap64; omega]
  omega
theorem groups_l0 (most : Nat) (l : List Int) (hm : most ≤ 10) (hlen : l.length ≤ 9223372036854775806) (hb : Bytes l) (d : Nat) : ∀ (k i : Nat), i + d = min (lead l) most → d < k →
    PCodecNumbers.codec_groups.l0 k l most ((val (l.take i) % 18446744073709551616 : Nat) : Int) l l.length i = some (grpW most l) := by
  have hle := lead_le l
  induction d with
  | zero =>
    intro k i hi hk
    obtain ⟨k, rfl⟩ : ∃ m, k = m + 1 := ⟨k - 1, by omega⟩
    simp only [PCodecNumbers.codec_groups.l0]
    by_cases h1 : most ≤ lead l
    · have hg : grpW most l = (0, 0, 3) := by unfold grpW grp; rw [if_pos h1]; rfl
      rw [hg]
      have him : i = most := by omega
      by_cases h2 : i < l.length
      · rw [if_pos (by omega), if_pos (by omega), if_pos (by omega), if_pos (by omega)]
      · rw [if_neg (by omega), if_pos (by omega)]
    · have hil : i = lead l := by omega
      by_cases h2 : l.length ≤ lead l
      · have hg : grpW most l = (0, 0, 28) := by unfold grpW grp; rw [if_neg h1, if_pos h2]; rfl
        rw [hg, if_neg (by omega), if_neg (by omega)]
      · have hc := lead_at l (by omega)
        rw [← hil] at hc
        rw [if_pos (by omega), if_pos (by omega), if_pos (by omega), if_neg (by omega), if_pos (wrap7 (by omega)), rd_nat, if_pos hc]
        have hstep := group_step l i (by omega) (by omega) hb
        rw [hstep]
        by_cases h3 : l.getD i 0 = 0
        · rw [if_pos h3]
          by_cases h4 : i = 0
          · have hg : grpW most l = (((val (l.take (i + 1)) % 18446744073709551616 : Nat) : Int), ((i + 1 : Nat) : Int), (0 : Int)) := by
              unfold grpW grp; rw [if_neg h1, if_neg h2, if_neg (by omega), ← hil]; rfl
            rw [hg, if_neg (by omega)]
            simp only [Option.some.injEq, Prod.mk.injEq]
            exact ⟨trivial, by unfold wrap64; omega, trivial⟩
          · have hg : grpW most l = (0, 0, 3) := by
              unfold grpW grp; rw [if_neg h1, if_neg h2, if_pos ⟨by omega, by rw [← hil]; exact h3⟩]; rfl
            rw [hg, if_pos (by omega)]
        · rw [if_neg h3]
          have hg : grpW most l = (((val (l.take (i + 1)) % 18446744073709551616 : Nat) : Int), ((i + 1 : Nat) : Int), (0 : Int)) := by
            unfold grpW grp; rw [if_neg h1, if_neg h2, if_neg (by rw [← hil]; exact fun hh => h3 hh.2), ← hil]; rfl
          rw [hg]
          simp only [Option.some.injEq, Prod.mk.injEq]
          exact ⟨trivial, by unfold wrap64; omega, trivial⟩
  | succ d ih =>
    intro k i hi hk
    obtain ⟨k, rfl⟩ : ∃ m, k = m + 1 := ⟨k - 1, by omega⟩
    simp only [PCodecNumbers.codec_groups.l0]
    have hc := lead_lt l i (by omega)
    rw [if_pos (by omega), if_pos (by omega), if_pos (by omega), if_neg (by omega), if_pos (wrap7 (by omega)), rd_nat, if_neg (by omega)]
    rw [group_step l i (by omega) (by omega) hb, show wrap64 ((i : Int) + 1) = ((i + 1 : Nat) : Int) by unfold wrap64; omega]
    exact ih k (i + 1) (by omega) (by omega)

theorem groups_f {k most : Nat} (l : List Int) (hm : most ≤ 10) (hlen : l.length ≤ 9223372036854775806) (hb : Bytes l) (hk : 11 ≤ k) :
    PCodecNumbers.codec_groups.f k l most = some (grpW most l) := by
  unfold PCodecNumbers.codec_groups.f
  exact groups_l0 most l hm hlen hb (min (lead l) most) k 0 (by omega) (by omega)

/-- What Parse answers. -/
def prs (l : List Int) : Int × Int × Int := (((grp 9 l).1 : Nat), ((grp 9 l).2.1 : Nat), ((grp 9 l).2.2 : Nat))

theorem grp9_lt (l : List Int) : (grp 9 l).1 < 9223372036854775808 := by
  unfold grp
  split
  · simp
  split
  · simp
  split
  · simp
  · rename_i h1 h2 h3
    have h4 := val_lt (l.take (lead l + 1))
    have h5 : (l.take (lead l + 1)).length ≤ 9 := by rw [List.length_take]; omega
    have h6 : 128 ^ (l.take (lead l + 1)).length ≤ 128 ^ 9 := Nat.pow_le_pow_right (by omega) h5
    exact Nat.lt_of_lt_of_le h4 h6

theorem Parse_f {k : Nat} (l : List Int) (hlen : l.length ≤ 9223372036854775806) (hb : Bytes l) (hk : 11 ≤ k) : PCodecNumbers.codec_Parse.f k l = some (prs l) := by
  unfold PCodecNumbers.codec_Parse.f
  rw [show (9 : Int) = ((9 : Nat) : Int) from rfl, groups_f l (by omega) hlen hb hk]
  simp only [Option.bind_some, grpW, prs]
  have := grp9_lt l
  rw [show wrap64 ((((grp 9 l).1 % 18446744073709551616 : Nat)) : Int) = ((grp 9 l).1 : Int) by unfold wrap64; omega]

end Go.Proofs.Ytbddllklagiajaa
