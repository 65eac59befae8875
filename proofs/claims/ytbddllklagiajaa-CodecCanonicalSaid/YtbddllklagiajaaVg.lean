/- The functions that a Reader hands to 'read'. -/
import Derived.Test.YtbddllklagiajaaLa
import Derived.Test.YtbddllklagiajaaMe
namespace Go.Proofs.Ytbddllklagiajaa
open PCodecKeeps (info5)
open Go.RowKit Go.Proofs.YtbddllklagiajaaW.PrintWords Go.Proofs.YtbddllklagiajaaW.PrintLast Go.Proofs.YtbddllklagiajaaW.PrintMore
set_option linter.unusedVariables false
set_option linter.unusedSimpArgs false

theorem unzig_odd {u : Nat} (h : u % 2 = 1) : -1 - ((u / 2 : Nat) : Int) = unzig u := by unfold unzig; rw [if_pos h]
theorem unzig_even {u : Nat} (h : ¬ u % 2 = 1) : ((u / 2 : Nat) : Int) = unzig u := by unfold unzig; rw [if_neg h]

set_option maxHeartbeats 1000000 in
set_option maxRecDepth 100000 in
theorem signedR_calls (A : Option Addr) (n c : Nat) (l : List Int) (w : World) (hn : l.length = n) (hc : n ≤ c) (hC : KB.C w A n l) (hb : Bytes l) (hl : n ≤ 9223372036854775806) :
    Calls Try.prog 77 #[.slice A n c] w fun e w' => e = .returned (.tuple #[.int .i64 (sgnR l).1, .int .i64 (sgnR l).2.1, .int .i64 (sgnR l).2.2]) ∧ Drawn0 w w' := by
  subst hn
  have HC := Aside0.mk hC
  have hg : PCodecNumbers.codec_groups.f 40 l 10 = some (grpW 10 l) := groups_f (most := 10) l (by omega) hl hb (by omega)
  have HG := Aside0.mk hg
  rcases grpW_cases l hb with ⟨he, hs⟩ | ⟨u, k, hw, hu, hk, hk9, hways⟩
  · obtain ⟨⟨r1, r2, r3⟩, hr⟩ : ∃ r, grpW 10 l = r := ⟨_, rfl⟩
    rw [hs, hr]
    rw [hr] at HG he
    dsimp only at *
    have he1 : (r3 != 0) = true := bne_iff_ne.mpr he
    clear hC hg hr hs he
    go_enter Try.func77, Try.ntmps77
    go_wp2_with fail
    refine (PCodecNumbers.codec_groups.calls 40 A c l 10 r1 r2 r3 w HC.out hc HG.out).mono ?_
    rintro e w1 ⟨rfl, ⟨m, rfl⟩⟩
    go_wp2
    go_ret3
    exact ⟨rfl, ⟨⟨m, rfl⟩⟩⟩
  · rw [hw] at HG
    rcases hways with ⟨h10, h9, hs⟩ | ⟨hno, hs⟩
    · rw [hs]
      subst h10
      have h9l := hk9 rfl
      obtain ⟨ad, e, hx⟩ := Kd.at_int HC.out 9 (by omega) (by omega)
      subst e
      have hx' : w.cell? ⟨ad.block, ad.off + 9, none⟩ = some (.int .u8 (l.getD 9 0)) := by simpa [rd, Addr.add] using hx
      obtain ⟨x, hxe⟩ : ∃ x, l.getD 9 0 = x := ⟨_, rfl⟩
      rw [hxe] at hx' h9
      have hgt : decide (1 < x) = true := decide_eq_true h9
      have h9i : (9 : Int) < (l.length : Int) := by omega
      clear hC hg hw hs hk9 hxe hx h9
      go_enter Try.func77, Try.ntmps77
      go_wp2_with fail
      refine (PCodecNumbers.codec_groups.calls 40 _ c l 10 _ _ _ w HC.out hc HG.out).mono ?_
      rintro e w1 ⟨rfl, ⟨m, rfl⟩⟩
      go_wp2
      go_ret3
      exact ⟨rfl, ⟨⟨m, rfl⟩⟩⟩
    · rw [hs]
      have hun : (u % 2 = 1 ∧ unzig u = -1 - ((u / 2 : Nat) : Int)) ∨ (u % 2 = 0 ∧ unzig u = ((u / 2 : Nat) : Int)) := by
        unfold unzig; split <;> omega
      obtain ⟨z, hz⟩ : ∃ z, unzig u = z := ⟨_, rfl⟩
      rw [hz] at hun ⊢
      have HU := Aside0.mk hun
      by_cases h10 : k = 10
      · subst h10
        have h9l := hk9 rfl
        obtain ⟨ad, e, hx⟩ := Kd.at_int HC.out 9 (by omega) (by omega)
        subst e
        have hx' : w.cell? ⟨ad.block, ad.off + 9, none⟩ = some (.int .u8 (l.getD 9 0)) := by simpa [rd, Addr.add] using hx
        obtain ⟨x, hxe⟩ : ∃ x, l.getD 9 0 = x := ⟨_, rfl⟩
        have hle : ¬ 1 < x := fun h => hno ⟨rfl, by rw [hxe]; exact h⟩
        rw [hxe] at hx'
        have hgt : decide (1 < x) = false := decide_eq_false hle
        have h9i : (9 : Int) < (l.length : Int) := by omega
        clear hC hg hw hs hk9 hxe hx hno hle hz hun
        go_enter Try.func77, Try.ntmps77
        go_wp2_with fail
        refine (PCodecNumbers.codec_groups.calls 40 _ c l 10 _ _ _ w HC.out hc HG.out).mono ?_
        rintro e w1 ⟨rfl, ⟨m, rfl⟩⟩
        go_wp2
        all_goals
        go_ret3
        refine ⟨?_, ⟨⟨m, rfl⟩⟩⟩
        first
        | (have hp : ((u : Int) % 2 == 1) = true := by assumption
           have hz2 : z = -1 - (u : Int) / 2 := by simp at hp; rcases HU.out with h | h <;> omega
           rw [hz2]; rfl)
        | (have hp : ((u : Int) % 2 == 1) = false := by assumption
           have hz2 : z = (u : Int) / 2 := by simp at hp; rcases HU.out with h | h <;> omega
           rw [hz2]; rfl)
      · have hk1 : ((k : Int) == 10) = false := beq_eq_false_iff_ne.mpr (by omega)
        clear hC hg hw hs hk9 hno hz hun h10
        go_enter Try.func77, Try.ntmps77
        go_wp2_with fail
        refine (PCodecNumbers.codec_groups.calls 40 _ c l 10 _ _ _ w HC.out hc HG.out).mono ?_
        rintro e w1 ⟨rfl, ⟨m, rfl⟩⟩
        go_wp2
        all_goals
        go_ret3
        refine ⟨?_, ⟨⟨m, rfl⟩⟩⟩
        first
        | (have hp : ((u : Int) % 2 == 1) = true := by assumption
           have hz2 : z = -1 - (u : Int) / 2 := by simp at hp; rcases HU.out with h | h <;> omega
           rw [hz2]; rfl)
        | (have hp : ((u : Int) % 2 == 1) = false := by assumption
           have hz2 : z = (u : Int) / 2 := by simp at hp; rcases HU.out with h | h <;> omega
           rw [hz2]; rfl)

set_option maxHeartbeats 1000000 in
set_option maxRecDepth 100000 in
theorem numFn_calls (A : Option Addr) (n c bx : Nat) (most : Int) (l : List Int) (w : World) (hn : l.length = n) (hc : n ≤ c) (hC : KB.C w A n l) (hb : Bytes l) (hl : n ≤ 9223372036854775806) (hcell : w.cell? ⟨bx, 0, none⟩ = some (.int .i64 most)) :
    Calls Try.prog 96 #[.slice A n c, .pointer (some ⟨bx, 0, none⟩)] w fun e w' => e = .returned (.tuple #[.int .i64 (numR most l).1, .int .i64 (numR most l).2.1, .int .i64 (numR most l).2.2]) ∧ Drawn0 w w' := by
  have HC := Aside0.mk hC
  have HBy := Aside0.mk hb
  obtain ⟨⟨r1, r2, r3⟩, hr⟩ : ∃ r, prs l = r := ⟨_, rfl⟩
  have HR := Aside0.mk hr
  by_cases he : r3 = 0
  · by_cases hm : most < r1
    · have hs : numR most l = (0, 0, 2) := by unfold numR; rw [hr, if_pos ⟨he, hm⟩]
      rw [hs]
      subst he
      have hm1 : decide (most < r1) = true := decide_eq_true hm
      clear hC hb hr hs
      go_enter Try.func96, Try.ntmps96
      go_wp2_with fail
      refine (parse_calls A n c l w hn hc HC.out HBy.out hl).mono ?_
      rw [HR.out]
      rintro e w1 ⟨rfl, ⟨m, rfl⟩⟩
      go_wp2
      go_ret3
      exact ⟨rfl, ⟨⟨m, rfl⟩⟩⟩
    · have hs : numR most l = (r1, r2, r3) := by unfold numR; rw [hr, if_neg (fun h => hm h.2)]
      rw [hs]
      subst he
      have hm1 : decide (most < r1) = false := decide_eq_false hm
      clear hC hb hr hs
      go_enter Try.func96, Try.ntmps96
      go_wp2_with fail
      refine (parse_calls A n c l w hn hc HC.out HBy.out hl).mono ?_
      rw [HR.out]
      rintro e w1 ⟨rfl, ⟨m, rfl⟩⟩
      go_wp2
      go_ret3
      exact ⟨rfl, ⟨⟨m, rfl⟩⟩⟩
  · have hs : numR most l = (r1, r2, r3) := by unfold numR; rw [hr, if_neg (fun h => he h.1)]
    rw [hs]
    have he1 : (r3 == 0) = false := beq_eq_false_iff_ne.mpr he
    clear hC hb hr hs
    go_enter Try.func96, Try.ntmps96
    go_wp2_with fail
    refine (parse_calls A n c l w hn hc HC.out HBy.out hl).mono ?_
    rw [HR.out]
    rintro e w1 ⟨rfl, ⟨m, rfl⟩⟩
    go_wp2
    go_ret3
    exact ⟨rfl, ⟨⟨m, rfl⟩⟩⟩

set_option maxHeartbeats 1000000 in
set_option maxRecDepth 100000 in
theorem flgFn_calls (A : Option Addr) (n c : Nat) (l : List Int) (w : World) (hn : l.length = n) (hc : n ≤ c) (hC : KB.C w A n l) :
    Calls Try.prog 98 #[.slice A n c] w fun e w' => e = .returned (.tuple #[.bool (flgR l).1, .int .i64 (flgR l).2.1, .int .i64 (flgR l).2.2]) ∧ Drawn0 w w' := by
  have HC := Aside0.mk hC
  by_cases h0 : n = 0
  · have hs : flgR l = (false, 0, 28) := by unfold flgR; rw [if_pos (by omega)]
    rw [hs]
    subst h0
    clear hC hs
    go_enter Try.func98, Try.ntmps98
    go_wp2
    go_ret3
    exact ⟨rfl, Drawn0.refl _⟩
  · obtain ⟨ad, e, hx⟩ := Kd.at_int HC.out 0 (by omega) (by omega)
    subst e
    have hx' : w.cell? ad = some (.int .u8 (l.getD 0 0)) := by simpa [rd, Addr.add] using hx
    obtain ⟨x, hxe⟩ : ∃ x, l.getD 0 0 = x := ⟨_, rfl⟩
    have hs : flgR l = if 1 < x then (false, 0, 3) else (x == 1, 1, 0) := by unfold flgR; rw [if_neg (by omega), hxe]
    rw [hs]
    rw [hxe] at hx'
    have hn0 : ((n : Int) == 0) = false := beq_eq_false_iff_ne.mpr (by omega)
    have hpos : 0 < n := by omega
    by_cases h1 : 1 < x
    · rw [if_pos h1]
      have hd : decide (1 < x) = true := decide_eq_true h1
      clear hC hs hxe hx h0
      go_enter Try.func98, Try.ntmps98
      go_wp2
      go_ret3
      exact ⟨rfl, Drawn0.refl _⟩
    · rw [if_neg h1]
      have hd : decide (1 < x) = false := decide_eq_false h1
      clear hC hs hxe hx h0
      go_enter Try.func98, Try.ntmps98
      go_wp2
      go_ret3
      exact ⟨rfl, Drawn0.refl _⟩

attribute [local go_sem] min2_int
set_option maxHeartbeats 2000000 in
set_option maxRecDepth 100000 in
theorem txtFn_calls (A : Option Addr) (n c bx : Nat) (most : Int) (l : List Int) (w : World) (hn : l.length = n) (hc : n ≤ c) (hC : KB.C w A n l) (hb : Bytes l) (hl : n ≤ 4611686018427387904) (hcell : w.cell? ⟨bx, 0, none⟩ = some (.int .i64 most)) :
    Calls Try.prog 100 #[.slice A n c, .pointer (some ⟨bx, 0, none⟩)] w fun e w' => e = .returned (.tuple #[.string (txtR most l).1, .int .i64 (txtR most l).2.1, .int .i64 (txtR most l).2.2]) ∧ Drawn0 w w' := by
  have HC := Aside0.mk hC
  have HBy := Aside0.mk hb
  have hways : (∃ f : Int, prs l = (0, 0, f) ∧ f ≠ 0) ∨ (∃ n k : Nat, prs l = ((n : Int), (k : Int), 0) ∧ n < 9223372036854775808 ∧ 0 < k ∧ k ≤ 9 ∧ k ≤ l.length) := by
    rcases prs_cases l hb with h | h | ⟨n, k, h1, h2, h3, h4, h5, _⟩
    · exact .inl ⟨3, h, by decide⟩
    · exact .inl ⟨28, h, by decide⟩
    · exact .inr ⟨n, k, h1, h2, h3, h4, h5⟩
  obtain ⟨mm, hmm⟩ : ∃ mm, min most 16777216 = mm := ⟨_, rfl⟩
  have hif : (if (16777216 : Int) < most then (16777216 : Int) else most) = mm := by rw [← hmm]; omega
  have hmm2 : mm ≤ 16777216 := by omega
  rcases hways with ⟨f, hr, hf⟩ | ⟨r, k, hr, hr1, hk0, hk9, hkl⟩
  · have HR := Aside0.mk hr
    have hs : txtR most l = (⟨#[]⟩, 0, f) := by unfold txtR; rw [hr, if_pos hf]
    rw [hs]
    have hf1 : (f != 0) = true := bne_iff_ne.mpr hf
    clear hC hb hr hs hmm hif
    go_enter Try.func100, Try.ntmps100
    go_wp2_with fail
    refine (parse_calls A n c l w hn hc HC.out HBy.out (by omega)).mono ?_
    rw [HR.out]
    rintro e w1 ⟨rfl, ⟨m, rfl⟩⟩
    go_wp2
    go_ret3
    exact ⟨rfl, ⟨⟨m, rfl⟩⟩⟩
  · have HR := Aside0.mk hr
    by_cases h1 : mm < (r : Int)
    · have hs : txtR most l = (⟨#[]⟩, 0, 5) := by unfold txtR; rw [hr, if_neg (by simp), hmm, if_pos h1]
      rw [hs]
      have hd : decide (mm < (r : Int)) = true := decide_eq_true h1
      clear hC hb hr hs hmm
      go_enter Try.func100, Try.ntmps100
      go_wp2_with fail
      refine (parse_calls A n c l w hn hc HC.out HBy.out (by omega)).mono ?_
      rw [HR.out]
      rintro e w1 ⟨rfl, ⟨m, rfl⟩⟩
      go_wp2
      go_ret3
      exact ⟨rfl, ⟨⟨m, rfl⟩⟩⟩
    · have hd : decide (mm < (r : Int)) = false := decide_eq_false h1
      by_cases h2 : (n : Int) - (k : Int) < (r : Int)
      · have hs : txtR most l = (⟨#[]⟩, 0, 28) := by unfold txtR; rw [hr, if_neg (by simp), hmm, if_neg h1, hn, if_pos h2]
        rw [hs]
        have hd2 : decide ((n : Int) - (k : Int) < (r : Int)) = true := decide_eq_true h2
        have hkn : k ≤ n := by omega
        clear hC hb hr hs hmm
        go_enter Try.func100, Try.ntmps100
        go_wp2_with fail
        refine (parse_calls A n c l w hn hc HC.out HBy.out (by omega)).mono ?_
        rw [HR.out]
        rintro e w1 ⟨rfl, ⟨m, rfl⟩⟩
        go_wp2
        go_ret3
        exact ⟨rfl, ⟨⟨m, rfl⟩⟩⟩
      · have hs : txtR most l = (strOfNums ((l.drop k).take r), (k : Int) + r, 0) := by unfold txtR; rw [hr, if_neg (by simp), hmm, if_neg h1, hn, if_neg h2]; rfl
        rw [hs]
        have hd2 : decide ((n : Int) - (k : Int) < (r : Int)) = false := decide_eq_false h2
        have hkn : k + r ≤ n := by omega
        obtain ⟨sx, hsx⟩ : ∃ sx, strOfNums ((l.drop k).take r) = sx := ⟨_, rfl⟩
        by_cases hck : c = k
        · have hr0 : r = 0 := by omega
          subst hr0
          subst hck
          have hcv : ∀ m, (convert 22 9 (.slice A 0 0)).run Try.prog (w.drewN m) = .ok (.string sx) (w.drewN m) := by
            intro m
            rw [← hsx]
            exact Kd.C_string (P := Try.prog) (c := 0) Try.underlying22 Try.underlying5 Try.underlying9 (show KB.C (w.drewN m) A 0 [] from ⟨rfl, by omega, fun h => absurd h (by omega)⟩)
          rw [hsx]
          have hc0 : decide (mm < ((0 : Nat) : Int)) = false := hd
          clear hC hb hr hs hmm hsx hd
          go_enter Try.func100, Try.ntmps100
          go_wp2_with fail
          refine (parse_calls A n c l w hn hc HC.out HBy.out (by omega)).mono ?_
          rw [HR.out]
          rintro e w1 ⟨rfl, ⟨m, rfl⟩⟩
          have hcm := hcv m
          clear hcv
          go_wp2
          go_ret3
          exact ⟨rfl, ⟨⟨m, rfl⟩⟩⟩
        · have hmid := Kd.C_mid (xs := l) (c := c) (lo := k) (hi := k + r) (by rw [hn]; exact HC.out) (by omega) (by omega) (by omega)
          rw [if_neg hck, show ((l.take (k + r)).drop k) = (l.drop k).take r by rw [List.drop_take]; congr 1; omega] at hmid
          have hln : ((l.drop k).take r).length = r := by rw [List.length_take, List.length_drop]; omega
          rw [hln] at hmid
          have hcv : ∀ m, (convert 22 9 (.slice (A.map (·.add k)) r (c - k))).run Try.prog (w.drewN m) = .ok (.string sx) (w.drewN m) := by
            intro m
            rw [← hsx]
            refine Kd.C_string (P := Try.prog) (c := c - k) Try.underlying22 Try.underlying5 Try.underlying9 (Kd.C_drewN ?_ m)
            simpa [Kd.int, Kd.scalar] using hmid
          rw [hsx]
          have hckb : ¬ c = k := hck
          clear hC hb hr hs hmm hsx hmid hln
          go_enter Try.func100, Try.ntmps100
          go_wp2_with fail
          refine (parse_calls A n c l w hn hc HC.out HBy.out (by omega)).mono ?_
          rw [HR.out]
          rintro e w1 ⟨rfl, ⟨m, rfl⟩⟩
          have hcm := hcv m
          clear hcv
          go_wp2
          go_ret3
          exact ⟨rfl, ⟨⟨m, rfl⟩⟩⟩

end Go.Proofs.Ytbddllklagiajaa
