/- The reference's One at a signed number. -/
import Derived.Test.YtbddllklagiajaaVi
namespace Go.Proofs.Ytbddllklagiajaa
open PCodecKeeps (info5 info51 S51 k51 z51)
open Go.RowKit Go.Proofs.YtbddllklagiajaaW.PrintWords Go.Proofs.YtbddllklagiajaaW.PrintLast Go.Proofs.YtbddllklagiajaaW.PrintMore
set_option linter.unusedVariables false
set_option linter.unusedSimpArgs false

theorem unsigned_f {u : Nat} (hu : u < 18446744073709551616) : PCodecKeeps.replevinref01_Unsigned.f (u : Int) = some (unzig u) := by
  unfold PCodecKeeps.replevinref01_Unsigned.f unzig
  have h1 : Int.tmod (u : Int) 2 = ((u % 2 : Nat) : Int) := by rw [Int.tmod_eq_emod_of_nonneg (by omega)]; rfl
  have h2 : Int.tdiv (u : Int) 2 = ((u / 2 : Nat) : Int) := by rw [Int.tdiv_eq_ediv_of_nonneg (by omega)]; rfl
  rw [h1, h2, u64_of_nat (show u / 2 < 18446744073709551616 by omega), show wrap64 ((u / 2 : Nat) : Int) = ((u / 2 : Nat) : Int) by unfold wrap64; omega]
  by_cases h : u % 2 = 1
  · rw [if_neg (by omega), if_pos h]
    simp only [Option.some.injEq]
    rw [show wrap64 (-((u / 2 : Nat) : Int)) = -((u / 2 : Nat) : Int) by unfold wrap64; omega]
    unfold wrap64; omega
  · rw [if_pos (by omega), if_neg h]

/-- One at kind 1, three answers. -/
def one1 (l : List Int) : Int × Int × Int := (unzig (grpR 10 l).1, ((grpR 10 l).2.1 : Nat), ((grpR 10 l).2.2 : Nat))

set_option maxHeartbeats 600000 in
set_option maxRecDepth 100000 in
theorem one1_calls (A : Option Addr) (n c : Nat) (l : List Int) (w : World) (hn : l.length = n) (hc : n ≤ c) (hC : KB.C w A n l) (hb : Bytes l) (hl : n ≤ 9223372036854775806) :
    Calls Try.prog 32 #[.slice A n c, .agg #[.int .u8 1, .int .i64 0, .bool false, .string ⟨#[]⟩, .int .i64 0]] w fun e w' =>
      e = .returned (.tuple #[.agg #[.int .u8 1, .int .i64 (one1 l).1, .bool false, .string ⟨#[]⟩, .int .i64 0], .int .i64 (one1 l).2.1, .int .i64 (one1 l).2.2]) ∧ Below w.heap.size w w' := by
  have HC := Aside0.mk hC
  have HBy := Aside0.mk hb
  have hg : PCodecKeeps.replevinref01_groups.f 40 l (10 : Nat) = some (grpZ (grpR 10 l)) := refGroups_f (most := 10) l (by omega) (by omega) hb (by omega)
  have hu : (grpR 10 l).1 < 18446744073709551616 := by
    rcases grpR_cases l hb with h | h | ⟨n, k, h, h1, _⟩ <;> rw [h]
    · decide
    · decide
    · exact h1
  have hf := unsigned_f hu
  unfold one1
  obtain ⟨⟨r1, r2, r3⟩, hr⟩ : ∃ r, grpR 10 l = r := ⟨_, rfl⟩
  rw [hr] at hg hf ⊢
  dsimp only [grpZ] at *
  have HG := Aside0.mk hg
  have HF := Aside0.mk hf
  subst hn
  clear hC hb hg hf hr hu
  go_enter Try.func32, Try.ntmps32
  go_wp2_with fail
  refine (PCodecKeeps.replevinref01_groups.calls 40 A c l 10 _ _ _ _ (Kd.C_below HC.out (by repeat (first | exact Below.refl _ _ | refine below_set ?_ (by simp) | refine below_alloc ?_ _))) hc HG.out).mono ?_
  rintro e w1 ⟨rfl, ⟨m, rfl⟩⟩
  go_wp2_with fail
  refine (PCodecKeeps.replevinref01_Unsigned.calls _ _ _ HF.out).mono ?_
  rintro e w2 ⟨rfl, ⟨m2, rfl⟩⟩
  go_wp2
  refine bodyPost_ret (results_ctt rfl _ _ (w.heap.size + 1) 51 #[.int .u8 1, .int .i64 (unzig r1), .bool false, .string ⟨#[]⟩, .int .i64 0] (0, 0) _ rfl ?_ Try.underlying51 rfl (by kernel_rfl)) rfl ?_
  · have h0 := blk_new (w.alloc (.cells #[.int .u8 1, .int .i64 0, .bool false, .string ⟨#[]⟩, .int .i64 0] 51)) (.cells #[.int .u8 0, .int .i64 0, .bool false, .string ⟨#[]⟩, .int .i64 0] 51)
    rw [World.size_alloc] at h0
    refine blk_put (cs := #[.int .u8 1, .int .i64 (unzig r1), .bool false, .string ⟨#[]⟩, .int .i64 0]) ?_ 4 _ rfl
    refine blk_put (cs := #[.int .u8 1, .int .i64 (unzig r1), .bool false, .string ⟨#[]⟩, .int .i64 0]) ?_ 3 _ rfl
    refine blk_put (cs := #[.int .u8 1, .int .i64 (unzig r1), .bool false, .string ⟨#[]⟩, .int .i64 0]) ?_ 2 _ rfl
    refine blk_put (cs := #[.int .u8 1, .int .i64 0, .bool false, .string ⟨#[]⟩, .int .i64 0]) ?_ 1 _ rfl
    refine blk_put (cs := #[.int .u8 0, .int .i64 0, .bool false, .string ⟨#[]⟩, .int .i64 0]) ?_ 0 _ rfl
    refine blk_far ?_ (Nat.ne_of_lt (Nat.lt_succ_self _)) _
    refine blk_drewN ?_ _
    refine blk_alloc ?_ _
    exact h0
  · refine ⟨rfl, ?_⟩
    have g1 : w.heap.size ≤ w.heap.size + 1 := Nat.le_succ _
    have g2 : w.heap.size ≤ w.heap.size + 1 + 1 := Nat.le_trans g1 (Nat.le_succ _)
    iterate 5 refine below_set ?_ g1
    refine below_set ?_ g2
    refine pw_below_drewN ?_ _
    exact below_alloc (below_alloc (below_alloc (Below.refl _ _) _) _) _
end Go.Proofs.Ytbddllklagiajaa
