/- 'read' of the law's package: the values that a Reader reads like others. -/
import Derived.Test.YtbddllklagiajaaVk
namespace Go.Proofs.Ytbddllklagiajaa
open PCodecKeeps (info5 info51 S51 k51 z51)
open Go.RowKit Go.Proofs.YtbddllklagiajaaW.PrintWords Go.Proofs.YtbddllklagiajaaW.PrintLast Go.Proofs.YtbddllklagiajaaW.PrintMore
set_option linter.unusedVariables false
set_option linter.unusedSimpArgs false

/-- One value read like v at the state s (how far, the error). -/
def readN (b : List Int) (v : S51) (s : Nat × Int) : Int × Nat × Int := if v.f0 % 4 = 0 then rStep 0 (numR v.f4 (b.drop s.1)) s else rStep 0 (sgnR (b.drop s.1)) s
def readStep (b : List Int) (v : S51) (s : Nat × Int) : S51 × Nat × Int :=
  if v.f0 % 4 = 0 then (⟨v.f0, (rStep 0 (numR v.f4 (b.drop s.1)) s).1, false, ⟨#[]⟩, v.f4⟩, (rStep 0 (numR v.f4 (b.drop s.1)) s).2)
  else if v.f0 % 4 = 1 then (⟨v.f0, (rStep 0 (sgnR (b.drop s.1)) s).1, false, ⟨#[]⟩, v.f4⟩, (rStep 0 (sgnR (b.drop s.1)) s).2)
  else if v.f0 % 4 = 2 then (⟨v.f0, 0, (rStep false (flgR (b.drop s.1)) s).1, ⟨#[]⟩, v.f4⟩, (rStep false (flgR (b.drop s.1)) s).2)
  else (⟨v.f0, 0, false, (rStep (⟨#[]⟩ : ByteArray) (txtR v.f4 (b.drop s.1)) s).1, v.f4⟩, (rStep (⟨#[]⟩ : ByteArray) (txtR v.f4 (b.drop s.1)) s).2)
def readV (b : List Int) : List S51 → Nat × Int → List S51 × Nat × Int
  | [], s => ([], s)
  | v :: l, s => ((readStep b v s).1 :: (readV b l (readStep b v s).2).1, (readV b l (readStep b v s).2).2)

theorem readV_snoc (b : List Int) (l : List S51) (v : S51) (s : Nat × Int) : readV b (l ++ [v]) s = ((readV b l s).1 ++ [(readStep b v (readV b l s).2).1], (readStep b v (readV b l s).2).2) := by
  induction l generalizing s with
  | nil => simp [readV]
  | cons u l ih => simp only [List.cons_append, readV, ih]
theorem readV_len (b : List Int) (l : List S51) (s : Nat × Int) : (readV b l s).1.length = l.length := by
  induction l generalizing s with
  | nil => rfl
  | cons u l ih => simp only [readV, List.length_cons, ih]
theorem readV_take (b : List Int) (l : List S51) (s : Nat × Int) (k : Nat) (h : k < l.length) : readV b (l.take (k + 1)) s = ((readV b (l.take k) s).1 ++ [(readStep b (l.getD k z51) (readV b (l.take k) s).2).1], (readStep b (l.getD k z51) (readV b (l.take k) s).2).2) := by
  rw [List.take_succ_eq_append_getElem h, readV_snoc]
  simp [List.getD, h]

/-- A Reader's state, as a pair. -/
abbrev RdS (base : Nat) (w : World) (g : Nat) (P : Nat → Prop) (b : List Int) (s : Nat × Int) : Prop := Rd base w g P b s.1 s.2

set_option maxHeartbeats 2000000 in
set_option maxRecDepth 100000 in
theorem read_law (base g : Nat) (P : Nat → Prop) (b : List Int) (s : Nat × Int) (A : Option Addr) (n c : Nat) (l : List S51) (w : World) (h : RdS base w g P b s) (hP : ∀ k, P k → k < w.heap.size) (hby : Bytes b) (hbl : b.length ≤ 1000000000000)
    (hl : l.length = n) (hC : ∀ W, Kept w W (fun k => k = g) → k51.C W A n l) (hok : ∀ v ∈ l, OkV v) (hn : n ≤ 1000) :
    Calls Try.prog 35 #[.pointer (some ⟨g, 0, none⟩), .slice A n c] w fun e w' => ∃ v, e = .returned v ∧ k51.R 51 w' w.heap.size (fun _ => True) v (readV b l s).1 ∧ RdS base w' g P b (readV b l s).2 ∧ Frm w w' (fun k => k = g) := by
  have HC := Aside0.mk hC
  have HL := Aside0.mk hl
  have HO := Aside0.mk hok
  have HP := Aside0.mk hP
  have HBy := Aside0.mk hby
  have HRd := Aside0.mk h
  have HG := Aside0.mk h.lt
  clear hC hl hok hP h hby
  go_enter Try.func35, Try.ntmps35
  go_wp2
  go_loopw [5, 6] (fun v i wr => ∃ k : Nat, k ≤ n ∧ i = .int .i64 k ∧ k51.R 51 wr w.heap.size (fun _ => True) v (readV b (l.take k) s).1 ∧ RdS base wr g P b (readV b (l.take k) s).2 ∧ Frm w wr (fun b => b = g)) (fun _ i _ => n - (intOf i).toNat)
  case atStart => exact ⟨0, Nat.zero_le _, rfl, Kd.R_nil _ _ _ _ _, HRd.out, Frm.refl _ _⟩
  case round =>
    obtain ⟨k, hk, rfl, hr, hrd, hf⟩ := hrel
    obtain ⟨A2, n2, c2, rfl⟩ := R_form' hr
    by_cases hlt : k < n
    · obtain ⟨ad, e, h0, h1, h2, h3, h4⟩ := at_V (HC.out _ hf.kept) k hlt
      subst e
      have hv : l.getD k z51 ∈ l := by
        have : k < l.length := by rw [HL.out]; exact hlt
        rw [List.getD_eq_getElem?_getD, List.getElem?_eq_getElem this]
        exact List.getElem_mem _
      have hstep := readV_take b l s k (by rw [HL.out]; exact hlt)
      have hlr := (Kd.R_reads' hr).1
      rw [readV_len, List.length_take, HL.out] at hlr
      have hll := readV_len b (l.take k) s
      obtain ⟨x, hx⟩ : ∃ x, l.getD k z51 = x := ⟨_, rfl⟩
      rw [hx] at h0 h1 h2 h3 h4 hv hstep
      obtain ⟨⟨got, s1⟩, hst⟩ : ∃ st', readV b (l.take k) s = st' := ⟨_, rfl⟩
      rw [hst] at hr hrd hstep hll
      dsimp only at *
      have hov := HO.out x hv
      have hf0 := hov.1.1
      have HST := Aside0.mk hstep
      have HRd := Aside0.mk hrd
      have HR := Aside0.mk hr
      have HF := Aside0.mk hf
      have HOV := Aside0.mk hov
      have HLR := Aside0.mk hlr
      have HLL := Aside0.mk hll
      clear hx hr hrd hf hstep hov hv hst hlr hll h1 h2 h3
      have h0a : ∀ o, (wr.alloc o).cell? (ad.add (k * 5)) = some (.int .u8 x.f0) := fun o => ((Frm.refl wr (fun _ => False)).alloc o).cell h0 (fun h => h)
      have h4a : ∀ o, (wr.alloc o).cell? ⟨(ad.add (k * 5)).block, (ad.add (k * 5)).off + 4, none⟩ = some (.int .i64 x.f4) := fun o => ((Frm.refl wr (fun _ => False)).alloc o).cell h4 (fun h => h)
      have h5 : x.f0 % 4 = 0 ∨ x.f0 % 4 = 1 ∨ x.f0 % 4 = 2 ∨ x.f0 % 4 = 3 := by omega
      rcases h5 with h5 | h5 | h5 | h5
      · have hre : readStep b x s1 = (⟨x.f0, (rStep 0 (numR x.f4 (b.drop s1.1)) s1).1, false, ⟨#[]⟩, x.f4⟩, (rStep 0 (numR x.f4 (b.drop s1.1)) s1).2) := by
          unfold readStep
          rw [if_pos h5]
        obtain ⟨⟨r, s2⟩, hrr⟩ : ∃ r, rStep 0 (numR x.f4 (b.drop s1.1)) s1 = r := ⟨_, rfl⟩
        rw [hrr] at hre
        dsimp only at hre
        have HRE := Aside0.mk hre
        have HRR := Aside0.mk hrr
        clear hre hrr
        go_wp2_with fail
        go_region
        go_wp2_with fail
        have hF1 : Frm wr ((wr.alloc (.cells #[.int .u8 x.f0, .int .i64 0, .bool false, .string ⟨#[]⟩, .int .i64 x.f4] 51)).drew) (fun _ => False) := ((Frm.refl wr _).alloc _).drew
        refine (Number_calls base g P b s1 _ (Rd.frm HRd.out hF1 (fun h => h) (fun _ _ h => h)) HBy.out hbl x.f4).mono ?_
        rintro e w3 ⟨rfl, R3, F3⟩
        have hne : wr.heap.size ≠ g := by have := HF.out.size; have := HG.out; omega
        have hb3 := F3.blk (blk_new wr _) hne
        have F13 : Frm wr w3 (fun k => k = g) := (hF1.mono (fun _ h => h.elim)).then_ F3 (fun _ h => .inl h)
        rw [HRR.out] at R3 ⊢
        dsimp only at R3 ⊢
        have hw3 : w.heap.size ≤ wr.heap.size := HF.out.size
        obtain ⟨g7, hg7⟩ : ∃ g7, wr.heap.size = g7 := ⟨_, rfl⟩
        rw [hg7] at hb3 hne hw3 ⊢
        have hc0 : w3.cell? ⟨g7, 0, none⟩ = some (.int .u8 x.f0) := blk_cell hb3 0
        have hc1 : w3.cell? ⟨g7, 1, none⟩ = some (.int .i64 0) := blk_cell hb3 1
        have hc2 : w3.cell? ⟨g7, 2, none⟩ = some (.bool false) := blk_cell hb3 2
        have hc3 : w3.cell? ⟨g7, 3, none⟩ = some (.string ⟨#[]⟩) := blk_cell hb3 3
        have hc4 : w3.cell? ⟨g7, 4, none⟩ = some (.int .i64 x.f4) := blk_cell hb3 4
        have hfr : w3.frozen? ⟨g7, 1, none⟩ = false := blk_frozen hb3 1
        have HW7 := Aside0.mk hw3
        have F14 := F13.setCell (p := ⟨g7, 1, none⟩) (.inr (by rw [← hg7]; exact Nat.le_refl _)) (.int .i64 r)
        have HF4 := Aside0.mk (HF.out.then_ F14 (fun _ h => .inl h))
        have HR4 := Aside0.mk (Kd.R_kept (ok := fun k => w.heap.size ≤ k) (Kd.R_mono (Kd.R_bound HR.out) (fun k hk => hk.2.1)) F14.kept (fun k h1 h2 => by have := HG.out; omega))
        have HRd4 := Aside0.mk (Rd.frm R3 ((Frm.refl w3 (fun k => k = g7)).setCell (p := ⟨g7, 1, none⟩) (.inl rfl) (.int .i64 r)) (fun h => hne h.symm) (fun k hk h => by have := HP.out k hk; omega))
        clear hne hb3 F13 F14 R3 F3 hF1 hg7 hw3 HRd HF HR h0 h4 h0a h4a
        go_wp2_with ((with_reducible refine gate_dst (N := 53) rfl ?_); at_builtin; refine Kd.R_append k51 (w0 := (w3.setCell ⟨g7, 1, none⟩ (.int .i64 r))) w.heap.size rfl (.tmp 50) (.tmp 52) 36 51 (.agg #[(.int .u8 0), (.int .i64 0), (.bool false), (.string ⟨#[]⟩), (.int .i64 0)]) 48 rfl Try.underlying36 info51 rfl (by decide) (by decide) (.slice A2 n2 c2) got ⟨x.f0, r, false, ⟨#[]⟩, x.f4⟩ [.int .u8 x.f0, .int .i64 r, .bool false, .string ⟨#[]⟩, .int .i64 x.f4] (fun k => w.heap.size ≤ k) (fun _ => False) rfl ?aX ?aM (fun _ h => h.elim) ?aK ?aO ?aB ?aS ?aL ?_; (case aX => simp; rfl); (case aM => exact PCodecKeeps.k51_mkM _ _ _ ⟨x.f0, r, false, ⟨#[]⟩, x.f4⟩); (case aO => exact HR4.out); (case aB => exact Below.refl _ _); (case aS => exact HF4.out.size); (case aK => exact fun k hk => Nat.le_trans HF4.out.size hk); (case aL => rw [HLL.out]; simp; omega); intro v5 w5 hr5 hb5 hg5 hat5; obtain ⟨A5, n5, c5, rfl⟩ := R_form' hr5; have HR5 := Aside0.mk hr5; have HG5 := Aside0.mk hg5; clear hr5 hb5 hg5 hat5)
        go_roundw
        case rel =>
          have hown : ∀ k, (Value.slice A2 n2 c2).ownBlock = some k → w.heap.size ≤ k := fun k hk => HR4.out.1 k hk
          refine ⟨k + 1, by omega, by go_num, ?_, ?_, HF4.out.grown HG5.out (fun k hk => .inr (hown k hk))⟩
          · rw [HST.out, HRE.out]
            exact Kd.R_mono HR5.out (fun _ _ => trivial)
          · rw [HST.out, HRE.out]
            exact Rd.frm HRd4.out ((Frm.refl _ (fun k => (Value.slice A2 n2 c2).ownBlock = some k)).grown HG5.out (fun k hk => .inl hk)) (fun h => by have := hown _ h; have := HG.out; omega) (fun k hk h => by have := hown _ h; have := HP.out k hk; omega)
        case measure => simp [intOf]; omega
      · have hre : readStep b x s1 = (⟨x.f0, (rStep 0 (sgnR (b.drop s1.1)) s1).1, false, ⟨#[]⟩, x.f4⟩, (rStep 0 (sgnR (b.drop s1.1)) s1).2) := by
          unfold readStep
          rw [if_neg (by omega), if_pos h5]
        obtain ⟨⟨r, s2⟩, hrr⟩ : ∃ r, rStep 0 (sgnR (b.drop s1.1)) s1 = r := ⟨_, rfl⟩
        rw [hrr] at hre
        dsimp only at hre
        have HRE := Aside0.mk hre
        have HRR := Aside0.mk hrr
        clear hre hrr
        go_wp2_with fail
        go_region
        go_wp2_with fail
        have hF1 : Frm wr ((wr.alloc (.cells #[.int .u8 x.f0, .int .i64 0, .bool false, .string ⟨#[]⟩, .int .i64 x.f4] 51)).drew) (fun _ => False) := ((Frm.refl wr _).alloc _).drew
        refine (Signed_calls base g P b s1 _ (Rd.frm HRd.out hF1 (fun h => h) (fun _ _ h => h)) HBy.out hbl).mono ?_
        rintro e w3 ⟨rfl, R3, F3⟩
        have hne : wr.heap.size ≠ g := by have := HF.out.size; have := HG.out; omega
        have hb3 := F3.blk (blk_new wr _) hne
        have F13 : Frm wr w3 (fun k => k = g) := (hF1.mono (fun _ h => h.elim)).then_ F3 (fun _ h => .inl h)
        rw [HRR.out] at R3 ⊢
        dsimp only at R3 ⊢
        have hw3 : w.heap.size ≤ wr.heap.size := HF.out.size
        obtain ⟨g7, hg7⟩ : ∃ g7, wr.heap.size = g7 := ⟨_, rfl⟩
        rw [hg7] at hb3 hne hw3 ⊢
        have hc0 : w3.cell? ⟨g7, 0, none⟩ = some (.int .u8 x.f0) := blk_cell hb3 0
        have hc1 : w3.cell? ⟨g7, 1, none⟩ = some (.int .i64 0) := blk_cell hb3 1
        have hc2 : w3.cell? ⟨g7, 2, none⟩ = some (.bool false) := blk_cell hb3 2
        have hc3 : w3.cell? ⟨g7, 3, none⟩ = some (.string ⟨#[]⟩) := blk_cell hb3 3
        have hc4 : w3.cell? ⟨g7, 4, none⟩ = some (.int .i64 x.f4) := blk_cell hb3 4
        have hfr : w3.frozen? ⟨g7, 1, none⟩ = false := blk_frozen hb3 1
        have HW7 := Aside0.mk hw3
        have F14 := F13.setCell (p := ⟨g7, 1, none⟩) (.inr (by rw [← hg7]; exact Nat.le_refl _)) (.int .i64 r)
        have HF4 := Aside0.mk (HF.out.then_ F14 (fun _ h => .inl h))
        have HR4 := Aside0.mk (Kd.R_kept (ok := fun k => w.heap.size ≤ k) (Kd.R_mono (Kd.R_bound HR.out) (fun k hk => hk.2.1)) F14.kept (fun k h1 h2 => by have := HG.out; omega))
        have HRd4 := Aside0.mk (Rd.frm R3 ((Frm.refl w3 (fun k => k = g7)).setCell (p := ⟨g7, 1, none⟩) (.inl rfl) (.int .i64 r)) (fun h => hne h.symm) (fun k hk h => by have := HP.out k hk; omega))
        clear hne hb3 F13 F14 R3 F3 hF1 hg7 hw3 HRd HF HR h0 h4 h0a h4a
        go_wp2_with ((with_reducible refine gate_dst (N := 53) rfl ?_); at_builtin; refine Kd.R_append k51 (w0 := (w3.setCell ⟨g7, 1, none⟩ (.int .i64 r))) w.heap.size rfl (.tmp 50) (.tmp 52) 36 51 (.agg #[(.int .u8 0), (.int .i64 0), (.bool false), (.string ⟨#[]⟩), (.int .i64 0)]) 48 rfl Try.underlying36 info51 rfl (by decide) (by decide) (.slice A2 n2 c2) got ⟨x.f0, r, false, ⟨#[]⟩, x.f4⟩ [.int .u8 x.f0, .int .i64 r, .bool false, .string ⟨#[]⟩, .int .i64 x.f4] (fun k => w.heap.size ≤ k) (fun _ => False) rfl ?aX ?aM (fun _ h => h.elim) ?aK ?aO ?aB ?aS ?aL ?_; (case aX => simp; rfl); (case aM => exact PCodecKeeps.k51_mkM _ _ _ ⟨x.f0, r, false, ⟨#[]⟩, x.f4⟩); (case aO => exact HR4.out); (case aB => exact Below.refl _ _); (case aS => exact HF4.out.size); (case aK => exact fun k hk => Nat.le_trans HF4.out.size hk); (case aL => rw [HLL.out]; simp; omega); intro v5 w5 hr5 hb5 hg5 hat5; obtain ⟨A5, n5, c5, rfl⟩ := R_form' hr5; have HR5 := Aside0.mk hr5; have HG5 := Aside0.mk hg5; clear hr5 hb5 hg5 hat5)
        go_roundw
        case rel =>
          have hown : ∀ k, (Value.slice A2 n2 c2).ownBlock = some k → w.heap.size ≤ k := fun k hk => HR4.out.1 k hk
          refine ⟨k + 1, by omega, by go_num, ?_, ?_, HF4.out.grown HG5.out (fun k hk => .inr (hown k hk))⟩
          · rw [HST.out, HRE.out]
            exact Kd.R_mono HR5.out (fun _ _ => trivial)
          · rw [HST.out, HRE.out]
            exact Rd.frm HRd4.out ((Frm.refl _ (fun k => (Value.slice A2 n2 c2).ownBlock = some k)).grown HG5.out (fun k hk => .inl hk)) (fun h => by have := hown _ h; have := HG.out; omega) (fun k hk h => by have := hown _ h; have := HP.out k hk; omega)
        case measure => simp [intOf]; omega
      · have hre : readStep b x s1 = (⟨x.f0, 0, (rStep false (flgR (b.drop s1.1)) s1).1, ⟨#[]⟩, x.f4⟩, (rStep false (flgR (b.drop s1.1)) s1).2) := by
          unfold readStep
          rw [if_neg (by omega), if_neg (by omega), if_pos h5]
        obtain ⟨⟨r, s2⟩, hrr⟩ : ∃ r, rStep false (flgR (b.drop s1.1)) s1 = r := ⟨_, rfl⟩
        rw [hrr] at hre
        dsimp only at hre
        have HRE := Aside0.mk hre
        have HRR := Aside0.mk hrr
        clear hre hrr
        go_wp2_with fail
        go_region
        go_wp2_with fail
        have hF1 : Frm wr ((wr.alloc (.cells #[.int .u8 x.f0, .int .i64 0, .bool false, .string ⟨#[]⟩, .int .i64 x.f4] 51)).drew) (fun _ => False) := ((Frm.refl wr _).alloc _).drew
        refine (Flag_calls base g P b s1 _ (Rd.frm HRd.out hF1 (fun h => h) (fun _ _ h => h)) HBy.out hbl).mono ?_
        rintro e w3 ⟨rfl, R3, F3⟩
        have hne : wr.heap.size ≠ g := by have := HF.out.size; have := HG.out; omega
        have hb3 := F3.blk (blk_new wr _) hne
        have F13 : Frm wr w3 (fun k => k = g) := (hF1.mono (fun _ h => h.elim)).then_ F3 (fun _ h => .inl h)
        rw [HRR.out] at R3 ⊢
        dsimp only at R3 ⊢
        have hw3 : w.heap.size ≤ wr.heap.size := HF.out.size
        obtain ⟨g7, hg7⟩ : ∃ g7, wr.heap.size = g7 := ⟨_, rfl⟩
        rw [hg7] at hb3 hne hw3 ⊢
        have hc0 : w3.cell? ⟨g7, 0, none⟩ = some (.int .u8 x.f0) := blk_cell hb3 0
        have hc1 : w3.cell? ⟨g7, 1, none⟩ = some (.int .i64 0) := blk_cell hb3 1
        have hc2 : w3.cell? ⟨g7, 2, none⟩ = some (.bool false) := blk_cell hb3 2
        have hc3 : w3.cell? ⟨g7, 3, none⟩ = some (.string ⟨#[]⟩) := blk_cell hb3 3
        have hc4 : w3.cell? ⟨g7, 4, none⟩ = some (.int .i64 x.f4) := blk_cell hb3 4
        have hfr : w3.frozen? ⟨g7, 2, none⟩ = false := blk_frozen hb3 2
        have HW7 := Aside0.mk hw3
        have F14 := F13.setCell (p := ⟨g7, 2, none⟩) (.inr (by rw [← hg7]; exact Nat.le_refl _)) (.bool r)
        have HF4 := Aside0.mk (HF.out.then_ F14 (fun _ h => .inl h))
        have HR4 := Aside0.mk (Kd.R_kept (ok := fun k => w.heap.size ≤ k) (Kd.R_mono (Kd.R_bound HR.out) (fun k hk => hk.2.1)) F14.kept (fun k h1 h2 => by have := HG.out; omega))
        have HRd4 := Aside0.mk (Rd.frm R3 ((Frm.refl w3 (fun k => k = g7)).setCell (p := ⟨g7, 2, none⟩) (.inl rfl) (.bool r)) (fun h => hne h.symm) (fun k hk h => by have := HP.out k hk; omega))
        clear hne hb3 F13 F14 R3 F3 hF1 hg7 hw3 HRd HF HR h0 h4 h0a h4a
        go_wp2_with ((with_reducible refine gate_dst (N := 53) rfl ?_); at_builtin; refine Kd.R_append k51 (w0 := (w3.setCell ⟨g7, 2, none⟩ (.bool r))) w.heap.size rfl (.tmp 50) (.tmp 52) 36 51 (.agg #[(.int .u8 0), (.int .i64 0), (.bool false), (.string ⟨#[]⟩), (.int .i64 0)]) 48 rfl Try.underlying36 info51 rfl (by decide) (by decide) (.slice A2 n2 c2) got ⟨x.f0, 0, r, ⟨#[]⟩, x.f4⟩ [.int .u8 x.f0, .int .i64 0, .bool r, .string ⟨#[]⟩, .int .i64 x.f4] (fun k => w.heap.size ≤ k) (fun _ => False) rfl ?aX ?aM (fun _ h => h.elim) ?aK ?aO ?aB ?aS ?aL ?_; (case aX => simp; rfl); (case aM => exact PCodecKeeps.k51_mkM _ _ _ ⟨x.f0, 0, r, ⟨#[]⟩, x.f4⟩); (case aO => exact HR4.out); (case aB => exact Below.refl _ _); (case aS => exact HF4.out.size); (case aK => exact fun k hk => Nat.le_trans HF4.out.size hk); (case aL => rw [HLL.out]; simp; omega); intro v5 w5 hr5 hb5 hg5 hat5; obtain ⟨A5, n5, c5, rfl⟩ := R_form' hr5; have HR5 := Aside0.mk hr5; have HG5 := Aside0.mk hg5; clear hr5 hb5 hg5 hat5)
        go_roundw
        case rel =>
          have hown : ∀ k, (Value.slice A2 n2 c2).ownBlock = some k → w.heap.size ≤ k := fun k hk => HR4.out.1 k hk
          refine ⟨k + 1, by omega, by go_num, ?_, ?_, HF4.out.grown HG5.out (fun k hk => .inr (hown k hk))⟩
          · rw [HST.out, HRE.out]
            exact Kd.R_mono HR5.out (fun _ _ => trivial)
          · rw [HST.out, HRE.out]
            exact Rd.frm HRd4.out ((Frm.refl _ (fun k => (Value.slice A2 n2 c2).ownBlock = some k)).grown HG5.out (fun k hk => .inl hk)) (fun h => by have := hown _ h; have := HG.out; omega) (fun k hk h => by have := hown _ h; have := HP.out k hk; omega)
        case measure => simp [intOf]; omega
      · have hre : readStep b x s1 = (⟨x.f0, 0, false, (rStep (⟨#[]⟩ : ByteArray) (txtR x.f4 (b.drop s1.1)) s1).1, x.f4⟩, (rStep (⟨#[]⟩ : ByteArray) (txtR x.f4 (b.drop s1.1)) s1).2) := by
          unfold readStep
          rw [if_neg (by omega), if_neg (by omega), if_neg (by omega)]
        obtain ⟨⟨r, s2⟩, hrr⟩ : ∃ r, rStep (⟨#[]⟩ : ByteArray) (txtR x.f4 (b.drop s1.1)) s1 = r := ⟨_, rfl⟩
        rw [hrr] at hre
        dsimp only at hre
        have HRE := Aside0.mk hre
        have HRR := Aside0.mk hrr
        clear hre hrr
        go_wp2_with fail
        go_region
        go_wp2_with fail
        have hF1 : Frm wr ((wr.alloc (.cells #[.int .u8 x.f0, .int .i64 0, .bool false, .string ⟨#[]⟩, .int .i64 x.f4] 51)).drew) (fun _ => False) := ((Frm.refl wr _).alloc _).drew
        refine (Text_calls base g P b s1 _ (Rd.frm HRd.out hF1 (fun h => h) (fun _ _ h => h)) HBy.out hbl x.f4).mono ?_
        rintro e w3 ⟨rfl, R3, F3⟩
        have hne : wr.heap.size ≠ g := by have := HF.out.size; have := HG.out; omega
        have hb3 := F3.blk (blk_new wr _) hne
        have F13 : Frm wr w3 (fun k => k = g) := (hF1.mono (fun _ h => h.elim)).then_ F3 (fun _ h => .inl h)
        rw [HRR.out] at R3 ⊢
        dsimp only at R3 ⊢
        have hw3 : w.heap.size ≤ wr.heap.size := HF.out.size
        obtain ⟨g7, hg7⟩ : ∃ g7, wr.heap.size = g7 := ⟨_, rfl⟩
        rw [hg7] at hb3 hne hw3 ⊢
        have hc0 : w3.cell? ⟨g7, 0, none⟩ = some (.int .u8 x.f0) := blk_cell hb3 0
        have hc1 : w3.cell? ⟨g7, 1, none⟩ = some (.int .i64 0) := blk_cell hb3 1
        have hc2 : w3.cell? ⟨g7, 2, none⟩ = some (.bool false) := blk_cell hb3 2
        have hc3 : w3.cell? ⟨g7, 3, none⟩ = some (.string ⟨#[]⟩) := blk_cell hb3 3
        have hc4 : w3.cell? ⟨g7, 4, none⟩ = some (.int .i64 x.f4) := blk_cell hb3 4
        have hfr : w3.frozen? ⟨g7, 3, none⟩ = false := blk_frozen hb3 3
        have HW7 := Aside0.mk hw3
        have F14 := F13.setCell (p := ⟨g7, 3, none⟩) (.inr (by rw [← hg7]; exact Nat.le_refl _)) (.string r)
        have HF4 := Aside0.mk (HF.out.then_ F14 (fun _ h => .inl h))
        have HR4 := Aside0.mk (Kd.R_kept (ok := fun k => w.heap.size ≤ k) (Kd.R_mono (Kd.R_bound HR.out) (fun k hk => hk.2.1)) F14.kept (fun k h1 h2 => by have := HG.out; omega))
        have HRd4 := Aside0.mk (Rd.frm R3 ((Frm.refl w3 (fun k => k = g7)).setCell (p := ⟨g7, 3, none⟩) (.inl rfl) (.string r)) (fun h => hne h.symm) (fun k hk h => by have := HP.out k hk; omega))
        clear hne hb3 F13 F14 R3 F3 hF1 hg7 hw3 HRd HF HR h0 h4 h0a h4a
        go_wp2_with ((with_reducible refine gate_dst (N := 53) rfl ?_); at_builtin; refine Kd.R_append k51 (w0 := (w3.setCell ⟨g7, 3, none⟩ (.string r))) w.heap.size rfl (.tmp 50) (.tmp 52) 36 51 (.agg #[(.int .u8 0), (.int .i64 0), (.bool false), (.string ⟨#[]⟩), (.int .i64 0)]) 48 rfl Try.underlying36 info51 rfl (by decide) (by decide) (.slice A2 n2 c2) got ⟨x.f0, 0, false, r, x.f4⟩ [.int .u8 x.f0, .int .i64 0, .bool false, .string r, .int .i64 x.f4] (fun k => w.heap.size ≤ k) (fun _ => False) rfl ?aX ?aM (fun _ h => h.elim) ?aK ?aO ?aB ?aS ?aL ?_; (case aX => simp; rfl); (case aM => exact PCodecKeeps.k51_mkM _ _ _ ⟨x.f0, 0, false, r, x.f4⟩); (case aO => exact HR4.out); (case aB => exact Below.refl _ _); (case aS => exact HF4.out.size); (case aK => exact fun k hk => Nat.le_trans HF4.out.size hk); (case aL => rw [HLL.out]; simp; omega); intro v5 w5 hr5 hb5 hg5 hat5; obtain ⟨A5, n5, c5, rfl⟩ := R_form' hr5; have HR5 := Aside0.mk hr5; have HG5 := Aside0.mk hg5; clear hr5 hb5 hg5 hat5)
        go_roundw
        case rel =>
          have hown : ∀ k, (Value.slice A2 n2 c2).ownBlock = some k → w.heap.size ≤ k := fun k hk => HR4.out.1 k hk
          refine ⟨k + 1, by omega, by go_num, ?_, ?_, HF4.out.grown HG5.out (fun k hk => .inr (hown k hk))⟩
          · rw [HST.out, HRE.out]
            exact Kd.R_mono HR5.out (fun _ _ => trivial)
          · rw [HST.out, HRE.out]
            exact Rd.frm HRd4.out ((Frm.refl _ (fun k => (Value.slice A2 n2 c2).ownBlock = some k)).grown HG5.out (fun k hk => .inl hk)) (fun h => by have := hown _ h; have := HG.out; omega) (fun k hk h => by have := hown _ h; have := HP.out k hk; omega)
        case measure => simp [intOf]; omega
    · have hkl : k = n := by omega
      have HR := Aside0.mk hr
      have HRd := Aside0.mk hrd
      have HF := Aside0.mk hf
      subst hkl
      have HTK := Aside0.mk (show l.take k = l from List.take_of_length_le (by rw [HL.out]; exact Nat.le_refl _))
      clear hr hrd hf hlt hk
      go_wp2
      go_ret
      refine ⟨_, rfl, ?_, ?_, HF.out⟩
      · have := HR.out
        rw [HTK.out] at this
        exact this
      · have := HRd.out
        rw [HTK.out] at this
        exact this
end Go.Proofs.Ytbddllklagiajaa
