/- Pure laws: what Decode reads. blocks.Decode. Pure laws: the reference's encoding. Pure laws: an encoding is read again; what Decode accepts is an encoding. -/
import Derived.Test.YtbddllklagiajaaX14
import Derived.Test.YtbddllklagiajaaX20
import Derived.Test.YtbddllklagiajaaPBlocksEncodesx4
namespace Go.Proofs.Ytbddllklagiajaa
open Go.RowKit Go.Proofs.YtbddllklagiajaaW.PrintWords Go.Proofs.YtbddllklagiajaaW.PrintLast Go.Proofs.YtbddllklagiajaaW.PrintMore
set_option linter.unusedVariables false
set_option linter.unusedSimpArgs false

/-- The bit of a block. -/
def bitB (l : List Int) (i : Nat) : Bool := decide ((l.getD (i / 8) 0).toNat / 2 ^ (i % 8) % 2 = 1)
/-- The blocks whose bits are set, among the first n. -/
def usedB (first : Int) (l : List Int) (n : Nat) : List Int := ((List.range n).filter (bitB l)).map (fun (i : Nat) => first + (i : Int))

theorem usedB_succ (first : Int) (l : List Int) (n : Nat) : usedB first l (n + 1) = usedB first l n ++ (if bitB l n then [first + (n : Int)] else []) := by
  unfold usedB
  rw [List.range_succ, List.filter_append, List.map_append]
  congr 1
  by_cases h : bitB l n
  · rw [if_pos h, List.filter_cons_of_pos h]; rfl
  · rw [if_neg h, List.filter_cons_of_neg h]; rfl
theorem usedB_len (first : Int) (l : List Int) (n : Nat) : (usedB first l n).length ≤ n := by
  unfold usedB
  rw [List.length_map]
  exact Nat.le_trans (List.length_filter_le _ _) (by simp)
theorem usedB_mem {first : Int} {l : List Int} {n : Nat} {x : Int} (h : x ∈ usedB first l n) : ∃ i : Nat, i < n ∧ x = first + (i : Int) ∧ bitB l i = true := by
  unfold usedB at h
  obtain ⟨i, hi, rfl⟩ := List.mem_map.1 h
  rw [List.mem_filter, List.mem_range] at hi
  exact ⟨i, hi.1, rfl, hi.2⟩

/-- A number that was read is in its range. -/
theorem numS_range (most : Int) (l : List Int) (hb : Bytes l) (s : Nat × Int) (hm : 0 ≤ most) : 0 ≤ (rStep (0 : Int) (numR most l) s).1 ∧ (rStep (0 : Int) (numR most l) s).1 ≤ most := by
  unfold rStep
  split
  · split
    · rename_i h
      unfold numR at h ⊢
      by_cases h1 : (prs l).2.2 = 0 ∧ most < (prs l).1
      · rw [if_pos h1] at h; simp at h
      rw [if_neg h1] at h ⊢
      rcases prs_cases l hb with hr | hr | ⟨n, k, hr, _⟩
      · rw [hr] at h; simp at h
      · rw [hr] at h; simp at h
      · rw [hr] at h1 ⊢; simp at h1 ⊢; omega
    · exact ⟨Int.le_refl _, hm⟩
  · exact ⟨Int.le_refl _, hm⟩
theorem txtS_size (most : Int) (l : List Int) (hb : Bytes l) (s : Nat × Int) (hm : 0 ≤ most) : ((rStep (⟨#[]⟩ : ByteArray) (txtR most l) s).1.size : Int) ≤ most := by
  unfold rStep
  split
  · split
    · rename_i h
      unfold txtR at h ⊢
      rcases prs_cases l hb with hr | hr | ⟨n, k, hr, _, h3, h4, h5, _⟩
      · rw [hr, if_pos (by simp)] at h; simp at h
      · rw [hr, if_pos (by simp)] at h; simp at h
      · rw [hr, if_neg (by simp)] at h ⊢
        by_cases h6 : min most 16777216 < (n : Int)
        · rw [if_pos h6] at h; simp at h
        rw [if_neg h6] at h ⊢
        by_cases h7 : (l.length : Int) - (k : Int) < (n : Int)
        · rw [if_pos h7] at h; simp at h
        rw [if_neg h7]
        dsimp only
        have e : (strOfNums (List.take n (List.drop k l))).size = (List.take n (List.drop k l)).length := by
          rw [← bytesOf_length]
          unfold bytesOf
          rw [strOfNums_data]
          simp
        simp only [Int.toNat_natCast]
        rw [e, List.length_take]
        omega
    · exact hm
  · exact hm

/-- The three values at the beginning of an encoding, and the Reader's state. -/
def rd1 (b : List Int) : Int × Nat × Int := rStep 0 (numR 1073741824 (b.drop 0)) (0, 0)
def rd2 (b : List Int) : Int × Nat × Int := rStep 0 (numR 65536 (b.drop (rd1 b).2.1)) (rd1 b).2
def rd3 (b : List Int) : ByteArray × Nat × Int := rStep (⟨#[]⟩ : ByteArray) (txtR ((((rd2 b).1.toNat + 7) / 8 : Nat) : Int) (b.drop (rd2 b).2.1)) (rd2 b).2
def shutB (b : List Int) : Prop := closeR b (rd3 b).2 = 0 ∧ (rd3 b).1.size = ((rd2 b).1.toNat + 7) / 8
/-- The used blocks that an encoding names. -/
def blksB (b : List Int) : List Int := usedB (rd1 b).1 (bytesOf (rd3 b).1) (8 * (rd3 b).1.size)
/-- What Decode answers. -/
def decB (b : List Int) : Prop := shutB b ∧ okRange (rd1 b).1 (rd2 b).1 ∧ (loadS (rd1 b).1 (List.replicate (rd2 b).1.toNat 0) (blksB b)).2 = 0
def decS (b : List Int) : List Int := (loadS (rd1 b).1 (List.replicate (rd2 b).1.toNat 0) (blksB b)).1

theorem rd1_range (b : List Int) (hb : Bytes b) : 0 ≤ (rd1 b).1 ∧ (rd1 b).1 ≤ 1073741824 := numS_range _ _ (fun x hx => hb x (List.mem_of_mem_drop hx)) _ (by decide)
theorem rd2_range (b : List Int) (hb : Bytes b) : 0 ≤ (rd2 b).1 ∧ (rd2 b).1 ≤ 65536 := numS_range _ _ (fun x hx => hb x (List.mem_of_mem_drop hx)) _ (by decide)
theorem rd3_size (b : List Int) (hb : Bytes b) : (rd3 b).1.size ≤ ((rd2 b).1.toNat + 7) / 8 := by
  have := txtS_size ((((rd2 b).1.toNat + 7) / 8 : Nat) : Int) (b.drop (rd2 b).2.1) (fun x hx => hb x (List.mem_of_mem_drop hx)) (rd2 b).2 (by omega)
  unfold rd3
  omega
end Go.Proofs.Ytbddllklagiajaa

namespace Go.Proofs.Ytbddllklagiajaa
open Go.RowKit Go.Proofs.YtbddllklagiajaaW.PrintWords Go.Proofs.YtbddllklagiajaaW.PrintLast Go.Proofs.YtbddllklagiajaaW.PrintMore
set_option linter.unusedVariables false
set_option linter.unusedSimpArgs false

theorem bit_test (tx : ByteArray) (k : Nat) (h : k / 8 < tx.size) : (Go.bits .and .u8 (((tx[k / 8]'h).toNat : Int) / 2 ^ (k % 8)) 1 == 1) = bitB (bytesOf tx) k := by
  have key : ∀ v : Fin 256, ∀ j : Fin 8, (Go.bits .and .u8 ((v.1 : Int) / 2 ^ j.1) 1 == 1) = decide (v.1 / 2 ^ j.1 % 2 = 1) := by decide +kernel
  have e : ((bytesOf tx).getD (k / 8) 0).toNat = (tx[k / 8]'h).toNat := by
    have h2 : k / 8 < (bytesOf tx).length := by rw [bytesOf_length]; exact h
    rw [List.getD_eq_getElem?_getD, List.getElem?_eq_getElem h2]
    simp only [bytesOf, List.getElem_map, Option.getD_some, Int.toNat_natCast]
    rfl
  unfold bitB
  rw [e]
  exact key ⟨(tx[k / 8]'h).toNat, (tx[k / 8]'h).toNat_lt⟩ ⟨k % 8, Nat.mod_lt _ (by omega)⟩

set_option maxRecDepth 100000 in
set_option maxHeartbeats 8000000 in
theorem decode_calls (s : ByteArray) (w : World) (hs : s.size ≤ 1000000) :
    Calls Try.prog 62 #[.string s] w fun e w' => ((decB (bytesOf s) ∧ (∃ g B, e = .returned (.tuple #[.pointer (some ⟨g, 0, none⟩), .int .i64 0]) ∧ w.heap.size ≤ B ∧ Mp B w' g (fun k => B ≤ k) (rd1 (bytesOf s)).1 (decS (bytesOf s)))) ∨
      (¬ decB (bytesOf s) ∧ e = .returned (.tuple #[.pointer none, .int .i64 3]))) ∧ Below w.heap.size w w' := by
  obtain ⟨b, hbb⟩ : ∃ b, bytesOf s = b := ⟨_, rfl⟩
  have hby : Bytes b := by rw [← hbb]; intro x hx; unfold bytesOf at hx; obtain ⟨u, _, rfl⟩ := List.mem_map.1 hx; have := u.toNat_lt; omega
  have hlen : b.length = s.size := by rw [← hbb]; exact bytesOf_length s
  have h1 := rd1_range b hby
  have h2 := rd2_range b hby
  have h3 := rd3_size b hby
  have kb := fun W => print_bytes (P := Try.prog) 9 22 5 Try.underlying9 Try.underlying22 Try.underlying5 s W
  have HBB := Aside0.mk hbb
  have HBY := Aside0.mk hby
  have HLEN := Aside0.mk hlen
  rw [hbb]
  clear hbb hby hlen
  go_enter Try.func62, Try.ntmps62
  go_wp2_with fail
  have hbw := bytes_below (Below.refl w.heap.size w) (Nat.le_refl _) 5 s
  have hst := (Stab.bytes (S := fun _ => False) w s (by omega) (fun h => h) _ (grownCap_ge w s.size 0 5)).now
  rw [HBB.out] at hst
  obtain ⟨A0, c0, e0, hc0, hC0⟩ := hst
  rw [HLEN.out] at e0 hC0
  rw [e0]
  refine (newReader_calls w.heap.size A0 s.size c0 b (Lib.bytesWorld w 5 s) hbw.size HLEN.out hC0 (by omega)).mono ?_
  rintro e w1 ⟨g, rfl, R1, hg1, B1⟩
  have hB1 := hbw.trans (B1.mono hbw.size)
  have hgw : w.heap.size ≤ g := Nat.le_trans hbw.size hg1
  have HB1 := Aside0.mk hB1
  have HR1 := Aside0.mk R1
  have HG := Aside0.mk hgw
  clear B1 hB1 R1 hg1 hgw hbw hC0 hc0
  go_wp2_with fail
  have hbl : b.length ≤ 1000000000000 := by have := HLEN.out; omega
  have hd0 : rStep (0 : Int) (numR 1073741824 (b.drop ((0 : Nat), (0 : Int)).1)) (0, 0) = rd1 b := rfl
  refine (Number_calls w.heap.size g _ b (0, 0) w1 HR1.out HBY.out hbl 1073741824).mono ?_
  rintro e w2 ⟨rfl, R2, F2⟩
  rw [hd0] at R2 ⊢
  have HR2 := Aside0.mk R2
  have HF2 := Aside0.mk F2
  clear R2 F2 hd0 HR1
  obtain ⟨f1, hf1⟩ : ∃ f, (rd1 b).1 = f := ⟨_, rfl⟩
  rw [hf1] at h1 ⊢
  go_wp2_with fail
  have hd1 : rStep (0 : Int) (numR 65536 (b.drop (rd1 b).2.1)) (rd1 b).2 = rd2 b := rfl
  refine (Number_calls w.heap.size g _ b (rd1 b).2 w2 HR2.out HBY.out hbl 65536).mono ?_
  rintro e w3 ⟨rfl, R3, F3⟩
  rw [hd1] at R3 ⊢
  have HR3 := Aside0.mk R3
  have HF3 := Aside0.mk F3
  clear R3 F3 hd1 HR2
  obtain ⟨cn, hcn⟩ : ∃ n : Nat, (rd2 b).1 = (n : Int) := ⟨(rd2 b).1.toNat, by omega⟩
  have hcn2 : cn ≤ 65536 := by omega
  rw [hcn] at h3 ⊢
  rw [Int.toNat_natCast] at h3
  obtain ⟨n8, hn8⟩ : ∃ n : Nat, (cn + 7) / 8 = n := ⟨_, rfl⟩
  have hq : ((cn : Int) + 7).tdiv 8 = (n8 : Int) := by rw [← hn8]; rw [Int.tdiv_eq_ediv_of_nonneg (by omega)]; omega
  clear h2
  go_wp2_with fail
  have hd2 : rStep (⟨#[]⟩ : ByteArray) (txtR (n8 : Int) (b.drop (rd2 b).2.1)) (rd2 b).2 = rd3 b := by unfold rd3; rw [hcn, Int.toNat_natCast, hn8]
  refine (Text_calls w.heap.size g _ b (rd2 b).2 w3 HR3.out HBY.out hbl (n8 : Int)).mono ?_
  rintro e w4 ⟨rfl, R4, F4⟩
  rw [hd2] at R4 ⊢
  have HR4 := Aside0.mk R4
  have HF4 := Aside0.mk F4
  clear R4 F4 hd2 HR3
  rw [hn8] at h3
  obtain ⟨tx, htx⟩ : ∃ t, (rd3 b).1 = t := ⟨_, rfl⟩
  rw [htx] at h3 ⊢
  have hB4 : Below w.heap.size w w4 := by
    have f1 := HF2.out.below (B := w.heap.size) (fun k hk => by have := HG.out; omega) HB1.out.size
    have hs2 := HF2.out.size
    have f2 := HF3.out.below (B := w.heap.size) (fun k hk => by have := HG.out; omega) (Nat.le_trans HB1.out.size hs2)
    have f3 := HF4.out.below (B := w.heap.size) (fun k hk => by have := HG.out; omega) (Nat.le_trans (Nat.le_trans HB1.out.size hs2) HF3.out.size)
    exact ((HB1.out.trans f1).trans f2).trans f3
  have HB4 := Aside0.mk hB4
  have HCL := Aside0.mk (close_calls w.heap.size g _ b (rd3 b).2 w4 HR4.out hbl)
  obtain ⟨cl, hcl⟩ : ∃ c, closeR b (rd3 b).2 = c := ⟨_, rfl⟩
  rw [hcl] at HCL
  have hshut : shutB b ↔ cl = 0 ∧ tx.size = n8 := by unfold shutB; rw [hcl, htx, hcn, Int.toNat_natCast, hn8]
  clear hB4 HF2 HF3 HF4 HB1 HR4
  by_cases hsh : cl = 0 ∧ tx.size = n8
  · obtain ⟨rfl, htn⟩ := hsh
    have hsB : shutB b := hshut.2 ⟨rfl, htn⟩
    subst htn
    clear hshut
    go_wp2_with (go_at_call 36; with_reducible refine HCL.out.mono ?_; rintro e w5 ⟨rfl, m5, rfl⟩)
    have HB5 := Aside0.mk (pw_below_drewN HB4.out m5)
    obtain ⟨w5, hw5⟩ : ∃ W, w4.drewN m5 = W := ⟨_, rfl⟩
    rw [hw5] at HB5 ⊢
    have htl := bytesOf_length tx
    have HTL := Aside0.mk htl
    clear HB4 HCL hw5 htl hcl
    go_loopw [8, 38] (fun v i wr => ∃ k : Nat, k ≤ 8 * tx.size ∧ i = .int .i64 k ∧ KI.R 3 wr w.heap.size (fun _ => True) v (usedB f1 (bytesOf tx) k) ∧ Below w.heap.size w wr) (fun _ i _ => 8 * tx.size - (intOf i).toNat)
    case atStart => exact ⟨0, Nat.zero_le _, rfl, Kd.R_nil _ _ _ _ _, HB5.out⟩
    case round =>
      obtain ⟨k, hk, rfl, hr, hb⟩ := hrel
      obtain ⟨A2, n2, c2, rfl⟩ := R_form' hr
      have HR := Aside0.mk hr
      have HB := Aside0.mk hb
      clear hr hb HB5
      by_cases hlt : k < 8 * tx.size
      · have hk8 : k / 8 < tx.size := by omega
        have hq1 : (k : Int).tdiv 8 = ((k / 8 : Nat) : Int) := by rw [Int.tdiv_eq_ediv_of_nonneg (by omega)]; omega
        have hq2 : (k : Int).tmod 8 = ((k % 8 : Nat) : Int) := by rw [Int.tmod_eq_emod_of_nonneg (by omega)]; omega
        have hbt := bit_test tx k hk8
        have hus := usedB_succ f1 (bytesOf tx) k
        have hul := usedB_len f1 (bytesOf tx) k
        have HUS := Aside0.mk hus
        have HUL := Aside0.mk hul
        clear hus hul
        cases hbit : bitB (bytesOf tx) k
        · rw [hbit] at hbt HUS
          clear hbit
          go_wp2_with fail
          go_roundw
          case rel =>
            refine ⟨k + 1, by omega, by go_num, ?_, HB.out⟩
            rw [HUS.out, if_neg (by simp), List.append_nil]
            exact HR.out
          case measure => simp [intOf]; omega
        · rw [hbit] at hbt HUS
          clear hbit
          go_wp2_with ((with_reducible refine gate_dst (N := 55) rfl ?_); at_builtin; refine Kd.R_append KI (w0 := w) w.heap.size rfl (.tmp 50) (.tmp 54) 61 3 (.int .i64 0) 8 rfl Try.underlying61 infoI rfl (by decide) (by decide) (.slice A2 n2 c2) (usedB f1 (bytesOf tx) k) (f1 + (k : Int)) [.int .i64 (f1 + (k : Int))] (fun _ => True) (fun _ => False) rfl ?eX ?eM (fun _ h => h.elim) (fun _ _ => trivial) ?eO ?eB ?eS ?eL ?_; (case eX => rfl); (case eM => rfl); (case eO => exact HR.out); (case eB => exact HB.out); (case eS => exact HB.out.size); (case eL => have := HUL.out; simp; omega); intro v3 w3 hr3 hb3 _ _; obtain ⟨A3, n3, c3, rfl⟩ := R_form' hr3; have HR3 := Aside0.mk hr3; have HB3 := Aside0.mk hb3; clear hr3 hb3)
          go_roundw
          case rel =>
            refine ⟨k + 1, by omega, by go_num, ?_, HB3.out⟩
            rw [HUS.out, if_pos trivial]
            exact HR3.out
          case measure => simp [intOf]; omega
      · have hkl : k = 8 * tx.size := by omega
        subst hkl
        have hrr := Kd.R_reads' HR.out
        have hrC := hrr.2.2
        rw [← hrr.1] at hrC
        have hblks : usedB f1 (bytesOf tx) (8 * tx.size) = blksB b := by unfold blksB; rw [hf1, htx]
        have hul := usedB_len f1 (bytesOf tx) (8 * tx.size)
        have hum : ∀ x ∈ usedB f1 (bytesOf tx) (8 * tx.size), x ≤ 9223372036854775807 := by
          intro x hx
          obtain ⟨i, hi, rfl, _⟩ := usedB_mem hx
          omega
        by_cases hok : okRange f1 (cn : Int)
        · have HLD := Aside0.mk (load_calls f1 cn A2 n2 c2 _ wr hok hrr.1.symm hrC (by omega) hum)
          obtain ⟨ld, hld⟩ : ∃ r, loadS f1 (List.replicate cn 0) (usedB f1 (bytesOf tx) (8 * tx.size)) = r := ⟨_, rfl⟩
          have hdB : decB b ↔ ld.2 = 0 := by
            unfold decB
            rw [hf1, hcn, Int.toNat_natCast, ← hblks, hld]
            exact ⟨fun h => h.2.2, fun h => ⟨hsB, hok, h⟩⟩
          have hdS : decS b = ld.1 := by
            unfold decS
            rw [hf1, hcn, Int.toNat_natCast, ← hblks, hld]
          rw [hld] at HLD
          have HDB := Aside0.mk hdB
          have HDS := Aside0.mk hdS
          clear hdB hdS hld hum hul hblks hrr hrC hsB
          by_cases h0 : ld.2 = 0
          · go_wp2_with fail
            refine HLD.out.mono ?_
            rintro e w6 ⟨h6 | h6, B6⟩
            · obtain ⟨_, ⟨g6, rfl, M6⟩⟩ := h6
              go_wp2_with fail
              go_ret2
              rw [HDS.out, hf1]
              exact ⟨.inl ⟨HDB.out.2 h0, g6, wr.heap.size, rfl, HB.out.size, M6⟩, HB.out.trans (B6.mono HB.out.size)⟩
            · exact absurd h0 h6.1
          · have h0' : (ld.2 == 0) = false := beq_eq_false_iff_ne.mpr h0
            have hnd : ¬ decB b := fun h => h0 (HDB.out.1 h)
            go_wp2_with fail
            refine HLD.out.mono ?_
            rintro e w6 ⟨h6 | h6, B6⟩
            · exact absurd h6.1 h0
            · obtain ⟨_, rfl⟩ := h6
              go_wp2_with fail
              go_ret2
              exact ⟨.inr ⟨hnd, rfl⟩, HB.out.trans (B6.mono HB.out.size)⟩
        · have hnd : ¬ decB b := by
            unfold decB
            rw [hf1, hcn]
            exact fun h => hok h.2.1
          have HLD := Aside0.mk (load_bad f1 (cn : Int) (.slice A2 n2 c2) wr hok)
          clear hum hul hblks hrr hrC hsB
          go_wp2_with fail
          refine HLD.out.mono ?_
          rintro e w6 ⟨rfl, rfl⟩
          go_wp2_with fail
          go_ret2
          exact ⟨.inr ⟨hnd, rfl⟩, HB.out⟩
  · have hnd : ¬ decB b := fun h => hsh (hshut.1 h.1)
    have dl : (cl == 0) = false ∨ ((tx.size : Int) == (n8 : Int)) = false := by
      by_cases h0 : cl = 0
      · right; rw [beq_eq_false_iff_ne]; intro hh; exact hsh ⟨h0, by omega⟩
      · left; rw [beq_eq_false_iff_ne]; exact h0
    by_cases h0 : cl = 0
    · subst h0
      have dl2 : ((tx.size : Int) == (n8 : Int)) = false := dl.resolve_left (by decide)
      clear hshut hsh dl
      go_wp2_with (go_at_call 36; with_reducible refine HCL.out.mono ?_; rintro e w5 ⟨rfl, m5, rfl⟩)
      go_ret2
      exact ⟨.inr ⟨hnd, rfl⟩, pw_below_drewN HB4.out m5⟩
    · have dl2 : (cl == 0) = false := beq_eq_false_iff_ne.mpr h0
      clear hshut hsh dl
      go_wp2_with (go_at_call 36; with_reducible refine HCL.out.mono ?_; rintro e w5 ⟨rfl, m5, rfl⟩)
      go_ret2
      exact ⟨.inr ⟨hnd, rfl⟩, pw_below_drewN HB4.out m5⟩
end Go.Proofs.Ytbddllklagiajaa

namespace Go.Proofs.Ytbddllklagiajaa
open Go.RowKit Go.Proofs.YtbddllklagiajaaW.PrintWords Go.Proofs.YtbddllklagiajaaW.PrintLast Go.Proofs.YtbddllklagiajaaW.PrintMore
set_option linter.unusedVariables false
set_option linter.unusedSimpArgs false

theorem encx_nat_l0 : ∀ (k : Nat) (n : Int) (l : List Int), PBlocksEncodes.replevinref01_Natural.l0 k n l = PCodecNumbers.replevinref01_Natural.l0 k n l
  | 0, _, _ => rfl
  | k + 1, n, l => by
    unfold PBlocksEncodes.replevinref01_Natural.l0 PCodecNumbers.replevinref01_Natural.l0
    rw [encx_nat_l0 k]
theorem encx_nat (k : Nat) (n : Int) : PBlocksEncodes.replevinref01_Natural.f k n = PCodecNumbers.replevinref01_Natural.f k n := encx_nat_l0 k n []

theorem refText_l0 (s : ByteArray) (hs : s.size ≤ 100000000) : ∀ (k i : Nat) (out : List Int), i ≤ s.size → s.size - i < k → out.length ≤ i + 1000 →
    PBlocksEncodes.replevinref01_Text.l0 k s out (i : Int) = some (out ++ (bytesOf s).drop i)
  | 0, i, _, _, h, _ => by omega
  | k + 1, i, out, hi, hk, ho => by
    unfold PBlocksEncodes.replevinref01_Text.l0
    have hbl := bytesOf_length s
    by_cases h1 : i < s.size
    · have h2 : i < (bytesOf s).length := by omega
      have e : bt s (i : Int) = (bytesOf s)[i] := by
        unfold bt
        simp [bytesOf, h1]
        rfl
      rw [if_pos (by omega), if_pos (by omega), if_pos (by omega), show wrap64 ((i : Int) + 1) = ((i + 1 : Nat) : Int) by rw [mg_wrap _ (by omega)]; rfl,
        refText_l0 s hs k (i + 1) _ (by omega) (by omega) (by simp; omega), List.drop_eq_getElem_cons h2, e]
      simp
    · rw [if_neg (by omega), List.drop_of_length_le (by omega), List.append_nil]
theorem refText_f (s : ByteArray) (hs : s.size ≤ 100000000) (k : Nat) (hk : s.size + 20 ≤ k) : PBlocksEncodes.replevinref01_Text.f k s = some (enc s.size ++ bytesOf s) := by
  unfold PBlocksEncodes.replevinref01_Text.f
  have e : IntKind.u64.wrap (s.size : Int) = (s.size : Int) := by rw [IntKind.wrap_u64]; omega
  rw [encx_nat, e, Natural_f (by omega) (by omega)]
  simp only [Option.bind_some]
  have hel := enc_len9 (show s.size < 9223372036854775808 by omega)
  exact refText_l0 s hs k 0 _ (Nat.zero_le _) (by omega) (by omega)

theorem byteN_add : ∀ b0 b1 b2 b3 b4 b5 b6 b7 : Bool, ∀ k : Fin 8, [b0, b1, b2, b3, b4, b5, b6, b7].getD k.1 true = false → byteN b0 b1 b2 b3 b4 b5 b6 b7 + 2 ^ k.1 = byteN b0 b1 b2 b3 b4 b5 b6 b7 ||| 2 ^ k.1 := by decide +kernel
theorem byteP_add (p : Nat → Bool) (i : Nat) (h : p i = false) : byteP p (i / 8) + 2 ^ (i % 8) = byteP p (i / 8) ||| 2 ^ (i % 8) := by
  unfold byteP
  refine byteN_add _ _ _ _ _ _ _ _ ⟨i % 8, Nat.mod_lt _ (by omega)⟩ ?_
  have h8 : i % 8 < 8 := Nat.mod_lt _ (by omega)
  have hi : i = 8 * (i / 8) + i % 8 := by omega
  obtain ⟨q, hq⟩ : ∃ q, 8 * (i / 8) = q := ⟨_, rfl⟩
  rw [hq] at hi ⊢
  dsimp only
  obtain ⟨r, hr⟩ : ∃ r, i % 8 = r := ⟨_, rfl⟩
  rw [hr] at hi h8 ⊢
  rw [hi] at h
  match r, h8 with
  | 0, _ => exact h
  | 1, _ => exact h
  | 2, _ => exact h
  | 3, _ => exact h
  | 4, _ => exact h
  | 5, _ => exact h
  | 6, _ => exact h
  | 7, _ => exact h
theorem shl_one : ∀ j : Fin 8, shl .u8 1 (j.1 : Int) = ((2 ^ j.1 : Nat) : Int) := by decide +kernel

/-- The bits of the first i blocks. -/
def preM (st : List Int) (i : Nat) : Nat → Bool := fun m => decide (m < i) && decide (st.getD m 0 ∈ [1, 2])
theorem preM_on (st : List Int) (i n8 : Nat) (hi : i / 8 < n8) (h : st.getD i 0 ∈ [1, 2]) :
    (bitsP (preM st i) n8).set (i / 8) (((((bitsP (preM st i) n8).getD (i / 8) 0 + ((2 ^ (i % 8) : Nat) : Int)) % 256))) = bitsP (preM st (i + 1)) n8 := by
  have hp : preM st i i = false := by unfold preM; simp
  have hlt : byteP (preM st i) (i / 8) ||| 2 ^ (i % 8) < 256 := by rw [byteP_or]; exact byteP_lt _ _
  rw [bitsP_getD _ _ _ hi]
  have e : ((byteP (preM st i) (i / 8) : Int) + ((2 ^ (i % 8) : Nat) : Int)) % 256 = ((byteP (preM st i) (i / 8) ||| 2 ^ (i % 8) : Nat) : Int) := by
    have := byteP_add (preM st i) i hp
    omega
  rw [e, bitsP_set _ _ _ hi]
  refine bitsP_congr _ fun m _ => ?_
  unfold preM
  rw [Bool.eq_iff_iff, Bool.or_eq_true, Bool.and_eq_true, Bool.and_eq_true, decide_eq_true_iff, decide_eq_true_iff, decide_eq_true_iff, beq_iff_eq]
  constructor
  · rintro (⟨h1, h2⟩ | rfl)
    · exact ⟨by omega, h2⟩
    · exact ⟨by omega, h⟩
  · rintro ⟨h1, h2⟩
    by_cases e : i = m
    · exact .inr e
    · exact .inl ⟨by omega, h2⟩
theorem preM_off (st : List Int) (i n8 : Nat) (h : ¬ st.getD i 0 ∈ [1, 2]) : bitsP (preM st i) n8 = bitsP (preM st (i + 1)) n8 := by
  refine bitsP_congr _ fun m _ => ?_
  unfold preM
  rw [Bool.eq_iff_iff, Bool.and_eq_true, Bool.and_eq_true, decide_eq_true_iff, decide_eq_true_iff, decide_eq_true_iff]
  constructor
  · rintro ⟨h1, h2⟩
    exact ⟨by omega, h2⟩
  · rintro ⟨h1, h2⟩
    refine ⟨?_, h2⟩
    by_cases e : i = m
    · subst e; exact absurd h2 h
    · omega
theorem preM_all (st : List Int) : bitsP (preM st st.length) ((st.length + 7) / 8) = bitsM st := by
  unfold bitsM
  refine bitsP_congr _ fun m _ => ?_
  unfold preM
  rw [Bool.eq_iff_iff, Bool.and_eq_true, decide_eq_true_iff, decide_eq_true_iff]
  refine ⟨fun h => h.2, fun h => ⟨?_, h⟩⟩
  refine Classical.byContradiction fun hn => ?_
  rw [List.getD_eq_getElem?_getD, List.getElem?_eq_none (by omega)] at h
  simp at h

theorem refEnc_l0 (f : Int) (st : List Int) (hst : st.length ≤ 65536) (out : List Int) (ho : out.length ≤ 1000) : ∀ (k i : Nat), i ≤ st.length → st.length - i + 10000 < k →
    PBlocksEncodes.replevinref12_Encode.l0 k out (bitsP (preM st i) ((st.length + 7) / 8)) (i : Int) f st = some (strOfNums (out ++ (enc ((st.length + 7) / 8) ++ bitsM st)))
  | 0, i, _, h => by omega
  | k + 1, i, hi, hk => by
    unfold PBlocksEncodes.replevinref12_Encode.l0
    by_cases h1 : i < st.length
    · have hq1 : wrap64 ((i : Int).tdiv 8) = ((i / 8 : Nat) : Int) := by rw [Int.tdiv_eq_ediv_of_nonneg (by omega), mg_wrap _ (by omega)]; omega
      have hq2 : (i : Int).tmod 8 = ((i % 8 : Nat) : Int) := by rw [Int.tmod_eq_emod_of_nonneg (by omega)]; omega
      have h8 : i / 8 < (st.length + 7) / 8 := by omega
      have hw : wrap64 ((i : Int) + 1) = ((i + 1 : Nat) : Int) := by rw [mg_wrap _ (by omega)]; rfl
      have hsh := shl_one ⟨i % 8, Nat.mod_lt _ (by omega)⟩
      dsimp only at hsh
      rw [if_pos (by omega), if_pos (by omega), hq1, hq2, hw, mg_rd, mg_rd, hsh, bitsP_length]
      have ih := refEnc_l0 f st hst out ho k (i + 1) (by omega) (by omega)
      by_cases hx1 : st.getD i 0 = 1
      · rw [if_pos hx1, if_pos (by omega), if_pos (by omega), if_pos (by omega), Int.toNat_natCast, preM_on st i _ h8 (by rw [hx1]; decide)]
        exact ih
      · rw [if_neg hx1]
        by_cases hx2 : st.getD i 0 = 2
        · rw [if_pos hx2, if_pos (by omega), if_pos (by omega), if_pos (by omega), Int.toNat_natCast, preM_on st i _ h8 (by rw [hx2]; decide)]
          exact ih
        · rw [if_neg hx2, preM_off st i _ (fun h => by simp only [List.mem_cons, List.not_mem_nil, or_false] at h; exact h.elim hx1 hx2)]
          exact ih
    · obtain rfl : i = st.length := by omega
      have hsz := bitsM_size st
      have hbn : bytesOf (strOfNums (bitsM st)) = bitsM st := bytesOf_nums' _ (bitsP_bytes _ _)
      have hel := enc_len9 (show (st.length + 7) / 8 < 9223372036854775808 by omega)
      have hbl := bitsM_length st
      rw [if_neg (by omega), preM_all, refText_f _ (by rw [hsz]; omega) _ (by rw [hsz]; omega), hbn, hsz]
      simp only [Option.bind_some]
      rw [if_pos (by simp; omega)]

theorem refEncode_f (f : Int) (st : List Int) (hf : 0 ≤ f ∧ f ≤ 1073741824) (hst : st.length ≤ 65536) : PBlocksEncodes.replevinref12_Encode.f 100000 f st = some (strOfNums (encM f st)) := by
  obtain ⟨n, rfl⟩ : ∃ n : Nat, f = (n : Int) := ⟨f.toNat, by omega⟩
  have e1 : IntKind.u64.wrap (n : Int) = (n : Int) := by rw [IntKind.wrap_u64]; omega
  have e2 : IntKind.u64.wrap (st.length : Int) = (st.length : Int) := by rw [IntKind.wrap_u64]; omega
  have hq : wrap64 ((wrap64 ((st.length : Int) + 7)).tdiv 8) = (((st.length + 7) / 8 : Nat) : Int) := by
    rw [mg_wrap ((st.length : Int) + 7) (by omega), Int.tdiv_eq_ediv_of_nonneg (by omega), mg_wrap _ (by omega)]; omega
  have h1 := enc_len9 (show n < 9223372036854775808 by omega)
  have h2 := enc_len9 (show st.length < 9223372036854775808 by omega)
  unfold PBlocksEncodes.replevinref12_Encode.f
  rw [encx_nat, encx_nat, e1, e2, Natural_f (by omega) (by omega), Natural_f (by omega) (by omega)]
  simp only [Option.bind_some]
  rw [hq, if_pos (by omega), if_pos (by omega), if_pos (by omega), Int.toNat_natCast]
  have h := refEnc_l0 (n : Int) st hst (enc n ++ enc st.length) (by simp; omega) 100000 0 (by omega) (by omega)
  have e0 : bitsP (preM st 0) ((st.length + 7) / 8) = List.replicate ((st.length + 7) / 8) 0 := by
    rw [← bitsP_none]
    refine bitsP_congr _ fun m _ => ?_
    unfold preM
    simp
  rw [e0] at h
  rw [show ((0 : Nat) : Int) = 0 from rfl] at h
  rw [h]
  unfold encM
  rw [Int.toNat_natCast, List.append_assoc]
end Go.Proofs.Ytbddllklagiajaa

namespace Go.Proofs.Ytbddllklagiajaa
open Go.RowKit Go.Proofs.YtbddllklagiajaaW.PrintWords Go.Proofs.YtbddllklagiajaaW.PrintLast Go.Proofs.YtbddllklagiajaaW.PrintMore
set_option linter.unusedVariables false
set_option linter.unusedSimpArgs false

theorem nums_bytesOf' (s : ByteArray) : strOfNums (bytesOf s) = s := by
  apply ByteArray.ext
  apply Array.ext'
  rw [strOfNums_data]
  unfold bytesOf
  rw [List.map_map]
  conv => rhs; rw [← List.map_id s.data.toList]
  apply List.map_congr_left
  intro x _
  simp
theorem bytesOf_bytes' (s : ByteArray) : Bytes (bytesOf s) := by
  intro x hx
  unfold bytesOf at hx
  obtain ⟨b, _, rfl⟩ := List.mem_map.1 hx
  have := b.toNat_lt
  omega

/-- The states of n blocks, after their bits. -/
def stB (l : List Int) (n j : Nat) : List Int := (List.range n).map (fun i => if i < j ∧ bitB l i = true then 1 else 0)
theorem stB_len (l : List Int) (n j : Nat) : (stB l n j).length = n := by simp [stB]
theorem stB_getD (l : List Int) (n j i : Nat) (h : i < n) : (stB l n j).getD i 0 = if i < j ∧ bitB l i = true then 1 else 0 := by simp [stB, h]
theorem stB_none (l : List Int) (n : Nat) : stB l n 0 = List.replicate n 0 := by
  apply List.ext_getElem
  · simp [stB]
  · intro i h1 h2
    simp [stB]
theorem stB_on (l : List Int) (n j : Nat) (h : bitB l j = true) : (stB l n j).set j 1 = stB l n (j + 1) := by
  apply List.ext_getElem
  · simp [stB]
  · intro i h1 h2
    rw [List.getElem_set]
    simp only [stB, List.getElem_map, List.getElem_range]
    by_cases e : j = i
    · subst e
      rw [if_pos rfl, if_pos ⟨by omega, h⟩]
    · rw [if_neg e]
      by_cases h3 : i < j ∧ bitB l i = true
      · rw [if_pos h3, if_pos ⟨by omega, h3.2⟩]
      · rw [if_neg h3, if_neg (fun hh => h3 ⟨by omega, hh.2⟩)]
theorem stB_off (l : List Int) (n j : Nat) (h : ¬ bitB l j = true) : stB l n j = stB l n (j + 1) := by
  apply List.ext_getElem
  · simp [stB]
  · intro i h1 h2
    simp only [stB, List.getElem_map, List.getElem_range]
    by_cases h3 : i < j ∧ bitB l i = true
    · rw [if_pos h3, if_pos ⟨by omega, h3.2⟩]
    · rw [if_neg h3, if_neg]
      rintro ⟨h4, h5⟩
      by_cases e : i = j
      · subst e; exact h h5
      · exact h3 ⟨by omega, h5⟩

theorem loadS_cons (first : Int) (st : List Int) (u : Int) (us : List Int) : loadS first st (u :: us) = if inM first st.length u then (if st.getD (u - first).toNat 0 = 0 then loadS first (st.set (u - first).toNat 1) us else (st, 7)) else (st, 2) := rfl
theorem loadS_snoc (first : Int) (b : Int) : ∀ (us st : List Int), loadS first st (us ++ [b]) = if (loadS first st us).2 = 0 then loadS first (loadS first st us).1 [b] else loadS first st us
  | [], st => by simp [loadS]
  | u :: us, st => by
    rw [List.cons_append, loadS_cons, loadS_cons first st u us]
    by_cases h1 : inM first st.length u
    · rw [if_pos h1, if_pos h1]
      by_cases h2 : st.getD (u - first).toNat 0 = 0
      · rw [if_pos h2, if_pos h2]
        exact loadS_snoc first b us _
      · rw [if_neg h2, if_neg h2]; simp
    · rw [if_neg h1, if_neg h1]; simp

theorem load_used (first : Int) (l : List Int) (n : Nat) : ∀ j, (∀ i, n ≤ i → i < j → bitB l i = false) → loadS first (List.replicate n 0) (usedB first l j) = (stB l n j, 0)
  | 0, _ => by
    rw [stB_none]
    simp [usedB, loadS]
  | j + 1, h => by
    have ih := load_used first l n j (fun i h1 h2 => h i h1 (by omega))
    rw [usedB_succ]
    by_cases hb : bitB l j = true
    · have hjn : j < n := by
        refine Classical.byContradiction fun hn => ?_
        have := h j (by omega) (by omega)
        rw [hb] at this
        simp at this
      rw [if_pos hb, loadS_snoc, ih, if_pos rfl]
      have hz : (stB l n j).getD j 0 = 0 := by rw [stB_getD _ _ _ _ hjn, if_neg (fun hh => Nat.lt_irrefl _ hh.1)]
      rw [loadS_cons]
      dsimp only
      rw [if_pos (by rw [stB_len]; unfold inM; omega), show (first + (j : Int) - first).toNat = j by omega, if_pos hz, stB_on l n j hb]
      rfl
    · rw [if_neg hb, List.append_nil, ih, stB_off l n j hb]
theorem load_beyond (first : Int) (l : List Int) (n : Nat) (i : Nat) (hi : n ≤ i) (hb : bitB l i = true) : ∀ j, i < j → (loadS first (List.replicate n 0) (usedB first l j)).2 ≠ 0
  | 0, h => by omega
  | j + 1, h => by
    rw [usedB_succ]
    have hlen : ∀ us, (loadS first (List.replicate n 0) us).1.length = n := by
      have key : ∀ us (st : List Int), (loadS first st us).1.length = st.length := by
        intro us
        induction us with
        | nil => intro st; rfl
        | cons u us ih =>
          intro st
          unfold loadS
          split
          · split
            · rw [ih, List.length_set]
            · rfl
          · rfl
      intro us
      rw [key, List.length_replicate]
    by_cases e : i = j
    · subst e
      rw [if_pos hb, loadS_snoc]
      by_cases h0 : (loadS first (List.replicate n 0) (usedB first l i)).2 = 0
      · rw [if_pos h0]
        unfold loadS
        rw [if_neg (by rw [hlen]; unfold inM; omega)]
        simp
      · rw [if_neg h0]; exact h0
    · have ih := load_beyond first l n i hi hb j (by omega)
      by_cases hbj : bitB l j = true
      · rw [if_pos hbj, loadS_snoc, if_neg ih]; exact ih
      · rw [if_neg hbj, List.append_nil]; exact ih

theorem byteN_bits : ∀ b0 b1 b2 b3 b4 b5 b6 b7 : Bool, ∀ k : Fin 8, decide (byteN b0 b1 b2 b3 b4 b5 b6 b7 / 2 ^ k.1 % 2 = 1) = [b0, b1, b2, b3, b4, b5, b6, b7].getD k.1 true := by decide +kernel
theorem bitB_bitsP (p : Nat → Bool) (nb i : Nat) (h : i / 8 < nb) : bitB (bitsP p nb) i = p i := by
  unfold bitB
  rw [bitsP_getD _ _ _ h, Int.toNat_natCast]
  unfold byteP
  have h8 : i % 8 < 8 := Nat.mod_lt _ (by omega)
  have hk := byteN_bits (p (8 * (i / 8))) (p (8 * (i / 8) + 1)) (p (8 * (i / 8) + 2)) (p (8 * (i / 8) + 3)) (p (8 * (i / 8) + 4)) (p (8 * (i / 8) + 5)) (p (8 * (i / 8) + 6)) (p (8 * (i / 8) + 7)) ⟨i % 8, h8⟩
  dsimp only at hk
  rw [hk]
  have hi : i = 8 * (i / 8) + i % 8 := by omega
  obtain ⟨q, hq⟩ : ∃ q, 8 * (i / 8) = q := ⟨_, rfl⟩
  rw [hq] at hi ⊢
  obtain ⟨r, hr⟩ : ∃ r, i % 8 = r := ⟨_, rfl⟩
  rw [hr] at hi h8 ⊢
  rw [hi]
  match r, h8 with
  | 0, _ => rfl
  | 1, _ => rfl
  | 2, _ => rfl
  | 3, _ => rfl
  | 4, _ => rfl
  | 5, _ => rfl
  | 6, _ => rfl
  | 7, _ => rfl
theorem byteN_self : ∀ v : Fin 256, byteN (decide (v.1 / 2 ^ 0 % 2 = 1)) (decide (v.1 / 2 ^ 1 % 2 = 1)) (decide (v.1 / 2 ^ 2 % 2 = 1)) (decide (v.1 / 2 ^ 3 % 2 = 1)) (decide (v.1 / 2 ^ 4 % 2 = 1)) (decide (v.1 / 2 ^ 5 % 2 = 1)) (decide (v.1 / 2 ^ 6 % 2 = 1)) (decide (v.1 / 2 ^ 7 % 2 = 1)) = v.1 := by decide +kernel
theorem bitsP_self (l : List Int) (hl : Bytes l) : bitsP (bitB l) l.length = l := by
  apply List.ext_getElem
  · simp [bitsP]
  · intro j h1 h2
    have hx := hl _ (List.getElem_mem h2)
    obtain ⟨v, hv⟩ : ∃ v : Nat, l[j] = (v : Int) := ⟨l[j].toNat, by omega⟩
    have hg : l.getD j 0 = (v : Int) := by rw [List.getD_eq_getElem?_getD, List.getElem?_eq_getElem h2, Option.getD_some, hv]
    simp only [bitsP, List.getElem_map, List.getElem_range]
    rw [hv]
    have key : ∀ r, r < 8 → bitB l (8 * j + r) = decide (v / 2 ^ r % 2 = 1) := by
      intro r hr
      unfold bitB
      rw [show (8 * j + r) / 8 = j by omega, show (8 * j + r) % 8 = r by omega, hg, Int.toNat_natCast]
    have k0 := key 0 (by omega)
    rw [Nat.add_zero] at k0
    unfold byteP
    rw [k0, key 1 (by omega), key 2 (by omega), key 3 (by omega), key 4 (by omega), key 5 (by omega), key 6 (by omega), key 7 (by omega)]
    have := byteN_self ⟨v, by omega⟩
    dsimp only at this
    rw [this]

theorem prs_enc {n : Nat} (r : List Int) (h : n < 9223372036854775808) : prs (enc n ++ r) = ((n : Int), ((enc n).length : Int), 0) := by
  unfold prs
  rw [grp_enc (most := 9) r (show n < 128 ^ 9 by omega) (by omega)]
  rfl

theorem drop_enc (n : Nat) (r : List Int) : (enc n ++ r).drop (enc n).length = r := by rw [List.drop_append_of_le_length (Nat.le_refl _), List.drop_length, List.nil_append]

/-- An encoding is read. -/
theorem rd1_enc (f : Nat) (r : List Int) (h : f ≤ 1073741824) : rd1 (enc f ++ r) = ((f : Int), (enc f).length, 0) := by
  unfold rd1 numR
  rw [List.drop_zero, prs_enc r (by omega), if_neg (by dsimp only; omega)]
  simp [rStep]
theorem rd2_enc (f n : Nat) (r : List Int) (h : f ≤ 1073741824) (hn : n ≤ 65536) : rd2 (enc f ++ (enc n ++ r)) = ((n : Int), (enc f).length + (enc n).length, 0) := by
  unfold rd2
  rw [rd1_enc f _ h]
  dsimp only
  rw [drop_enc]
  unfold numR
  rw [prs_enc r (by omega), if_neg (by dsimp only; omega)]
  simp [rStep]
theorem rd3_enc (f n : Nat) (bs : List Int) (h : f ≤ 1073741824) (hn : n ≤ 65536) (hb : bs.length = (n + 7) / 8) :
    rd3 (enc f ++ (enc n ++ (enc ((n + 7) / 8) ++ bs))) = (strOfNums bs, (enc f).length + (enc n).length + (enc ((n + 7) / 8)).length + bs.length, 0) := by
  unfold rd3
  rw [rd2_enc f n _ h hn]
  dsimp only
  rw [← List.append_assoc (enc f), show (enc f).length + (enc n).length = (enc f ++ enc n).length by simp, List.drop_append_of_le_length (Nat.le_refl _), List.drop_length, List.nil_append]
  unfold txtR
  rw [prs_enc bs (by omega)]
  dsimp only
  rw [if_neg (by simp), Int.toNat_natCast, if_neg (by omega), if_neg (by simp; omega), Int.toNat_natCast, Int.toNat_natCast, drop_enc, List.take_of_length_le (by omega)]
  simp [rStep]
  omega

/-- Decode of an encoding: the blocks that are in use are kept. -/
def kept (st : List Int) : List Int := st.map (fun s => if s = 1 ∨ s = 2 then 1 else 0)
theorem dec_enc (f : Int) (st : List Int) (h : WfM f st) : (rd1 (encM f st)).1 = f ∧ decB (encM f st) ∧ decS (encM f st) = kept st := by
  obtain ⟨h1, h2, h3, h4, h5⟩ := h
  obtain ⟨n, rfl⟩ : ∃ n : Nat, f = (n : Int) := ⟨f.toNat, by omega⟩
  have hb := bitsM_length st
  have e1 := rd1_enc n (enc st.length ++ (enc ((st.length + 7) / 8) ++ bitsM st)) (by omega)
  have e2 := rd2_enc n st.length (enc ((st.length + 7) / 8) ++ bitsM st) (by omega) h4
  have e3 := rd3_enc n st.length (bitsM st) (by omega) h4 hb
  have eM : encM (n : Int) st = enc n ++ (enc st.length ++ (enc ((st.length + 7) / 8) ++ bitsM st)) := by unfold encM; rw [Int.toNat_natCast]
  rw [eM]
  obtain ⟨b, hbb⟩ : ∃ b, enc n ++ (enc st.length ++ (enc ((st.length + 7) / 8) ++ bitsM st)) = b := ⟨_, rfl⟩
  have hlb : b.length = (enc n).length + (enc st.length).length + (enc ((st.length + 7) / 8)).length + (bitsM st).length := by rw [← hbb]; simp; omega
  rw [hbb] at e1 e2 e3 ⊢
  have hbn : bytesOf (strOfNums (bitsM st)) = bitsM st := bytesOf_nums' _ (bitsP_bytes _ _)
  have hsz := bitsM_size st
  have hbits : ∀ i, i < 8 * ((st.length + 7) / 8) → bitB (bitsM st) i = decide (st.getD i 0 ∈ [1, 2]) := fun i hi => by
    unfold bitsM
    exact bitB_bitsP _ _ _ (by omega)
  have hld : loadS (rd1 b).1 (List.replicate (rd2 b).1.toNat 0) (blksB b) = (stB (bitsM st) st.length (8 * ((st.length + 7) / 8)), 0) := by
    unfold blksB
    rw [e1, e2, e3]
    dsimp only
    rw [hbn, hsz, Int.toNat_natCast]
    refine load_used _ _ _ _ fun i hi1 hi2 => ?_
    rw [hbits i hi2, List.getD_eq_getElem?_getD, List.getElem?_eq_none (by omega)]
    simp
  refine ⟨by rw [e1], ⟨⟨?_, ?_⟩, ?_, by rw [hld]⟩, ?_⟩
  · unfold closeR
    rw [e3]
    dsimp only
    rw [if_neg (by omega)]
  · rw [e3, e2]
    dsimp only
    rw [hsz, Int.toNat_natCast]
  · rw [e1, e2]
    exact ⟨by omega, by dsimp only; omega, by dsimp only; omega, by dsimp only; omega⟩
  · unfold decS
    rw [hld]
    unfold kept
    apply List.ext_getElem
    · simp [stB]
    · intro i hi1 hi2
      have hi : i < st.length := by simpa using hi2
      have hg : st.getD i 0 = st[i] := by simp [hi]
      simp only [stB, List.getElem_map, List.getElem_range]
      rw [hbits i (by omega), hg]
      have hc : (i < 8 * ((st.length + 7) / 8) ∧ decide (st[i] ∈ [1, 2]) = true) ↔ (st[i] = 1 ∨ st[i] = 2) := by
        rw [decide_eq_true_iff]
        simp
        omega
      by_cases hc1 : st[i] = 1 ∨ st[i] = 2
      · rw [if_pos (hc.2 hc1), if_pos hc1]
      · rw [if_neg (fun hh => hc1 (hc.1 hh)), if_neg hc1]
end Go.Proofs.Ytbddllklagiajaa
