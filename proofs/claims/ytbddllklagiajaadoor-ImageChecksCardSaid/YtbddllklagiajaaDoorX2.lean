/- (*Hash).Sum. sha256.Sum, image.check. The contract of Writer.write: it appends the parts, or remembers an error. The contracts of Writer's methods Number, Signed, Flag and Text. NewWriter; 'known' of the statements about package codec. image.Encode. -/
import Derived.Test.YtbddllklagiajaaDoorX1
import Derived.Laws.Tables
namespace Go.Proofs.YtbddllklagiajaaDoor
open PImageDecodes (info5)
open Go.RowKit Go.Proofs.YtbddllklagiajaaDoorW.PrintWords Go.Proofs.YtbddllklagiajaaDoorW.PrintLast Go.Proofs.YtbddllklagiajaaDoorW.PrintMore
set_option linter.unusedVariables false
set_option linter.unusedSimpArgs false

theorem bytesOf_nums (l : List Int) (h : Bytes l) : bytesOf (strOfNums l) = l := by
  unfold bytesOf
  rw [strOfNums_data, List.map_map]
  conv => rhs; rw [← List.map_id l]
  apply List.map_congr_left
  intro x hx
  have := h x hx
  simp [UInt8.toNat_ofNat']
  omega
/-- An array of bytes in a block of its own. -/
def ArrB (w : World) (g : Nat) (xs : List Int) : Prop := w.heap[g]? = some (.cells (xs.map (Value.int .u8)).toArray 48 (0, 0))
namespace ArrB
variable {w w' : World} {g : Nat} {xs : List Int}
theorem cell (h : ArrB w g xs) (i : Nat) (hi : i < xs.length) : w.cell? ⟨g, i, none⟩ = some (.int .u8 (xs.getD i 0)) := by
  rw [blk_cell h i]
  simp [hi]
theorem frozen (h : ArrB w g xs) (i : Nat) : w.frozen? ⟨g, i, none⟩ = false := blk_frozen h i
theorem set (h : ArrB w g xs) (i : Nat) (v : Int) : ArrB (w.setCell ⟨g, i, none⟩ (.int .u8 v)) g (xs.set i v) := by
  have := blk_set h i (.int .u8 v)
  unfold ArrB
  rw [this]
  congr 2
  rw [List.map_set]
  simp
theorem below {B : Nat} (h : ArrB w g xs) (hb : Below B w w') (hg : g < B) : ArrB w' g xs := (hb.block _ hg).trans h
theorem lt (h : ArrB w g xs) : g < w.heap.size := blk_lt h
theorem far (h : ArrB w g xs) (k i : Nat) (v : Value) (hk : g ≠ k) : ArrB (w.setCell ⟨k, i, none⟩ v) g xs := blk_far h (p := ⟨k, i, none⟩) hk v
theorem frm {S : Nat → Prop} (h : ArrB w g xs) (hk : Frm w w' S) (hg : ¬ S g) : ArrB w' g xs := hk.blk h hg
theorem alloc (h : ArrB w g xs) (o : Obj) : ArrB (w.alloc o) g xs := blk_alloc h o
theorem new (w : World) (xs : List Int) : ArrB (w.alloc (.cells (xs.map (Value.int .u8)).toArray 48)) w.heap.size xs := blk_new w _
end ArrB

/-- How many zeros are appended. -/
def padZ (m : Nat) : Nat := (119 - m) % 64
/-- The last eight bytes, the first i of them. -/
def lenB (n : Nat) (i : Nat) : List Int := (List.range i).map (fun j => ((n * 8 / 2 ^ (8 * (7 - j)) % 256 : Nat) : Int))
def padded (l : List Int) (n : Nat) : List Int := l ++ [128] ++ List.replicate (padZ l.length) 0 ++ lenB n 8
/-- The digest's bytes. -/
def dig4 (x : Int) : List Int := [x / 16777216 % 256, x / 65536 % 256, x / 256 % 256, x % 256]
def digS (st : List Int) : List Int := st.flatMap dig4

theorem setRow_below (w : World) (g : Nat) (cs : Array Value) : Below g w (w.setRow g cs) :=
  ⟨rfl, rfl, rfl, by simp, fun k hk => setRow_other w g k _ (fun e => by omega)⟩
theorem list32 {xs : List Int} (h : xs.length = 32) : ∃ b0 b1 b2 b3 b4 b5 b6 b7 b8 b9 b10 b11 b12 b13 b14 b15 b16 b17 b18 b19 b20 b21 b22 b23 b24 b25 b26 b27 b28 b29 b30 b31, xs = [b0, b1, b2, b3, b4, b5, b6, b7, b8, b9, b10, b11, b12, b13, b14, b15, b16, b17, b18, b19, b20, b21, b22, b23, b24, b25, b26, b27, b28, b29, b30, b31] := by
  match xs, h with
  | [b0, b1, b2, b3, b4, b5, b6, b7, b8, b9, b10, b11, b12, b13, b14, b15, b16, b17, b18, b19, b20, b21, b22, b23, b24, b25, b26, b27, b28, b29, b30, b31], _ => exact ⟨b0, b1, b2, b3, b4, b5, b6, b7, b8, b9, b10, b11, b12, b13, b14, b15, b16, b17, b18, b19, b20, b21, b22, b23, b24, b25, b26, b27, b28, b29, b30, b31, rfl⟩
theorem ArrB.put32 {w : World} {g : Nat} {xs : List Int} (h : ArrB w g xs) (hl : xs.length = 32) (b0 b1 b2 b3 b4 b5 b6 b7 b8 b9 b10 b11 b12 b13 b14 b15 b16 b17 b18 b19 b20 b21 b22 b23 b24 b25 b26 b27 b28 b29 b30 b31 : Int) : ArrB ((((((((((((((((((((((((((((((((w.setCell ⟨g, 0, none⟩ (.int .u8 b0)).setCell ⟨g, 1, none⟩ (.int .u8 b1)).setCell ⟨g, 2, none⟩ (.int .u8 b2)).setCell ⟨g, 3, none⟩ (.int .u8 b3)).setCell ⟨g, 4, none⟩ (.int .u8 b4)).setCell ⟨g, 5, none⟩ (.int .u8 b5)).setCell ⟨g, 6, none⟩ (.int .u8 b6)).setCell ⟨g, 7, none⟩ (.int .u8 b7)).setCell ⟨g, 8, none⟩ (.int .u8 b8)).setCell ⟨g, 9, none⟩ (.int .u8 b9)).setCell ⟨g, 10, none⟩ (.int .u8 b10)).setCell ⟨g, 11, none⟩ (.int .u8 b11)).setCell ⟨g, 12, none⟩ (.int .u8 b12)).setCell ⟨g, 13, none⟩ (.int .u8 b13)).setCell ⟨g, 14, none⟩ (.int .u8 b14)).setCell ⟨g, 15, none⟩ (.int .u8 b15)).setCell ⟨g, 16, none⟩ (.int .u8 b16)).setCell ⟨g, 17, none⟩ (.int .u8 b17)).setCell ⟨g, 18, none⟩ (.int .u8 b18)).setCell ⟨g, 19, none⟩ (.int .u8 b19)).setCell ⟨g, 20, none⟩ (.int .u8 b20)).setCell ⟨g, 21, none⟩ (.int .u8 b21)).setCell ⟨g, 22, none⟩ (.int .u8 b22)).setCell ⟨g, 23, none⟩ (.int .u8 b23)).setCell ⟨g, 24, none⟩ (.int .u8 b24)).setCell ⟨g, 25, none⟩ (.int .u8 b25)).setCell ⟨g, 26, none⟩ (.int .u8 b26)).setCell ⟨g, 27, none⟩ (.int .u8 b27)).setCell ⟨g, 28, none⟩ (.int .u8 b28)).setCell ⟨g, 29, none⟩ (.int .u8 b29)).setCell ⟨g, 30, none⟩ (.int .u8 b30)).setCell ⟨g, 31, none⟩ (.int .u8 b31)) g [b0, b1, b2, b3, b4, b5, b6, b7, b8, b9, b10, b11, b12, b13, b14, b15, b16, b17, b18, b19, b20, b21, b22, b23, b24, b25, b26, b27, b28, b29, b30, b31] := by
  obtain ⟨x0, x1, x2, x3, x4, x5, x6, x7, x8, x9, x10, x11, x12, x13, x14, x15, x16, x17, x18, x19, x20, x21, x22, x23, x24, x25, x26, x27, x28, x29, x30, x31, rfl⟩ := list32 hl
  have := ((((((((((((((((((((((((((((((((h.set 0 b0).set 1 b1).set 2 b2).set 3 b3).set 4 b4).set 5 b5).set 6 b6).set 7 b7).set 8 b8).set 9 b9).set 10 b10).set 11 b11).set 12 b12).set 13 b13).set 14 b14).set 15 b15).set 16 b16).set 17 b17).set 18 b18).set 19 b19).set 20 b20).set 21 b21).set 22 b22).set 23 b23).set 24 b24).set 25 b25).set 26 b26).set 27 b27).set 28 b28).set 29 b29).set 30 b30).set 31 b31)
  simp only [List.set_cons_zero, List.set_cons_succ] at this
  exact this
theorem put32_below {a w : World} {B g : Nat} (h : Below B a w) (hg : B ≤ g) (b0 b1 b2 b3 b4 b5 b6 b7 b8 b9 b10 b11 b12 b13 b14 b15 b16 b17 b18 b19 b20 b21 b22 b23 b24 b25 b26 b27 b28 b29 b30 b31 : Value) : Below B a ((((((((((((((((((((((((((((((((w.setCell ⟨g, 0, none⟩ b0).setCell ⟨g, 1, none⟩ b1).setCell ⟨g, 2, none⟩ b2).setCell ⟨g, 3, none⟩ b3).setCell ⟨g, 4, none⟩ b4).setCell ⟨g, 5, none⟩ b5).setCell ⟨g, 6, none⟩ b6).setCell ⟨g, 7, none⟩ b7).setCell ⟨g, 8, none⟩ b8).setCell ⟨g, 9, none⟩ b9).setCell ⟨g, 10, none⟩ b10).setCell ⟨g, 11, none⟩ b11).setCell ⟨g, 12, none⟩ b12).setCell ⟨g, 13, none⟩ b13).setCell ⟨g, 14, none⟩ b14).setCell ⟨g, 15, none⟩ b15).setCell ⟨g, 16, none⟩ b16).setCell ⟨g, 17, none⟩ b17).setCell ⟨g, 18, none⟩ b18).setCell ⟨g, 19, none⟩ b19).setCell ⟨g, 20, none⟩ b20).setCell ⟨g, 21, none⟩ b21).setCell ⟨g, 22, none⟩ b22).setCell ⟨g, 23, none⟩ b23).setCell ⟨g, 24, none⟩ b24).setCell ⟨g, 25, none⟩ b25).setCell ⟨g, 26, none⟩ b26).setCell ⟨g, 27, none⟩ b27).setCell ⟨g, 28, none⟩ b28).setCell ⟨g, 29, none⟩ b29).setCell ⟨g, 30, none⟩ b30).setCell ⟨g, 31, none⟩ b31) := (Below.setCell (Below.setCell (Below.setCell (Below.setCell (Below.setCell (Below.setCell (Below.setCell (Below.setCell (Below.setCell (Below.setCell (Below.setCell (Below.setCell (Below.setCell (Below.setCell (Below.setCell (Below.setCell (Below.setCell (Below.setCell (Below.setCell (Below.setCell (Below.setCell (Below.setCell (Below.setCell (Below.setCell (Below.setCell (Below.setCell (Below.setCell (Below.setCell (Below.setCell (Below.setCell (Below.setCell (Below.setCell h (p := ⟨g, 0, none⟩) hg _) (p := ⟨g, 1, none⟩) hg _) (p := ⟨g, 2, none⟩) hg _) (p := ⟨g, 3, none⟩) hg _) (p := ⟨g, 4, none⟩) hg _) (p := ⟨g, 5, none⟩) hg _) (p := ⟨g, 6, none⟩) hg _) (p := ⟨g, 7, none⟩) hg _) (p := ⟨g, 8, none⟩) hg _) (p := ⟨g, 9, none⟩) hg _) (p := ⟨g, 10, none⟩) hg _) (p := ⟨g, 11, none⟩) hg _) (p := ⟨g, 12, none⟩) hg _) (p := ⟨g, 13, none⟩) hg _) (p := ⟨g, 14, none⟩) hg _) (p := ⟨g, 15, none⟩) hg _) (p := ⟨g, 16, none⟩) hg _) (p := ⟨g, 17, none⟩) hg _) (p := ⟨g, 18, none⟩) hg _) (p := ⟨g, 19, none⟩) hg _) (p := ⟨g, 20, none⟩) hg _) (p := ⟨g, 21, none⟩) hg _) (p := ⟨g, 22, none⟩) hg _) (p := ⟨g, 23, none⟩) hg _) (p := ⟨g, 24, none⟩) hg _) (p := ⟨g, 25, none⟩) hg _) (p := ⟨g, 26, none⟩) hg _) (p := ⟨g, 27, none⟩) hg _) (p := ⟨g, 28, none⟩) hg _) (p := ⟨g, 29, none⟩) hg _) (p := ⟨g, 30, none⟩) hg _) (p := ⟨g, 31, none⟩) hg _)

/-- The digest's array, the bytes of k words being there. -/
def digK (st : List Int) (k : Nat) : List Int := digS (st.take k) ++ List.replicate (32 - 4 * k) 0

set_option maxHeartbeats 8000000 in
set_option maxRecDepth 100000 in
theorem hsum_calls (g : Nat) (x0 x1 x2 x3 x4 x5 x6 x7 : Int) (tail : ByteArray) (n : Nat) (w : World) (hK : KT w) (h : HashAt w g [x0, x1, x2, x3, x4, x5, x6, x7] tail n) (ht : tail.size < 64) (hn : n ≤ 1000000) :
    Calls Tryd.prog 57 #[.pointer (some ⟨g, 0, none⟩)] w fun e w' => e = .returned (.agg ((digS (absN (if n < 64 then ivS else [x0, x1, x2, x3, x4, x5, x6, x7]) (padded (bytesOf tail) n) ((padded (bytesOf tail) n).length / 64))).map (Value.int .u8)).toArray) ∧ Below w.heap.size w w' := by
  have HK := Aside0.mk hK
  have d0 : ∀ o, (w.alloc o).cell? ⟨g, 0, none⟩ = some (.int .u32 x0) := fun o => blk_cell (blk_alloc h o) 0
  have d1 : ∀ o, (w.alloc o).cell? ⟨g, 1, none⟩ = some (.int .u32 x1) := fun o => blk_cell (blk_alloc h o) 1
  have d2 : ∀ o, (w.alloc o).cell? ⟨g, 2, none⟩ = some (.int .u32 x2) := fun o => blk_cell (blk_alloc h o) 2
  have d3 : ∀ o, (w.alloc o).cell? ⟨g, 3, none⟩ = some (.int .u32 x3) := fun o => blk_cell (blk_alloc h o) 3
  have d4 : ∀ o, (w.alloc o).cell? ⟨g, 4, none⟩ = some (.int .u32 x4) := fun o => blk_cell (blk_alloc h o) 4
  have d5 : ∀ o, (w.alloc o).cell? ⟨g, 5, none⟩ = some (.int .u32 x5) := fun o => blk_cell (blk_alloc h o) 5
  have d6 : ∀ o, (w.alloc o).cell? ⟨g, 6, none⟩ = some (.int .u32 x6) := fun o => blk_cell (blk_alloc h o) 6
  have d7 : ∀ o, (w.alloc o).cell? ⟨g, 7, none⟩ = some (.int .u32 x7) := fun o => blk_cell (blk_alloc h o) 7
  have d9 : ∀ o o2, ((w.alloc o).alloc o2).cell? ⟨g, 9, none⟩ = some (.int .i64 n) := fun o o2 => blk_cell (blk_alloc (blk_alloc h o) o2) 9
  have HH := Aside0.mk h
  clear h hK
  obtain ⟨l, hl⟩ : ∃ l, bytesOf tail = l := ⟨_, rfl⟩
  have hll : l.length = tail.size := by rw [← hl]; exact bytesOf_length tail
  have HL := Aside0.mk hl
  have HLL := Aside0.mk hll
  rw [hl]
  clear hl hll
  obtain ⟨st0, hst0⟩ : ∃ st, (if n < 64 then ivS else [x0, x1, x2, x3, x4, x5, x6, x7]) = st := ⟨_, rfl⟩
  have hst0l : st0.length = 8 := by rw [← hst0]; split <;> rfl
  rw [hst0]
  have HS0 := Aside0.mk hst0
  clear hst0
  go_enter Tryd.func57, Tryd.ntmps57
  go_upto_if 21 with fail
  obtain ⟨W0, hW0⟩ : ∃ W0, (w.alloc (.cells #[.int .u8 0, .int .u8 0, .int .u8 0, .int .u8 0, .int .u8 0, .int .u8 0, .int .u8 0, .int .u8 0, .int .u8 0, .int .u8 0, .int .u8 0, .int .u8 0, .int .u8 0, .int .u8 0, .int .u8 0, .int .u8 0, .int .u8 0, .int .u8 0, .int .u8 0, .int .u8 0, .int .u8 0, .int .u8 0, .int .u8 0, .int .u8 0, .int .u8 0, .int .u8 0, .int .u8 0, .int .u8 0, .int .u8 0, .int .u8 0, .int .u8 0, .int .u8 0] 48)).alloc (.cells #[.int .u32 x0, .int .u32 x1, .int .u32 x2, .int .u32 x3, .int .u32 x4, .int .u32 x5, .int .u32 x6, .int .u32 x7] 84) = W0 := ⟨_, rfl⟩
  have hsz0 : (w.alloc (.cells #[.int .u8 0, .int .u8 0, .int .u8 0, .int .u8 0, .int .u8 0, .int .u8 0, .int .u8 0, .int .u8 0, .int .u8 0, .int .u8 0, .int .u8 0, .int .u8 0, .int .u8 0, .int .u8 0, .int .u8 0, .int .u8 0, .int .u8 0, .int .u8 0, .int .u8 0, .int .u8 0, .int .u8 0, .int .u8 0, .int .u8 0, .int .u8 0, .int .u8 0, .int .u8 0, .int .u8 0, .int .u8 0, .int .u8 0, .int .u8 0, .int .u8 0, .int .u8 0] 48)).heap.size = w.heap.size + 1 := World.size_alloc _ _
  have A0 : Arr W0 (w.heap.size + 1) 84 [x0, x1, x2, x3, x4, x5, x6, x7] := by rw [← hW0, ← hsz0]; exact Arr.new _ 84 [x0, x1, x2, x3, x4, x5, x6, x7]
  have R0 : ArrB W0 w.heap.size (List.replicate 32 0) := by rw [← hW0]; exact (ArrB.new w (List.replicate 32 0)).alloc _
  have B0 : Below w.heap.size w W0 := by rw [← hW0]; exact below_alloc (below_alloc (Below.refl _ _) _) _
  rw [hW0]
  clear hW0 hsz0 d0 d1 d2 d3 d4 d5 d6 d7 d9
  have HA0 := Aside0.mk A0
  have HR0 := Aside0.mk R0
  have HB0 := Aside0.mk B0
  clear A0 R0 B0
  go_cut [] (fun wx => Arr wx (w.heap.size + 1) 84 st0 ∧ ArrB wx w.heap.size (List.replicate 32 0) ∧ Below w.heap.size w wx)
  case first =>
    by_cases hnn : n < 64
    · have hni : (n : Int) < 64 := by omega
      go_wp2_with fail
      refine (begin_calls W0).mono ?_
      rintro e W1 ⟨rfl, B1⟩
      have A1 := HA0.out.below B1 HA0.out.lt
      have R1 := HR0.out.below B1 HR0.out.lt
      have B1' := below_step HB0.out B1
      have d0 : W1.cell? ⟨w.heap.size + 1, 0, none⟩ = some (.int .u32 x0) := A1.cell 0 (Nat.lt_of_lt_of_le (show 0 < 8 by decide) (Nat.le_refl 8))
      have f0 : W1.frozen? ⟨w.heap.size + 1, 0, none⟩ = false := A1.frozen 0
      have d1 : W1.cell? ⟨w.heap.size + 1, 1, none⟩ = some (.int .u32 x1) := A1.cell 1 (Nat.lt_of_lt_of_le (show 1 < 8 by decide) (Nat.le_refl 8))
      have f1 : W1.frozen? ⟨w.heap.size + 1, 1, none⟩ = false := A1.frozen 1
      have d2 : W1.cell? ⟨w.heap.size + 1, 2, none⟩ = some (.int .u32 x2) := A1.cell 2 (Nat.lt_of_lt_of_le (show 2 < 8 by decide) (Nat.le_refl 8))
      have f2 : W1.frozen? ⟨w.heap.size + 1, 2, none⟩ = false := A1.frozen 2
      have d3 : W1.cell? ⟨w.heap.size + 1, 3, none⟩ = some (.int .u32 x3) := A1.cell 3 (Nat.lt_of_lt_of_le (show 3 < 8 by decide) (Nat.le_refl 8))
      have f3 : W1.frozen? ⟨w.heap.size + 1, 3, none⟩ = false := A1.frozen 3
      have d4 : W1.cell? ⟨w.heap.size + 1, 4, none⟩ = some (.int .u32 x4) := A1.cell 4 (Nat.lt_of_lt_of_le (show 4 < 8 by decide) (Nat.le_refl 8))
      have f4 : W1.frozen? ⟨w.heap.size + 1, 4, none⟩ = false := A1.frozen 4
      have d5 : W1.cell? ⟨w.heap.size + 1, 5, none⟩ = some (.int .u32 x5) := A1.cell 5 (Nat.lt_of_lt_of_le (show 5 < 8 by decide) (Nat.le_refl 8))
      have f5 : W1.frozen? ⟨w.heap.size + 1, 5, none⟩ = false := A1.frozen 5
      have d6 : W1.cell? ⟨w.heap.size + 1, 6, none⟩ = some (.int .u32 x6) := A1.cell 6 (Nat.lt_of_lt_of_le (show 6 < 8 by decide) (Nat.le_refl 8))
      have f6 : W1.frozen? ⟨w.heap.size + 1, 6, none⟩ = false := A1.frozen 6
      have d7 : W1.cell? ⟨w.heap.size + 1, 7, none⟩ = some (.int .u32 x7) := A1.cell 7 (Nat.lt_of_lt_of_le (show 7 < 8 by decide) (Nat.le_refl 8))
      have f7 : W1.frozen? ⟨w.heap.size + 1, 7, none⟩ = false := A1.frozen 7
      have HA1 := Aside0.mk A1
      have HR1 := Aside0.mk R1
      have HB1 := Aside0.mk B1'
      clear A1 R1 B1' B1
      go_wp2_with fail
      go_meet
      have e := HS0.out
      rw [if_pos hnn] at e
      rw [← e]
      exact ⟨HA1.out.put8 rfl _ _ _ _ _ _ _ _, ((((((((HR1.out.far (w.heap.size + 1) 0 _ (by omega)).far (w.heap.size + 1) 1 _ (by omega)).far (w.heap.size + 1) 2 _ (by omega)).far (w.heap.size + 1) 3 _ (by omega)).far (w.heap.size + 1) 4 _ (by omega)).far (w.heap.size + 1) 5 _ (by omega)).far (w.heap.size + 1) 6 _ (by omega)).far (w.heap.size + 1) 7 _ (by omega)), put8_below HB1.out (Nat.le_succ _) _ _ _ _ _ _ _ _⟩
    · have hni : ¬ (n : Int) < 64 := by omega
      go_wp2_with fail
      go_meet
      have e := HS0.out
      rw [if_neg hnn] at e
      rw [← e]
      exact ⟨HA0.out, HR0.out, HB0.out⟩
  case rest =>
    obtain ⟨A2, R2, B2⟩ := hcut
    have HA2 := Aside0.mk A2
    have HR2 := Aside0.mk R2
    have HB2 := Aside0.mk B2
    clear A2 R2 B2 HA0 HR0 HB0
    have hh := (HB2.out.block g (blk_lt HH.out)).trans HH.out
    have d8 : wc.cell? ⟨g, 8, none⟩ = some (.string tail) := blk_cell hh 8
    have kb := print_bytes (P := Tryd.prog) 9 46 5 Tryd.underlying9 Tryd.underlying46 Tryd.underlying5 tail wc
    have RB := RowB.conv (base := w.heap.size) wc tail HB2.out.size (by unfold maxLen; omega)
    rw [HL.out] at RB
    have bw := bytes_below (Below.refl wc.heap.size wc) (Nat.le_refl _) 5 tail
    have HA3 := Aside0.mk (HA2.out.below bw HA2.out.lt)
    have HR3 := Aside0.mk (HR2.out.below bw HR2.out.lt)
    have HB3 := Aside0.mk (below_step HB2.out bw)
    obtain ⟨W3, hW3⟩ : ∃ W, Lib.bytesWorld wc 5 tail = W := ⟨_, rfl⟩
    rw [hW3] at RB HA3 HR3 HB3
    obtain ⟨gr, m, c, hv, hm⟩ := RB.form
    rw [hv] at RB
    have hkb : (convert 9 46 (.string tail)).run Tryd.prog wc = .ok (.slice (some ⟨gr, 0, none⟩) m c) W3 := by rw [kb, hW3, ← hv]
    have HRB := Aside0.mk RB
    have HM := Aside0.mk hm
    clear kb hW3 hv RB bw hh hm HA2 HR2 HB2
    have hll := HLL.out
    go_wp2_with ((with_reducible refine gate_dst (N := 30) rfl ?_); at_builtin; refine RowB.append1 w.heap.size rfl (.tmp 28) (.tmp 29) 46 rfl Tryd.underlying46 info5 (.slice (some ⟨gr, 0, none⟩) m c) l 128 rfl rfl ?eR ?eB ?eL ?_; (case eR => exact HRB.out); (case eB => exact HB3.out.size); (case eL => omega); intro v4 W4 hr4 hf4; have ha4 := HA3.out.kept hf4.kept (HRB.out.ne HA3.out (by decide)); have hq4 := HR3.out.frm hf4 (HRB.out.ne HR3.out (by decide)); have hb4 := HB3.out.trans (hf4.below (B := w.heap.size) (fun k hk => (HRB.out.ge hk).1) HB3.out.size); obtain ⟨gr4, m4, c4, rfl, hm4⟩ := hr4.form; rw [List.length_append, hll, List.length_singleton] at hm4; subst hm4; have HR4 := Aside0.mk hr4; have HA4 := Aside0.mk ha4; have HQ4 := Aside0.mk hq4; have HB4 := Aside0.mk hb4; clear hr4 hf4 ha4 hq4 hb4)
    have hpz : padZ l.length = (119 - tail.size) % 64 := by unfold padZ; rw [hll]
    have HPZ := Aside0.mk hpz
    obtain ⟨ZZ, hZZ⟩ : ∃ Z, padZ l.length = Z := ⟨_, rfl⟩
    rw [hZZ] at hpz
    have HZZ := Aside0.mk hZZ
    clear hZZ
    go_loopw [4] (fun v wr => ∃ z, z ≤ ZZ ∧ RowB wr w.heap.size v (l ++ [128] ++ List.replicate z 0) ∧ Arr wr (w.heap.size + 1) 84 st0 ∧ ArrB wr w.heap.size (List.replicate 32 0) ∧ Below w.heap.size w wr) (fun v _ => match v with | .slice _ k _ => 200 - k | _ => 0)
    case atStart => exact ⟨0, Nat.zero_le _, by rw [List.replicate_zero, List.append_nil]; exact HR4.out, HA4.out, HQ4.out, HB4.out⟩
    case round =>
      clear HR4 HA4 HQ4 HB4 HRB HA3 HR3 HB3 hkb d8
      obtain ⟨z, hz, hR, hA, hQ, hB⟩ := hrel
      have hxl : (l ++ [128] ++ List.replicate z 0).length = tail.size + 1 + z := by simp; omega
      obtain ⟨gr, m, c, rfl, hm⟩ := hR.form
      rw [hxl] at hm
      obtain rfl := hm
      have HR := Aside0.mk hR
      have HA := Aside0.mk hA
      have HQ := Aside0.mk hQ
      have HB := Aside0.mk hB
      have HXL := Aside0.mk hxl
      clear hR hA hQ hB hxl
      obtain ⟨m, hm⟩ : ∃ m, tail.size + 1 + z = m := ⟨_, rfl⟩
      rw [hm]
      rw [hm] at HR HXL
      have hq : (m : Int).tmod 64 = ((m % 64 : Nat) : Int) := by rw [Int.tmod_eq_emod_of_nonneg (by omega)]; omega
      by_cases hlt : z < ZZ
      · have hne : m % 64 ≠ 56 := by omega
        have hne1 : (((m % 64 : Nat) : Int) != 56) = true := bne_iff_ne.mpr (by omega)
        have hne2 : (((m % 64 : Nat) : Int) == 56) = false := beq_eq_false_iff_ne.mpr (by omega)
        go_wp2_with ((with_reducible refine gate_dst (N := 37) rfl ?_); at_builtin; refine RowB.append1 w.heap.size rfl (.tmp 35) (.tmp 36) 46 rfl Tryd.underlying46 info5 (.slice (some ⟨gr, 0, none⟩) m c) (l ++ [128] ++ List.replicate z 0) 0 rfl rfl ?eR ?eB ?eL ?_; (case eR => exact HR.out); (case eB => exact HB.out.size); (case eL => rw [HXL.out]; omega); intro v5 W5 hr5 hf5; have ha5 := HA.out.kept hf5.kept (HR.out.ne HA.out (by decide)); have hq5 := HQ.out.frm hf5 (HR.out.ne HQ.out (by decide)); have hb5 := HB.out.trans (hf5.below (B := w.heap.size) (fun k hk => (HR.out.ge hk).1) HB.out.size); have HR5 := Aside0.mk hr5; have HA5 := Aside0.mk ha5; have HQ5 := Aside0.mk hq5; have HB5 := Aside0.mk hb5; clear hr5 hf5 ha5 hq5 hb5)
        go_roundw
        case rel =>
          refine ⟨z + 1, by omega, ?_, HA5.out, HQ5.out, HB5.out⟩
          rw [List.replicate_succ', ← List.append_assoc]
          exact HR5.out
        case measure =>
          obtain ⟨gr5, m5, c5, rfl, hm5⟩ := HR5.out.form
          rw [List.length_append, HXL.out, List.length_singleton] at hm5
          show 200 - m5 < 200 - m
          omega
      · obtain rfl : z = ZZ := by omega
        have hne : m % 64 = 56 := by omega
        have hne1 : (((m % 64 : Nat) : Int) != 56) = false := by rw [hne]; rfl
        have hne2 : (((m % 64 : Nat) : Int) == 56) = true := by rw [hne]; rfl
        clear hlt hz
        go_wp2_with fail
        obtain ⟨pre, hpre⟩ : ∃ p, l ++ [128] ++ List.replicate z 0 = p := ⟨_, rfl⟩
        rw [hpre] at HR HXL
        have HPRE := Aside0.mk hpre
        clear hpre hq hne1 hne2
        go_loopw [4, 5] (fun v iv wr => ∃ i : Nat, i ≤ 8 ∧ iv = .int .i64 (7 - (i : Int)) ∧ RowB wr w.heap.size v (pre ++ lenB n i) ∧ Arr wr (w.heap.size + 1) 84 st0 ∧ ArrB wr w.heap.size (List.replicate 32 0) ∧ Below w.heap.size w wr) (fun _ iv _ => (intOf iv + 1).toNat)
        case atStart => exact ⟨0, Nat.zero_le _, rfl, by rw [show lenB n 0 = [] from rfl, List.append_nil]; exact HR.out, HA.out, HQ.out, HB.out⟩
        case round =>
          clear HR HA HQ HB
          obtain ⟨i, hi, rfl, hR, hA, hQ, hB⟩ := hrel
          have hxl : (pre ++ lenB n i).length = m + i := by rw [List.length_append, HXL.out]; simp [lenB]
          obtain ⟨gr, m2, c, rfl, hm2⟩ := hR.form
          rw [hxl] at hm2
          obtain rfl := hm2
          have hhg := (hB.block g (blk_lt HH.out)).trans HH.out
          have d9 : wr.cell? ⟨g, 9, none⟩ = some (.int .i64 n) := blk_cell hhg 9
          have HR := Aside0.mk hR
          have HA := Aside0.mk hA
          have HQ := Aside0.mk hQ
          have HB := Aside0.mk hB
          have HXL2 := Aside0.mk hxl
          clear hR hA hQ hB hxl hhg
          obtain ⟨m2, hm2⟩ : ∃ m2, m + i = m2 := ⟨_, rfl⟩
          rw [hm2]
          rw [hm2] at HR HXL2
          by_cases hlt : i < 8
          · obtain ⟨j, hj⟩ : ∃ j : Nat, 7 - i = j := ⟨_, rfl⟩
            have hji : 7 - (i : Int) = (j : Int) := by omega
            rw [hji]
            obtain ⟨e, he⟩ : ∃ e : Nat, 8 * j = e := ⟨_, rfl⟩
            have q0 : IntKind.i64.wrap (8 * (j : Int)) = (e : Int) := by rw [i64_in (by omega) (by omega)]; omega
            have q1 : IntKind.u64.wrap (n : Int) = (n : Int) := by rw [IntKind.wrap_u64]; omega
            have q2 : IntKind.u64.wrap ((n : Int) * 8) = ((n * 8 : Nat) : Int) := by rw [IntKind.wrap_u64]; omega
            have hle : lenB n (i + 1) = lenB n i ++ [(n : Int) * 8 / 2 ^ e % 256] := by
              unfold lenB
              rw [List.range_succ, List.map_append, List.map_singleton, hj, he]
              congr 2
            have HLE := Aside0.mk hle
            clear hle
            go_wp2_with ((with_reducible refine gate_dst (N := 54) rfl ?_); at_builtin; refine RowB.append1 w.heap.size rfl (.tmp 42) (.tmp 53) 46 rfl Tryd.underlying46 info5 (.slice (some ⟨gr, 0, none⟩) m2 c) (pre ++ lenB n i) ((n : Int) * 8 / 2 ^ e % 256) rfl rfl ?eR ?eB ?eL ?_; (case eR => exact HR.out); (case eB => exact HB.out.size); (case eL => rw [HXL2.out]; omega); intro v5 W5 hr5 hf5; have ha5 := HA.out.kept hf5.kept (HR.out.ne HA.out (by decide)); have hq5 := HQ.out.frm hf5 (HR.out.ne HQ.out (by decide)); have hb5 := HB.out.trans (hf5.below (B := w.heap.size) (fun k hk => (HR.out.ge hk).1) HB.out.size); have HR5 := Aside0.mk hr5; have HA5 := Aside0.mk ha5; have HQ5 := Aside0.mk hq5; have HB5 := Aside0.mk hb5; clear hr5 hf5 ha5 hq5 hb5)
            go_roundw
            case rel =>
              refine ⟨i + 1, by omega, by first | go_num | (rw [← hji]; go_num) | (simp; omega), ?_, HA5.out, HQ5.out, HB5.out⟩
              rw [HLE.out, ← List.append_assoc]
              exact HR5.out
            case measure => simp [intOf] <;> omega
          · obtain rfl : i = 8 := by omega
            clear hlt hi
            go_wp2_with fail
            obtain ⟨full, hfull⟩ : ∃ p, pre ++ lenB n 8 = p := ⟨_, rfl⟩
            rw [hfull] at HR HXL2
            have HFULL := Aside0.mk hfull
            have hm64 : m2 % 64 = 0 := by omega
            obtain ⟨nb, hnb⟩ : ∃ b : Nat, m2 / 64 = b := ⟨_, rfl⟩
            have hmb : m2 = 64 * nb := by omega
            have hby : Bytes full := by
              rw [← hfull, ← HPRE.out]
              intro x hx
              simp only [List.mem_append, List.mem_replicate, List.mem_singleton] at hx
              rcases hx with ((hx | rfl) | ⟨_, rfl⟩) | hx
              · rw [← HL.out] at hx
                unfold bytesOf at hx
                obtain ⟨b, _, rfl⟩ := List.mem_map.1 hx
                have := b.toNat_lt
                omega
              · omega
              · omega
              · unfold lenB at hx
                obtain ⟨j, _, rfl⟩ := List.mem_map.1 hx
                omega
            have HBY := Aside0.mk hby
            have HMB := Aside0.mk (And.intro hmb hm2)
            clear hfull hby d9 hnb hmb hm2 hm64
            go_loopw [6] (fun iv wr => ∃ k : Nat, k ≤ nb ∧ iv = .int .i64 ((64 * k : Nat) : Int) ∧ RowB wr w.heap.size (.slice (some ⟨gr, 0, none⟩) m2 c) full ∧ Arr wr (w.heap.size + 1) 84 (absN st0 full k) ∧ ArrB wr w.heap.size (List.replicate 32 0) ∧ Below w.heap.size w wr) (fun iv _ => m2 - (intOf iv).toNat)
            case atStart => exact ⟨0, Nat.zero_le _, rfl, HR.out, HA.out, HQ.out, HB.out⟩
            case round =>
              clear HR HA HQ HB
              obtain ⟨k, hk, rfl, hR, hA, hQ, hB⟩ := hrel
              obtain ⟨y0, y1, y2, y3, y4, y5, y6, y7, hy⟩ := list8 (absN_len st0 full hst0l k)
              rw [hy] at hA
              have HY := Aside0.mk hy
              have HR := Aside0.mk hR
              have HA := Aside0.mk hA
              have HQ := Aside0.mk hQ
              have HB := Aside0.mk hB
              clear hR hA hQ hB hy
              obtain ⟨o, ho⟩ : ∃ o : Nat, 64 * k = o := ⟨_, rfl⟩
              rw [ho]
              have hmb := HMB.out.1
              have hm2 := HMB.out.2
              by_cases hlt : k < nb
              · obtain ⟨o2, ho2⟩ : ∃ o2 : Nat, o + 64 = o2 := ⟨_, rfl⟩
                have hli : (o : Int) < (m2 : Int) := by omega
                have q0 : IntKind.i64.wrap ((o : Int) + 64) = (o2 : Int) := by rw [i64_in (by omega) (by omega)]; omega
                obtain ⟨gg, cap, hv, hcap, _, hC⟩ := HR.out.cellAt
                simp only [Value.slice.injEq, Option.some.injEq, Addr.mk.injEq] at hv
                obtain ⟨⟨e1, _⟩, e2, e3⟩ := hv
                subst e1 e3
                have hmc : m2 ≤ c := by omega
                have hmi : (m2 : Int) ≤ (c : Int) := by omega
                have hoi : (o2 : Int) ≤ (c : Int) := by omega
                have hoj : (o : Int) ≤ (o2 : Int) := by omega
                obtain ⟨ch, hch⟩ : ∃ ch, (full.drop o).take 64 = ch := ⟨_, rfl⟩
                have hchl : ch.length = 64 := by rw [← hch, List.length_take, List.length_drop]; omega
                have hchb : Bytes ch := by rw [← hch]; intro x hx; exact HBY.out x (List.mem_of_mem_drop (List.mem_of_mem_take hx))
                have kc : (convert 46 9 (.slice (some ⟨gr, o, none⟩) (o2 - o) (c - o))).run Tryd.prog wr.drew = .ok (.string (strOfNums ch)) wr.drew := by
                  refine Kd.C_string (P := Tryd.prog) Tryd.underlying46 Tryd.underlying5 Tryd.underlying9 (show KB.C wr.drew (some ⟨gr, o, none⟩) (o2 - o) ch from ?_)
                  refine Kd.C_of_reads (d := 0) ⟨by omega, by omega, fun _ => ⟨_, rfl, fun j hj => ?_⟩⟩
                  rw [show (⟨gr, o, none⟩ : Addr).add j = ⟨gr, o + j, none⟩ by unfold Addr.add; split <;> simp_all]
                  refine hC (o + j) _ ?_
                  have hj2 : o + j < full.length := by omega
                  rw [← hch]
                  simp [hj2, show j < 64 by omega]
                have hkr : KT wr := HK.out.below HB.out HK.out.1
                have hbc := block_calls y0 y1 y2 y3 y4 y5 y6 y7 (strOfNums ch) (by rw [← hchl, ← bytesOf_length, bytesOf_nums _ hchb]) wr.drew (show KT wr.drew from hkr)
                rw [bytesOf_nums _ hchb] at hbc
                have HBC := Aside0.mk hbc
                have HCH := Aside0.mk hch
                clear hbc hch hchl hchb hC e2 hkr hmb hm2 hcap
                have c0 : wr.drew.cell? ⟨w.heap.size + 1, 0, none⟩ = some (.int .u32 y0) := HA.out.drew.cell 0 (Nat.lt_of_lt_of_le (show 0 < 8 by decide) (Nat.le_refl 8))
                have c1 : wr.drew.cell? ⟨w.heap.size + 1, 1, none⟩ = some (.int .u32 y1) := HA.out.drew.cell 1 (Nat.lt_of_lt_of_le (show 1 < 8 by decide) (Nat.le_refl 8))
                have c2 : wr.drew.cell? ⟨w.heap.size + 1, 2, none⟩ = some (.int .u32 y2) := HA.out.drew.cell 2 (Nat.lt_of_lt_of_le (show 2 < 8 by decide) (Nat.le_refl 8))
                have c3 : wr.drew.cell? ⟨w.heap.size + 1, 3, none⟩ = some (.int .u32 y3) := HA.out.drew.cell 3 (Nat.lt_of_lt_of_le (show 3 < 8 by decide) (Nat.le_refl 8))
                have c4 : wr.drew.cell? ⟨w.heap.size + 1, 4, none⟩ = some (.int .u32 y4) := HA.out.drew.cell 4 (Nat.lt_of_lt_of_le (show 4 < 8 by decide) (Nat.le_refl 8))
                have c5 : wr.drew.cell? ⟨w.heap.size + 1, 5, none⟩ = some (.int .u32 y5) := HA.out.drew.cell 5 (Nat.lt_of_lt_of_le (show 5 < 8 by decide) (Nat.le_refl 8))
                have c6 : wr.drew.cell? ⟨w.heap.size + 1, 6, none⟩ = some (.int .u32 y6) := HA.out.drew.cell 6 (Nat.lt_of_lt_of_le (show 6 < 8 by decide) (Nat.le_refl 8))
                have c7 : wr.drew.cell? ⟨w.heap.size + 1, 7, none⟩ = some (.int .u32 y7) := HA.out.drew.cell 7 (Nat.lt_of_lt_of_le (show 7 < 8 by decide) (Nat.le_refl 8))
                go_wp2_with fail
                go_region_with (go_at_call 75; refine HBC.out.mono ?_; rintro e w9 ⟨⟨r0, r1, r2, r3, r4, r5, r6, r7, hr, rfl⟩, B9⟩; have k9 := HA.out.drew.below B9 HA.out.drew.lt; have z0 : w9.cell? ⟨w.heap.size + 1, 0, none⟩ = some (.int .u32 y0) := k9.cell 0 (Nat.lt_of_lt_of_le (show 0 < 8 by decide) (Nat.le_refl 8)); have f0 : w9.frozen? ⟨w.heap.size + 1, 0, none⟩ = false := k9.frozen 0; have z1 : w9.cell? ⟨w.heap.size + 1, 1, none⟩ = some (.int .u32 y1) := k9.cell 1 (Nat.lt_of_lt_of_le (show 1 < 8 by decide) (Nat.le_refl 8)); have f1 : w9.frozen? ⟨w.heap.size + 1, 1, none⟩ = false := k9.frozen 1; have z2 : w9.cell? ⟨w.heap.size + 1, 2, none⟩ = some (.int .u32 y2) := k9.cell 2 (Nat.lt_of_lt_of_le (show 2 < 8 by decide) (Nat.le_refl 8)); have f2 : w9.frozen? ⟨w.heap.size + 1, 2, none⟩ = false := k9.frozen 2; have z3 : w9.cell? ⟨w.heap.size + 1, 3, none⟩ = some (.int .u32 y3) := k9.cell 3 (Nat.lt_of_lt_of_le (show 3 < 8 by decide) (Nat.le_refl 8)); have f3 : w9.frozen? ⟨w.heap.size + 1, 3, none⟩ = false := k9.frozen 3; have z4 : w9.cell? ⟨w.heap.size + 1, 4, none⟩ = some (.int .u32 y4) := k9.cell 4 (Nat.lt_of_lt_of_le (show 4 < 8 by decide) (Nat.le_refl 8)); have f4 : w9.frozen? ⟨w.heap.size + 1, 4, none⟩ = false := k9.frozen 4; have z5 : w9.cell? ⟨w.heap.size + 1, 5, none⟩ = some (.int .u32 y5) := k9.cell 5 (Nat.lt_of_lt_of_le (show 5 < 8 by decide) (Nat.le_refl 8)); have f5 : w9.frozen? ⟨w.heap.size + 1, 5, none⟩ = false := k9.frozen 5; have z6 : w9.cell? ⟨w.heap.size + 1, 6, none⟩ = some (.int .u32 y6) := k9.cell 6 (Nat.lt_of_lt_of_le (show 6 < 8 by decide) (Nat.le_refl 8)); have f6 : w9.frozen? ⟨w.heap.size + 1, 6, none⟩ = false := k9.frozen 6; have z7 : w9.cell? ⟨w.heap.size + 1, 7, none⟩ = some (.int .u32 y7) := k9.cell 7 (Nat.lt_of_lt_of_le (show 7 < 8 by decide) (Nat.le_refl 8)); have f7 : w9.frozen? ⟨w.heap.size + 1, 7, none⟩ = false := k9.frozen 7)
                all_goals
                  have F9 := Frm.of_fresh (show Below wr.heap.size wr w9 from ⟨B9.os, B9.tape, B9.output, B9.size, B9.block⟩) (fun _ => False)
                  have HR9 := Aside0.mk (HR.out.frm F9 (fun _ _ h => h))
                  have HQ9 := Aside0.mk (HQ.out.frm F9 (fun h => h))
                  have HB9 := Aside0.mk (HB.out.trans (F9.below (B := w.heap.size) (fun _ h => h.elim) HB.out.size))
                  have HA9 := Aside0.mk k9
                  have HRR := Aside0.mk hr
                  clear F9 k9 B9 hr c0 c1 c2 c3 c4 c5 c6 c7 z0 z1 z2 z3 z4 z5 z6 z7 f0 f1 f2 f3 f4 f5 f6 f7 kc
                  go_wp2_with fail
                  go_roundw
                  case rel =>
                    have hmb := HMB.out.1
                    (repeat apply Exists.intro)
                    refine ⟨?_, rfl⟩
                    refine ⟨k + 1, by omega, by rw [show 64 * (k + 1) = o2 by omega], ?_, ?_, ?_, ?_⟩
                    · exact HR9.out.frm (((((((((Frm.refl w9 (fun k => k = w.heap.size + 1)).setCell (p := ⟨w.heap.size + 1, 0, none⟩) (.inl rfl) _).setCell (p := ⟨w.heap.size + 1, 1, none⟩) (.inl rfl) _).setCell (p := ⟨w.heap.size + 1, 2, none⟩) (.inl rfl) _).setCell (p := ⟨w.heap.size + 1, 3, none⟩) (.inl rfl) _).setCell (p := ⟨w.heap.size + 1, 4, none⟩) (.inl rfl) _).setCell (p := ⟨w.heap.size + 1, 5, none⟩) (.inl rfl) _).setCell (p := ⟨w.heap.size + 1, 6, none⟩) (.inl rfl) _).setCell (p := ⟨w.heap.size + 1, 7, none⟩) (.inl rfl) _) (fun k hk e => HR9.out.ne HA9.out (by decide) (e ▸ hk))
                    · have e2 : absN st0 full (k + 1) = blkS (absN st0 full k) ((full.drop (64 * k)).take 64) := rfl
                      rw [e2, HY.out, ho, HCH.out, HRR.out]
                      exact HA9.out.put8 rfl _ _ _ _ _ _ _ _
                    · exact ((((((((HQ9.out.far (w.heap.size + 1) 0 _ (by omega)).far (w.heap.size + 1) 1 _ (by omega)).far (w.heap.size + 1) 2 _ (by omega)).far (w.heap.size + 1) 3 _ (by omega)).far (w.heap.size + 1) 4 _ (by omega)).far (w.heap.size + 1) 5 _ (by omega)).far (w.heap.size + 1) 6 _ (by omega)).far (w.heap.size + 1) 7 _ (by omega))
                    · exact put8_below HB9.out (Nat.le_succ _) _ _ _ _ _ _ _ _
                  case measure => simp [intOf]; omega
              · obtain rfl : nb = k := by omega
                have hli : ¬ (o : Int) < (m2 : Int) := by omega
                clear hlt hk hmb hm2
                have c0 : ∀ o, (wr.alloc o).cell? ⟨w.heap.size + 1, 0, none⟩ = some (.int .u32 y0) := fun o => (HA.out.alloc o).cell 0 (Nat.lt_of_lt_of_le (show 0 < 8 by decide) (Nat.le_refl 8))
                have c1 : ∀ o, (wr.alloc o).cell? ⟨w.heap.size + 1, 1, none⟩ = some (.int .u32 y1) := fun o => (HA.out.alloc o).cell 1 (Nat.lt_of_lt_of_le (show 1 < 8 by decide) (Nat.le_refl 8))
                have c2 : ∀ o, (wr.alloc o).cell? ⟨w.heap.size + 1, 2, none⟩ = some (.int .u32 y2) := fun o => (HA.out.alloc o).cell 2 (Nat.lt_of_lt_of_le (show 2 < 8 by decide) (Nat.le_refl 8))
                have c3 : ∀ o, (wr.alloc o).cell? ⟨w.heap.size + 1, 3, none⟩ = some (.int .u32 y3) := fun o => (HA.out.alloc o).cell 3 (Nat.lt_of_lt_of_le (show 3 < 8 by decide) (Nat.le_refl 8))
                have c4 : ∀ o, (wr.alloc o).cell? ⟨w.heap.size + 1, 4, none⟩ = some (.int .u32 y4) := fun o => (HA.out.alloc o).cell 4 (Nat.lt_of_lt_of_le (show 4 < 8 by decide) (Nat.le_refl 8))
                have c5 : ∀ o, (wr.alloc o).cell? ⟨w.heap.size + 1, 5, none⟩ = some (.int .u32 y5) := fun o => (HA.out.alloc o).cell 5 (Nat.lt_of_lt_of_le (show 5 < 8 by decide) (Nat.le_refl 8))
                have c6 : ∀ o, (wr.alloc o).cell? ⟨w.heap.size + 1, 6, none⟩ = some (.int .u32 y6) := fun o => (HA.out.alloc o).cell 6 (Nat.lt_of_lt_of_le (show 6 < 8 by decide) (Nat.le_refl 8))
                have c7 : ∀ o, (wr.alloc o).cell? ⟨w.heap.size + 1, 7, none⟩ = some (.int .u32 y7) := fun o => (HA.out.alloc o).cell 7 (Nat.lt_of_lt_of_le (show 7 < 8 by decide) (Nat.le_refl 8))
                go_wp2_with fail
                clear c0 c1 c2 c3 c4 c5 c6 c7
                have A5 := ArrB.new wr (List.replicate 32 0)
                have Q5 := HQ.out.alloc (.cells ((List.replicate 32 (0 : Int)).map (Value.int .u8)).toArray 48)
                have B5 : Below w.heap.size w (wr.alloc (.cells ((List.replicate 32 (0 : Int)).map (Value.int .u8)).toArray 48)) := below_alloc HB.out _
                have hqq : w.heap.size < wr.heap.size := by have := HQ.out.lt; exact this
                have e0 : ((List.replicate 32 (0 : Int)).map (Value.int .u8)).toArray = #[.int .u8 0, .int .u8 0, .int .u8 0, .int .u8 0, .int .u8 0, .int .u8 0, .int .u8 0, .int .u8 0, .int .u8 0, .int .u8 0, .int .u8 0, .int .u8 0, .int .u8 0, .int .u8 0, .int .u8 0, .int .u8 0, .int .u8 0, .int .u8 0, .int .u8 0, .int .u8 0, .int .u8 0, .int .u8 0, .int .u8 0, .int .u8 0, .int .u8 0, .int .u8 0, .int .u8 0, .int .u8 0, .int .u8 0, .int .u8 0, .int .u8 0, .int .u8 0] := rfl
                rw [e0] at A5 Q5 B5
                obtain ⟨w5, hw5⟩ : ∃ w5, wr.alloc (.cells #[.int .u8 0, .int .u8 0, .int .u8 0, .int .u8 0, .int .u8 0, .int .u8 0, .int .u8 0, .int .u8 0, .int .u8 0, .int .u8 0, .int .u8 0, .int .u8 0, .int .u8 0, .int .u8 0, .int .u8 0, .int .u8 0, .int .u8 0, .int .u8 0, .int .u8 0, .int .u8 0, .int .u8 0, .int .u8 0, .int .u8 0, .int .u8 0, .int .u8 0, .int .u8 0, .int .u8 0, .int .u8 0, .int .u8 0, .int .u8 0, .int .u8 0, .int .u8 0] 48) = w5 := ⟨_, rfl⟩
                rw [hw5] at A5 Q5 B5
                rw [hw5]
                obtain ⟨q, hq⟩ : ∃ q, wr.heap.size = q := ⟨_, rfl⟩
                rw [hq] at A5 hqq
                rw [hq]
                have HA5 := Aside0.mk A5
                have HQ5 := Aside0.mk Q5
                have HB5 := Aside0.mk B5
                clear A5 Q5 B5 e0 hw5 hq HR HA HQ HB
                obtain ⟨ys, hys⟩ : ∃ ys, [y0, y1, y2, y3, y4, y5, y6, y7] = ys := ⟨_, rfl⟩
                have HYS := Aside0.mk hys
                clear hys
                go_loopw [8, 9, 70] (fun _ _ iv wr => ∃ k : Nat, k ≤ 8 ∧ iv = .int .i64 k ∧ ArrB wr q (digK ys k) ∧ ArrB wr w.heap.size (List.replicate 32 0) ∧ Below w.heap.size w wr) (fun _ _ iv _ => 8 - (intOf iv).toNat)
                case atStart => exact ⟨0, Nat.zero_le _, rfl, HA5.out, HQ5.out, HB5.out⟩
                case round =>
                  clear HA5 HQ5 HB5
                  obtain ⟨k, hk, rfl, hA, hQ, hB⟩ := hrel
                  have HA := Aside0.mk hA
                  have HQ := Aside0.mk hQ
                  have HB := Aside0.mk hB
                  clear hA hQ hB
                  by_cases hlt : k < 8
                  · have hk8 : k = 0 ∨ k = 1 ∨ k = 2 ∨ k = 3 ∨ k = 4 ∨ k = 5 ∨ k = 6 ∨ k = 7 := by omega
                    rw [← HYS.out] at HA
                    rcases hk8 with rfl | rfl | rfl | rfl | rfl | rfl | rfl | rfl
                    · have c0 : wr.cell? ⟨q, 0, none⟩ = some (.int .u8 0) := HA.out.cell 0 (Nat.lt_of_lt_of_le (show 0 < 32 by decide) (Nat.le_refl 32))
                      have f0 : wr.frozen? ⟨q, 0, none⟩ = false := HA.out.frozen 0
                      have c1 : wr.cell? ⟨q, 1, none⟩ = some (.int .u8 0) := HA.out.cell 1 (Nat.lt_of_lt_of_le (show 1 < 32 by decide) (Nat.le_refl 32))
                      have f1 : wr.frozen? ⟨q, 1, none⟩ = false := HA.out.frozen 1
                      have c2 : wr.cell? ⟨q, 2, none⟩ = some (.int .u8 0) := HA.out.cell 2 (Nat.lt_of_lt_of_le (show 2 < 32 by decide) (Nat.le_refl 32))
                      have f2 : wr.frozen? ⟨q, 2, none⟩ = false := HA.out.frozen 2
                      have c3 : wr.cell? ⟨q, 3, none⟩ = some (.int .u8 0) := HA.out.cell 3 (Nat.lt_of_lt_of_le (show 3 < 32 by decide) (Nat.le_refl 32))
                      have f3 : wr.frozen? ⟨q, 3, none⟩ = false := HA.out.frozen 3
                      have xk : ∀ w : World, (Instr.index 84 (.agg #[.int .u32 y0, .int .u32 y1, .int .u32 y2, .int .u32 y3, .int .u32 y4, .int .u32 y5, .int .u32 y6, .int .u32 y7]) (.int .i64 0)).run Tryd.prog w = .ok (.int .u32 y0) w := fun _ => by kernel_rfl
                      go_wp2_with fail
                      go_roundw
                      case rel =>
                        refine ⟨1, by omega, rfl, ?_, ((((HQ.out.far q 0 _ (by omega)).far q 1 _ (by omega)).far q 2 _ (by omega)).far q 3 _ (by omega)), Below.setCell (Below.setCell (Below.setCell (Below.setCell HB.out (p := ⟨q, 0, none⟩) (Nat.le_of_lt hqq) _) (p := ⟨q, 1, none⟩) (Nat.le_of_lt hqq) _) (p := ⟨q, 2, none⟩) (Nat.le_of_lt hqq) _) (p := ⟨q, 3, none⟩) (Nat.le_of_lt hqq) _⟩
                        rw [← HYS.out]
                        exact ((((HA.out.set 0 _).set 1 _).set 2 _).set 3 _)
                      case measure => simp [intOf]
                    · have c4 : wr.cell? ⟨q, 4, none⟩ = some (.int .u8 0) := HA.out.cell 4 (Nat.lt_of_lt_of_le (show 4 < 32 by decide) (Nat.le_refl 32))
                      have f4 : wr.frozen? ⟨q, 4, none⟩ = false := HA.out.frozen 4
                      have c5 : wr.cell? ⟨q, 5, none⟩ = some (.int .u8 0) := HA.out.cell 5 (Nat.lt_of_lt_of_le (show 5 < 32 by decide) (Nat.le_refl 32))
                      have f5 : wr.frozen? ⟨q, 5, none⟩ = false := HA.out.frozen 5
                      have c6 : wr.cell? ⟨q, 6, none⟩ = some (.int .u8 0) := HA.out.cell 6 (Nat.lt_of_lt_of_le (show 6 < 32 by decide) (Nat.le_refl 32))
                      have f6 : wr.frozen? ⟨q, 6, none⟩ = false := HA.out.frozen 6
                      have c7 : wr.cell? ⟨q, 7, none⟩ = some (.int .u8 0) := HA.out.cell 7 (Nat.lt_of_lt_of_le (show 7 < 32 by decide) (Nat.le_refl 32))
                      have f7 : wr.frozen? ⟨q, 7, none⟩ = false := HA.out.frozen 7
                      have xk : ∀ w : World, (Instr.index 84 (.agg #[.int .u32 y0, .int .u32 y1, .int .u32 y2, .int .u32 y3, .int .u32 y4, .int .u32 y5, .int .u32 y6, .int .u32 y7]) (.int .i64 1)).run Tryd.prog w = .ok (.int .u32 y1) w := fun _ => by kernel_rfl
                      go_wp2_with fail
                      go_roundw
                      case rel =>
                        refine ⟨2, by omega, rfl, ?_, ((((HQ.out.far q 4 _ (by omega)).far q 5 _ (by omega)).far q 6 _ (by omega)).far q 7 _ (by omega)), Below.setCell (Below.setCell (Below.setCell (Below.setCell HB.out (p := ⟨q, 4, none⟩) (Nat.le_of_lt hqq) _) (p := ⟨q, 5, none⟩) (Nat.le_of_lt hqq) _) (p := ⟨q, 6, none⟩) (Nat.le_of_lt hqq) _) (p := ⟨q, 7, none⟩) (Nat.le_of_lt hqq) _⟩
                        rw [← HYS.out]
                        exact ((((HA.out.set 4 _).set 5 _).set 6 _).set 7 _)
                      case measure => simp [intOf]
                    · have c8 : wr.cell? ⟨q, 8, none⟩ = some (.int .u8 0) := HA.out.cell 8 (Nat.lt_of_lt_of_le (show 8 < 32 by decide) (Nat.le_refl 32))
                      have f8 : wr.frozen? ⟨q, 8, none⟩ = false := HA.out.frozen 8
                      have c9 : wr.cell? ⟨q, 9, none⟩ = some (.int .u8 0) := HA.out.cell 9 (Nat.lt_of_lt_of_le (show 9 < 32 by decide) (Nat.le_refl 32))
                      have f9 : wr.frozen? ⟨q, 9, none⟩ = false := HA.out.frozen 9
                      have c10 : wr.cell? ⟨q, 10, none⟩ = some (.int .u8 0) := HA.out.cell 10 (Nat.lt_of_lt_of_le (show 10 < 32 by decide) (Nat.le_refl 32))
                      have f10 : wr.frozen? ⟨q, 10, none⟩ = false := HA.out.frozen 10
                      have c11 : wr.cell? ⟨q, 11, none⟩ = some (.int .u8 0) := HA.out.cell 11 (Nat.lt_of_lt_of_le (show 11 < 32 by decide) (Nat.le_refl 32))
                      have f11 : wr.frozen? ⟨q, 11, none⟩ = false := HA.out.frozen 11
                      have xk : ∀ w : World, (Instr.index 84 (.agg #[.int .u32 y0, .int .u32 y1, .int .u32 y2, .int .u32 y3, .int .u32 y4, .int .u32 y5, .int .u32 y6, .int .u32 y7]) (.int .i64 2)).run Tryd.prog w = .ok (.int .u32 y2) w := fun _ => by kernel_rfl
                      go_wp2_with fail
                      go_roundw
                      case rel =>
                        refine ⟨3, by omega, rfl, ?_, ((((HQ.out.far q 8 _ (by omega)).far q 9 _ (by omega)).far q 10 _ (by omega)).far q 11 _ (by omega)), Below.setCell (Below.setCell (Below.setCell (Below.setCell HB.out (p := ⟨q, 8, none⟩) (Nat.le_of_lt hqq) _) (p := ⟨q, 9, none⟩) (Nat.le_of_lt hqq) _) (p := ⟨q, 10, none⟩) (Nat.le_of_lt hqq) _) (p := ⟨q, 11, none⟩) (Nat.le_of_lt hqq) _⟩
                        rw [← HYS.out]
                        exact ((((HA.out.set 8 _).set 9 _).set 10 _).set 11 _)
                      case measure => simp [intOf]
                    · have c12 : wr.cell? ⟨q, 12, none⟩ = some (.int .u8 0) := HA.out.cell 12 (Nat.lt_of_lt_of_le (show 12 < 32 by decide) (Nat.le_refl 32))
                      have f12 : wr.frozen? ⟨q, 12, none⟩ = false := HA.out.frozen 12
                      have c13 : wr.cell? ⟨q, 13, none⟩ = some (.int .u8 0) := HA.out.cell 13 (Nat.lt_of_lt_of_le (show 13 < 32 by decide) (Nat.le_refl 32))
                      have f13 : wr.frozen? ⟨q, 13, none⟩ = false := HA.out.frozen 13
                      have c14 : wr.cell? ⟨q, 14, none⟩ = some (.int .u8 0) := HA.out.cell 14 (Nat.lt_of_lt_of_le (show 14 < 32 by decide) (Nat.le_refl 32))
                      have f14 : wr.frozen? ⟨q, 14, none⟩ = false := HA.out.frozen 14
                      have c15 : wr.cell? ⟨q, 15, none⟩ = some (.int .u8 0) := HA.out.cell 15 (Nat.lt_of_lt_of_le (show 15 < 32 by decide) (Nat.le_refl 32))
                      have f15 : wr.frozen? ⟨q, 15, none⟩ = false := HA.out.frozen 15
                      have xk : ∀ w : World, (Instr.index 84 (.agg #[.int .u32 y0, .int .u32 y1, .int .u32 y2, .int .u32 y3, .int .u32 y4, .int .u32 y5, .int .u32 y6, .int .u32 y7]) (.int .i64 3)).run Tryd.prog w = .ok (.int .u32 y3) w := fun _ => by kernel_rfl
                      go_wp2_with fail
                      go_roundw
                      case rel =>
                        refine ⟨4, by omega, rfl, ?_, ((((HQ.out.far q 12 _ (by omega)).far q 13 _ (by omega)).far q 14 _ (by omega)).far q 15 _ (by omega)), Below.setCell (Below.setCell (Below.setCell (Below.setCell HB.out (p := ⟨q, 12, none⟩) (Nat.le_of_lt hqq) _) (p := ⟨q, 13, none⟩) (Nat.le_of_lt hqq) _) (p := ⟨q, 14, none⟩) (Nat.le_of_lt hqq) _) (p := ⟨q, 15, none⟩) (Nat.le_of_lt hqq) _⟩
                        rw [← HYS.out]
                        exact ((((HA.out.set 12 _).set 13 _).set 14 _).set 15 _)
                      case measure => simp [intOf]
                    · have c16 : wr.cell? ⟨q, 16, none⟩ = some (.int .u8 0) := HA.out.cell 16 (Nat.lt_of_lt_of_le (show 16 < 32 by decide) (Nat.le_refl 32))
                      have f16 : wr.frozen? ⟨q, 16, none⟩ = false := HA.out.frozen 16
                      have c17 : wr.cell? ⟨q, 17, none⟩ = some (.int .u8 0) := HA.out.cell 17 (Nat.lt_of_lt_of_le (show 17 < 32 by decide) (Nat.le_refl 32))
                      have f17 : wr.frozen? ⟨q, 17, none⟩ = false := HA.out.frozen 17
                      have c18 : wr.cell? ⟨q, 18, none⟩ = some (.int .u8 0) := HA.out.cell 18 (Nat.lt_of_lt_of_le (show 18 < 32 by decide) (Nat.le_refl 32))
                      have f18 : wr.frozen? ⟨q, 18, none⟩ = false := HA.out.frozen 18
                      have c19 : wr.cell? ⟨q, 19, none⟩ = some (.int .u8 0) := HA.out.cell 19 (Nat.lt_of_lt_of_le (show 19 < 32 by decide) (Nat.le_refl 32))
                      have f19 : wr.frozen? ⟨q, 19, none⟩ = false := HA.out.frozen 19
                      have xk : ∀ w : World, (Instr.index 84 (.agg #[.int .u32 y0, .int .u32 y1, .int .u32 y2, .int .u32 y3, .int .u32 y4, .int .u32 y5, .int .u32 y6, .int .u32 y7]) (.int .i64 4)).run Tryd.prog w = .ok (.int .u32 y4) w := fun _ => by kernel_rfl
                      go_wp2_with fail
                      go_roundw
                      case rel =>
                        refine ⟨5, by omega, rfl, ?_, ((((HQ.out.far q 16 _ (by omega)).far q 17 _ (by omega)).far q 18 _ (by omega)).far q 19 _ (by omega)), Below.setCell (Below.setCell (Below.setCell (Below.setCell HB.out (p := ⟨q, 16, none⟩) (Nat.le_of_lt hqq) _) (p := ⟨q, 17, none⟩) (Nat.le_of_lt hqq) _) (p := ⟨q, 18, none⟩) (Nat.le_of_lt hqq) _) (p := ⟨q, 19, none⟩) (Nat.le_of_lt hqq) _⟩
                        rw [← HYS.out]
                        exact ((((HA.out.set 16 _).set 17 _).set 18 _).set 19 _)
                      case measure => simp [intOf]
                    · have c20 : wr.cell? ⟨q, 20, none⟩ = some (.int .u8 0) := HA.out.cell 20 (Nat.lt_of_lt_of_le (show 20 < 32 by decide) (Nat.le_refl 32))
                      have f20 : wr.frozen? ⟨q, 20, none⟩ = false := HA.out.frozen 20
                      have c21 : wr.cell? ⟨q, 21, none⟩ = some (.int .u8 0) := HA.out.cell 21 (Nat.lt_of_lt_of_le (show 21 < 32 by decide) (Nat.le_refl 32))
                      have f21 : wr.frozen? ⟨q, 21, none⟩ = false := HA.out.frozen 21
                      have c22 : wr.cell? ⟨q, 22, none⟩ = some (.int .u8 0) := HA.out.cell 22 (Nat.lt_of_lt_of_le (show 22 < 32 by decide) (Nat.le_refl 32))
                      have f22 : wr.frozen? ⟨q, 22, none⟩ = false := HA.out.frozen 22
                      have c23 : wr.cell? ⟨q, 23, none⟩ = some (.int .u8 0) := HA.out.cell 23 (Nat.lt_of_lt_of_le (show 23 < 32 by decide) (Nat.le_refl 32))
                      have f23 : wr.frozen? ⟨q, 23, none⟩ = false := HA.out.frozen 23
                      have xk : ∀ w : World, (Instr.index 84 (.agg #[.int .u32 y0, .int .u32 y1, .int .u32 y2, .int .u32 y3, .int .u32 y4, .int .u32 y5, .int .u32 y6, .int .u32 y7]) (.int .i64 5)).run Tryd.prog w = .ok (.int .u32 y5) w := fun _ => by kernel_rfl
                      go_wp2_with fail
                      go_roundw
                      case rel =>
                        refine ⟨6, by omega, rfl, ?_, ((((HQ.out.far q 20 _ (by omega)).far q 21 _ (by omega)).far q 22 _ (by omega)).far q 23 _ (by omega)), Below.setCell (Below.setCell (Below.setCell (Below.setCell HB.out (p := ⟨q, 20, none⟩) (Nat.le_of_lt hqq) _) (p := ⟨q, 21, none⟩) (Nat.le_of_lt hqq) _) (p := ⟨q, 22, none⟩) (Nat.le_of_lt hqq) _) (p := ⟨q, 23, none⟩) (Nat.le_of_lt hqq) _⟩
                        rw [← HYS.out]
                        exact ((((HA.out.set 20 _).set 21 _).set 22 _).set 23 _)
                      case measure => simp [intOf]
                    · have c24 : wr.cell? ⟨q, 24, none⟩ = some (.int .u8 0) := HA.out.cell 24 (Nat.lt_of_lt_of_le (show 24 < 32 by decide) (Nat.le_refl 32))
                      have f24 : wr.frozen? ⟨q, 24, none⟩ = false := HA.out.frozen 24
                      have c25 : wr.cell? ⟨q, 25, none⟩ = some (.int .u8 0) := HA.out.cell 25 (Nat.lt_of_lt_of_le (show 25 < 32 by decide) (Nat.le_refl 32))
                      have f25 : wr.frozen? ⟨q, 25, none⟩ = false := HA.out.frozen 25
                      have c26 : wr.cell? ⟨q, 26, none⟩ = some (.int .u8 0) := HA.out.cell 26 (Nat.lt_of_lt_of_le (show 26 < 32 by decide) (Nat.le_refl 32))
                      have f26 : wr.frozen? ⟨q, 26, none⟩ = false := HA.out.frozen 26
                      have c27 : wr.cell? ⟨q, 27, none⟩ = some (.int .u8 0) := HA.out.cell 27 (Nat.lt_of_lt_of_le (show 27 < 32 by decide) (Nat.le_refl 32))
                      have f27 : wr.frozen? ⟨q, 27, none⟩ = false := HA.out.frozen 27
                      have xk : ∀ w : World, (Instr.index 84 (.agg #[.int .u32 y0, .int .u32 y1, .int .u32 y2, .int .u32 y3, .int .u32 y4, .int .u32 y5, .int .u32 y6, .int .u32 y7]) (.int .i64 6)).run Tryd.prog w = .ok (.int .u32 y6) w := fun _ => by kernel_rfl
                      go_wp2_with fail
                      go_roundw
                      case rel =>
                        refine ⟨7, by omega, rfl, ?_, ((((HQ.out.far q 24 _ (by omega)).far q 25 _ (by omega)).far q 26 _ (by omega)).far q 27 _ (by omega)), Below.setCell (Below.setCell (Below.setCell (Below.setCell HB.out (p := ⟨q, 24, none⟩) (Nat.le_of_lt hqq) _) (p := ⟨q, 25, none⟩) (Nat.le_of_lt hqq) _) (p := ⟨q, 26, none⟩) (Nat.le_of_lt hqq) _) (p := ⟨q, 27, none⟩) (Nat.le_of_lt hqq) _⟩
                        rw [← HYS.out]
                        exact ((((HA.out.set 24 _).set 25 _).set 26 _).set 27 _)
                      case measure => simp [intOf]
                    · have c28 : wr.cell? ⟨q, 28, none⟩ = some (.int .u8 0) := HA.out.cell 28 (Nat.lt_of_lt_of_le (show 28 < 32 by decide) (Nat.le_refl 32))
                      have f28 : wr.frozen? ⟨q, 28, none⟩ = false := HA.out.frozen 28
                      have c29 : wr.cell? ⟨q, 29, none⟩ = some (.int .u8 0) := HA.out.cell 29 (Nat.lt_of_lt_of_le (show 29 < 32 by decide) (Nat.le_refl 32))
                      have f29 : wr.frozen? ⟨q, 29, none⟩ = false := HA.out.frozen 29
                      have c30 : wr.cell? ⟨q, 30, none⟩ = some (.int .u8 0) := HA.out.cell 30 (Nat.lt_of_lt_of_le (show 30 < 32 by decide) (Nat.le_refl 32))
                      have f30 : wr.frozen? ⟨q, 30, none⟩ = false := HA.out.frozen 30
                      have c31 : wr.cell? ⟨q, 31, none⟩ = some (.int .u8 0) := HA.out.cell 31 (Nat.lt_of_lt_of_le (show 31 < 32 by decide) (Nat.le_refl 32))
                      have f31 : wr.frozen? ⟨q, 31, none⟩ = false := HA.out.frozen 31
                      have xk : ∀ w : World, (Instr.index 84 (.agg #[.int .u32 y0, .int .u32 y1, .int .u32 y2, .int .u32 y3, .int .u32 y4, .int .u32 y5, .int .u32 y6, .int .u32 y7]) (.int .i64 7)).run Tryd.prog w = .ok (.int .u32 y7) w := fun _ => by kernel_rfl
                      go_wp2_with fail
                      go_roundw
                      case rel =>
                        refine ⟨8, by omega, rfl, ?_, ((((HQ.out.far q 28 _ (by omega)).far q 29 _ (by omega)).far q 30 _ (by omega)).far q 31 _ (by omega)), Below.setCell (Below.setCell (Below.setCell (Below.setCell HB.out (p := ⟨q, 28, none⟩) (Nat.le_of_lt hqq) _) (p := ⟨q, 29, none⟩) (Nat.le_of_lt hqq) _) (p := ⟨q, 30, none⟩) (Nat.le_of_lt hqq) _) (p := ⟨q, 31, none⟩) (Nat.le_of_lt hqq) _⟩
                        rw [← HYS.out]
                        exact ((((HA.out.set 28 _).set 29 _).set 30 _).set 31 _)
                      case measure => simp [intOf]
                  · obtain rfl : k = 8 := by omega
                    clear hlt hk
                    have hd8 : digK ys 8 = digS ys := by
                      unfold digK
                      rw [← HYS.out]
                      rfl
                    rw [hd8] at HA
                    have hdl : ((digS ys).map (Value.int .u8)).toArray.size = 32 := by rw [← HYS.out]; rfl
                    have hone : ((digS ys).map (Value.int .u8)).toArray.all (·.oneCell') = true := by
                      rw [List.all_toArray]
                      refine List.all_eq_true.2 fun v hv => ?_
                      obtain ⟨x, _, rfl⟩ := List.mem_map.1 hv
                      rfl
                    obtain ⟨dd, hdd⟩ : ∃ d, ((digS ys).map (Value.int .u8)).toArray = d := ⟨_, rfl⟩
                    have hA48 : wr.heap[q]? = some (.cells dd 48 (0, 0)) := by rw [← hdd]; exact HA.out
                    have hQ48 : wr.heap[w.heap.size]? = some (.cells ((List.replicate 32 (0 : Int)).map (Value.int .u8)).toArray 48 (0, 0)) := HQ.out
                    rw [hdd] at hdl hone
                    have hi48 : (Tryd.prog.info? 48).map (·.size) = some dd.size := by rw [hdl]; kernel_rfl
                    have hold : ((List.replicate 32 (0 : Int)).map (Value.int .u8)).toArray.size = dd.size := by rw [hdl]; rfl
                    have HDD := Aside0.mk hdd
                    have HA48 := Aside0.mk hA48
                    have HQ48 := Aside0.mk hQ48
                    have HI48 := Aside0.mk hi48
                    have HOLD := Aside0.mk hold
                    have HONE := Aside0.mk hone
                    clear hdd hA48 hQ48 hi48 hold hone hd8 hdl
                    go_wp2_with (first | ((with_reducible refine gate_dst (N := 101) rfl ?_); refine wpList_load_row rfl 48 (.tmp 7) rfl q rfl 48 dd (0, 0) _ HA48.out Tryd.underlying48 rfl HI48.out ?_) | ((with_reducible refine gate_store (t := 48) (p := 2) rfl ?_); refine wpList_store_row rfl 48 (.tmp 2) (.tmp 101) rfl w.heap.size dd rfl rfl 48 _ HQ48.out HI48.out HOLD.out HONE.out ?_))
                    have AR := setRow_heap wr w.heap.size _ dd 48 _ HQ48.out
                    (try simp only [Exit.inBlock, Exit.then])
                    refine bodyPost_ret (results_cell_row rfl _ _ w.heap.size 48 dd (0, 0) _ rfl AR Tryd.underlying48 rfl HI48.out) rfl ?_
                    refine ⟨?_, HB.out.trans (setRow_below wr w.heap.size dd)⟩
                    have hpadd : padded l n = full := by
                      unfold padded
                      rw [HZZ.out, HPRE.out, HFULL.out]
                    have hml := HXL2.out
                    have hm2 := HMB.out.1
                    rw [hpadd, hml, show m2 / 64 = nb by omega, HY.out, HYS.out, HDD.out]
end Go.Proofs.YtbddllklagiajaaDoor

namespace Go.Proofs.YtbddllklagiajaaDoor
open Go.RowKit Go.Proofs.YtbddllklagiajaaDoorW.PrintWords Go.Proofs.YtbddllklagiajaaDoorW.PrintLast Go.Proofs.YtbddllklagiajaaDoorW.PrintMore
set_option linter.unusedVariables false
set_option linter.unusedSimpArgs false

/-- The digest of a text. -/
def sumS (l : List Int) : List Int :=
  digS (absN (if l.length < 64 then ivS else absN ivS l (l.length / 64)) (padded (l.drop (64 * (l.length / 64))) l.length) ((padded (l.drop (64 * (l.length / 64))) l.length).length / 64))
theorem digS_len {st : List Int} (h : st.length = 8) : (digS st).length = 32 := by
  obtain ⟨x0, x1, x2, x3, x4, x5, x6, x7, rfl⟩ := list8 h
  rfl
theorem sumS_len (l : List Int) : (sumS l).length = 32 := by
  unfold sumS
  refine digS_len (absN_len _ _ ?_ _)
  split
  · rfl
  · exact absN_len _ _ rfl _
/-- The check of a text. -/
def sum8 (l : List Int) : List Int := (sumS l).take 8
theorem digS_by (st : List Int) : Bytes (digS st) := by
  intro x hx
  unfold digS at hx
  obtain ⟨y, _, hy⟩ := List.mem_flatMap.1 hx
  unfold dig4 at hy
  simp only [List.mem_cons, List.not_mem_nil, or_false] at hy
  omega
theorem sum8_by (l : List Int) : Bytes (sum8 l) := fun x hx => digS_by _ x (List.mem_of_mem_take hx)
theorem sum8_len (l : List Int) : (sum8 l).length = 8 := by unfold sum8; rw [List.length_take, sumS_len]; rfl

set_option maxHeartbeats 4000000 in
set_option maxRecDepth 100000 in
theorem sum_calls (s : ByteArray) (w : World) (hK : KT w) (hs : s.size ≤ 1000000) :
    Calls Tryd.prog 25 #[.string s] w fun e w' => e = .returned (.agg ((sumS (bytesOf s)).map (Value.int .u8)).toArray) ∧ Below w.heap.size w w' := by
  obtain ⟨l, hl⟩ : ∃ l, bytesOf s = l := ⟨_, rfl⟩
  have hll : l.length = s.size := by rw [← hl]; exact bytesOf_length s
  have H1 := Aside0.mk (fun W (hKW : KT W) => fun g h hg => hwrite_calls g s W hKW h hg hs)
  have H2 := Aside0.mk (fun W (hKW : KT W) => fun g x0 x1 x2 x3 x4 x5 x6 x7 tail h ht => hsum_calls g x0 x1 x2 x3 x4 x5 x6 x7 tail s.size W hKW h ht hs)
  rw [hl] at H1
  rw [hl]
  have HK := Aside0.mk hK
  have HLL := Aside0.mk hll
  clear hK hl hll
  have A0 := ArrB.new w (List.replicate 32 0)
  have Q0 : HashAt ((w.alloc (.cells #[.int .u8 0, .int .u8 0, .int .u8 0, .int .u8 0, .int .u8 0, .int .u8 0, .int .u8 0, .int .u8 0, .int .u8 0, .int .u8 0, .int .u8 0, .int .u8 0, .int .u8 0, .int .u8 0, .int .u8 0, .int .u8 0, .int .u8 0, .int .u8 0, .int .u8 0, .int .u8 0, .int .u8 0, .int .u8 0, .int .u8 0, .int .u8 0, .int .u8 0, .int .u8 0, .int .u8 0, .int .u8 0, .int .u8 0, .int .u8 0, .int .u8 0, .int .u8 0] 48)).alloc (.cells #[.int .u32 0, .int .u32 0, .int .u32 0, .int .u32 0, .int .u32 0, .int .u32 0, .int .u32 0, .int .u32 0, .string ⟨#[]⟩, .int .i64 0] 86)) (w.heap.size + 1) (List.replicate 8 0) ⟨#[]⟩ 0 := by
    have := blk_new (w.alloc (.cells #[.int .u8 0, .int .u8 0, .int .u8 0, .int .u8 0, .int .u8 0, .int .u8 0, .int .u8 0, .int .u8 0, .int .u8 0, .int .u8 0, .int .u8 0, .int .u8 0, .int .u8 0, .int .u8 0, .int .u8 0, .int .u8 0, .int .u8 0, .int .u8 0, .int .u8 0, .int .u8 0, .int .u8 0, .int .u8 0, .int .u8 0, .int .u8 0, .int .u8 0, .int .u8 0, .int .u8 0, .int .u8 0, .int .u8 0, .int .u8 0, .int .u8 0, .int .u8 0] 48)) (.cells #[.int .u32 0, .int .u32 0, .int .u32 0, .int .u32 0, .int .u32 0, .int .u32 0, .int .u32 0, .int .u32 0, .string ⟨#[]⟩, .int .i64 0] 86)
    rw [World.size_alloc] at this
    exact this
  have B0 : Below w.heap.size w ((w.alloc (.cells #[.int .u8 0, .int .u8 0, .int .u8 0, .int .u8 0, .int .u8 0, .int .u8 0, .int .u8 0, .int .u8 0, .int .u8 0, .int .u8 0, .int .u8 0, .int .u8 0, .int .u8 0, .int .u8 0, .int .u8 0, .int .u8 0, .int .u8 0, .int .u8 0, .int .u8 0, .int .u8 0, .int .u8 0, .int .u8 0, .int .u8 0, .int .u8 0, .int .u8 0, .int .u8 0, .int .u8 0, .int .u8 0, .int .u8 0, .int .u8 0, .int .u8 0, .int .u8 0] 48)).alloc (.cells #[.int .u32 0, .int .u32 0, .int .u32 0, .int .u32 0, .int .u32 0, .int .u32 0, .int .u32 0, .int .u32 0, .string ⟨#[]⟩, .int .i64 0] 86)) := below_alloc (below_alloc (Below.refl _ _) _) _
  have e0 : ((List.replicate 32 (0 : Int)).map (Value.int .u8)).toArray = #[.int .u8 0, .int .u8 0, .int .u8 0, .int .u8 0, .int .u8 0, .int .u8 0, .int .u8 0, .int .u8 0, .int .u8 0, .int .u8 0, .int .u8 0, .int .u8 0, .int .u8 0, .int .u8 0, .int .u8 0, .int .u8 0, .int .u8 0, .int .u8 0, .int .u8 0, .int .u8 0, .int .u8 0, .int .u8 0, .int .u8 0, .int .u8 0, .int .u8 0, .int .u8 0, .int .u8 0, .int .u8 0, .int .u8 0, .int .u8 0, .int .u8 0, .int .u8 0] := rfl
  rw [e0] at A0
  have A1 := A0.alloc (.cells #[.int .u32 0, .int .u32 0, .int .u32 0, .int .u32 0, .int .u32 0, .int .u32 0, .int .u32 0, .int .u32 0, .string ⟨#[]⟩, .int .i64 0] 86)
  clear A0 e0
  go_enter Tryd.func25, Tryd.ntmps25
  go_wp2_with fail
  generalize (w.alloc (.cells #[.int .u8 0, .int .u8 0, .int .u8 0, .int .u8 0, .int .u8 0, .int .u8 0, .int .u8 0, .int .u8 0, .int .u8 0, .int .u8 0, .int .u8 0, .int .u8 0, .int .u8 0, .int .u8 0, .int .u8 0, .int .u8 0, .int .u8 0, .int .u8 0, .int .u8 0, .int .u8 0, .int .u8 0, .int .u8 0, .int .u8 0, .int .u8 0, .int .u8 0, .int .u8 0, .int .u8 0, .int .u8 0, .int .u8 0, .int .u8 0, .int .u8 0, .int .u8 0] 48)).alloc (.cells #[.int .u32 0, .int .u32 0, .int .u32 0, .int .u32 0, .int .u32 0, .int .u32 0, .int .u32 0, .int .u32 0, .string ⟨#[]⟩, .int .i64 0] 86) = W0 at A1 Q0 B0 ⊢
  refine (H1.out W0 (HK.out.after B0) (w.heap.size + 1) Q0 (Nat.succ_pos _)).mono ?_
  rintro e W1 ⟨rfl, ⟨tail, hh, htl⟩, hf⟩
  have hA1 := A1.frm hf (fun h => by omega)
  have B1 := B0.trans (hf.below (B := w.heap.size) (fun k hk => by omega) B0.size)
  obtain ⟨st, hst⟩ : ∃ st, (if s.size < 64 then List.replicate 8 0 else absN ivS l (s.size / 64)) = st := ⟨_, rfl⟩
  have hstl : st.length = 8 := by
    rw [← hst]
    split
    · rfl
    · exact absN_len _ _ rfl _
  rw [hst] at hh
  obtain ⟨x0, x1, x2, x3, x4, x5, x6, x7, hx⟩ := list8 hstl
  rw [hx] at hh
  have htz : tail.size < 64 := by
    have := bytesOf_length tail
    rw [htl, List.length_drop, HLL.out] at this
    omega
  have hs2 := H2.out W1 (HK.out.after B1) (w.heap.size + 1) x0 x1 x2 x3 x4 x5 x6 x7 tail hh htz
  have hif : (if s.size < 64 then ivS else [x0, x1, x2, x3, x4, x5, x6, x7]) = (if l.length < 64 then ivS else absN ivS l (l.length / 64)) := by
    rw [HLL.out]
    by_cases h : s.size < 64
    · rw [if_pos h, if_pos h]
    · rw [if_neg h, if_neg h, ← hx, ← hst, if_neg h]
  rw [hif, htl, ← HLL.out] at hs2
  have hsum : digS (absN (if l.length < 64 then ivS else absN ivS l (l.length / 64)) (padded (l.drop (64 * (l.length / 64))) l.length) ((padded (l.drop (64 * (l.length / 64))) l.length).length / 64)) = sumS l := rfl
  rw [hsum] at hs2
  have HS2 := Aside0.mk hs2
  have HA1 := Aside0.mk hA1
  have HB1 := Aside0.mk B1
  clear hs2 hA1 B1 hsum hif htz hx hst hstl hh htl hf A1 B0 Q0 H1 H2
  go_wp2_with fail
  refine HS2.out.mono ?_
  rintro e W2 ⟨rfl, B2⟩
  have hA2 := HA1.out.below B2 HA1.out.lt
  have HB2 := Aside0.mk (below_step HB1.out B2)
  have hdl : ((sumS l).map (Value.int .u8)).toArray.size = 32 := by rw [List.size_toArray, List.length_map, sumS_len]
  have hone : ((sumS l).map (Value.int .u8)).toArray.all (·.oneCell') = true := by
    rw [List.all_toArray]
    refine List.all_eq_true.2 fun v hv => ?_
    obtain ⟨x, _, rfl⟩ := List.mem_map.1 hv
    rfl
  obtain ⟨dd, hdd⟩ : ∃ d, ((sumS l).map (Value.int .u8)).toArray = d := ⟨_, rfl⟩
  rw [hdd] at hdl hone ⊢
  have hi48 : (Tryd.prog.info? 48).map (·.size) = some dd.size := by rw [hdl]; kernel_rfl
  have hold : ((List.replicate 32 (0 : Int)).map (Value.int .u8)).toArray.size = dd.size := by rw [hdl]; rfl
  have HI48 := Aside0.mk hi48
  have HOLD := Aside0.mk hold
  have HONE := Aside0.mk hone
  have HDD := Aside0.mk hdd
  have hQ48 : W2.heap[w.heap.size]? = some (.cells ((List.replicate 32 (0 : Int)).map (Value.int .u8)).toArray 48 (0, 0)) := hA2
  have HQ48 := Aside0.mk hQ48
  clear hA2 B2 HA1 HB1 HS2 hi48 hold hone hdd hQ48 hdl
  go_wp2_with ((with_reducible refine gate_store (t := 48) (p := 2) rfl ?_); refine wpList_store_row rfl 48 (.tmp 2) (.tmp 6) rfl w.heap.size dd rfl rfl 48 _ HQ48.out HI48.out HOLD.out HONE.out ?_)
  have AR := setRow_heap W2 w.heap.size _ dd 48 _ HQ48.out
  (try simp only [Exit.inBlock, Exit.then])
  refine bodyPost_ret (results_cell_row rfl _ _ w.heap.size 48 dd (0, 0) _ rfl AR Tryd.underlying48 rfl HI48.out) rfl ?_
  rw [← HDD.out]
  exact ⟨rfl, by rw [HDD.out]; exact HB2.out.trans (setRow_below W2 w.heap.size dd)⟩

set_option maxHeartbeats 4000000 in
set_option maxRecDepth 100000 in
theorem check_calls (s : ByteArray) (w : World) (hK : KT w) (hs : s.size ≤ 1000000) :
    Calls Tryd.prog 45 #[.string s] w fun e w' => e = .returned (.string (strOfNums (sum8 (bytesOf s)))) ∧ Below w.heap.size w w' := by
  have HS := Aside0.mk (sum_calls s w hK hs)
  clear hK
  go_enter Tryd.func45, Tryd.ntmps45
  go_wp2_with fail
  refine HS.out.mono ?_
  rintro e W1 ⟨rfl, B1⟩
  obtain ⟨l, hl⟩ : ∃ l, bytesOf s = l := ⟨_, rfl⟩
  rw [hl]
  obtain ⟨dd, hdd⟩ : ∃ d, ((sumS l).map (Value.int .u8)).toArray = d := ⟨_, rfl⟩
  rw [hdd]
  have hdl : dd.size = 32 := by rw [← hdd, List.size_toArray, List.length_map, sumS_len]
  have hone : dd.all (·.oneCell') = true := by
    rw [← hdd, List.all_toArray]
    refine List.all_eq_true.2 fun v hv => ?_
    obtain ⟨x, _, rfl⟩ := List.mem_map.1 hv
    rfl
  have hi48 : (Tryd.prog.info? 48).map (·.size) = some dd.size := by rw [hdl]; kernel_rfl
  have h0 := blk_new W1 (.cells #[.int .u8 0, .int .u8 0, .int .u8 0, .int .u8 0, .int .u8 0, .int .u8 0, .int .u8 0, .int .u8 0, .int .u8 0, .int .u8 0, .int .u8 0, .int .u8 0, .int .u8 0, .int .u8 0, .int .u8 0, .int .u8 0, .int .u8 0, .int .u8 0, .int .u8 0, .int .u8 0, .int .u8 0, .int .u8 0, .int .u8 0, .int .u8 0, .int .u8 0, .int .u8 0, .int .u8 0, .int .u8 0, .int .u8 0, .int .u8 0, .int .u8 0, .int .u8 0] 48)
  have hold : (#[.int .u8 0, .int .u8 0, .int .u8 0, .int .u8 0, .int .u8 0, .int .u8 0, .int .u8 0, .int .u8 0, .int .u8 0, .int .u8 0, .int .u8 0, .int .u8 0, .int .u8 0, .int .u8 0, .int .u8 0, .int .u8 0, .int .u8 0, .int .u8 0, .int .u8 0, .int .u8 0, .int .u8 0, .int .u8 0, .int .u8 0, .int .u8 0, .int .u8 0, .int .u8 0, .int .u8 0, .int .u8 0, .int .u8 0, .int .u8 0, .int .u8 0, .int .u8 0] : Array Value).size = dd.size := by rw [hdl]; rfl
  have A1 : ((W1.alloc (.cells #[.int .u8 0, .int .u8 0, .int .u8 0, .int .u8 0, .int .u8 0, .int .u8 0, .int .u8 0, .int .u8 0, .int .u8 0, .int .u8 0, .int .u8 0, .int .u8 0, .int .u8 0, .int .u8 0, .int .u8 0, .int .u8 0, .int .u8 0, .int .u8 0, .int .u8 0, .int .u8 0, .int .u8 0, .int .u8 0, .int .u8 0, .int .u8 0, .int .u8 0, .int .u8 0, .int .u8 0, .int .u8 0, .int .u8 0, .int .u8 0, .int .u8 0, .int .u8 0] 48)).setRow W1.heap.size dd).heap[W1.heap.size]? = some (.cells dd 48 (0, 0)) := setRow_heap _ W1.heap.size _ dd 48 _ h0
  obtain ⟨W2, hW2⟩ : ∃ W2, (W1.alloc (.cells #[.int .u8 0, .int .u8 0, .int .u8 0, .int .u8 0, .int .u8 0, .int .u8 0, .int .u8 0, .int .u8 0, .int .u8 0, .int .u8 0, .int .u8 0, .int .u8 0, .int .u8 0, .int .u8 0, .int .u8 0, .int .u8 0, .int .u8 0, .int .u8 0, .int .u8 0, .int .u8 0, .int .u8 0, .int .u8 0, .int .u8 0, .int .u8 0, .int .u8 0, .int .u8 0, .int .u8 0, .int .u8 0, .int .u8 0, .int .u8 0, .int .u8 0, .int .u8 0] 48)).setRow W1.heap.size dd = W2 := ⟨_, rfl⟩
  rw [hW2] at A1
  have kc : (convert 46 9 (.slice (some ⟨W1.heap.size, 0, none⟩) 8 32)).run Tryd.prog W2 = .ok (.string (strOfNums (sum8 l))) W2 := by
    refine Kd.C_string (P := Tryd.prog) Tryd.underlying46 Tryd.underlying5 Tryd.underlying9 (show KB.C _ (some ⟨W1.heap.size, 0, none⟩) 8 (sum8 l) from ?_)
    refine Kd.C_of_reads (d := 0) ⟨sum8_len l, by omega, fun _ => ⟨_, rfl, fun j hj => ?_⟩⟩
    rw [add_plain, blk_cell A1 j, ← hdd]
    have hj2 : j < (sumS l).length := by rw [sumS_len]; omega
    unfold sum8
    simp [hj2, hj]
  have HB2 : Aside0 (Below w.heap.size w W2) := Aside0.mk (by rw [← hW2]; exact (below_alloc B1 (.cells #[.int .u8 0, .int .u8 0, .int .u8 0, .int .u8 0, .int .u8 0, .int .u8 0, .int .u8 0, .int .u8 0, .int .u8 0, .int .u8 0, .int .u8 0, .int .u8 0, .int .u8 0, .int .u8 0, .int .u8 0, .int .u8 0, .int .u8 0, .int .u8 0, .int .u8 0, .int .u8 0, .int .u8 0, .int .u8 0, .int .u8 0, .int .u8 0, .int .u8 0, .int .u8 0, .int .u8 0, .int .u8 0, .int .u8 0, .int .u8 0, .int .u8 0, .int .u8 0] 48)).trans ((setRow_below _ W1.heap.size dd).mono B1.size))
  have HH0 := Aside0.mk h0
  have HI48 := Aside0.mk hi48
  have HOLD := Aside0.mk hold
  have HONE := Aside0.mk hone
  have HW2 := Aside0.mk hW2
  have HL := Aside0.mk hl
  clear hl hdd hdl hone hi48 h0 hold A1 hW2 B1 HS
  go_wp2_with ((with_reducible refine gate_store (t := 48) (p := 3) rfl ?_); refine wpList_store_row rfl 48 (.tmp 3) (.tmp 5) rfl W1.heap.size dd rfl rfl 48 _ HH0.out HI48.out HOLD.out HONE.out ?_; rw [HW2.out])
  go_ret
  exact ⟨by rw [HL.out]; rfl, HB2.out⟩
end Go.Proofs.YtbddllklagiajaaDoor

namespace Go.Proofs.YtbddllklagiajaaDoor
open PImageDecodes (info5)
open Go.RowKit Go.Proofs.YtbddllklagiajaaDoorW.PrintWords Go.Proofs.YtbddllklagiajaaDoorW.PrintLast Go.Proofs.YtbddllklagiajaaDoorW.PrintMore
set_option linter.unusedVariables false
set_option linter.unusedSimpArgs false

/-- After an error nothing is written. -/
theorem write_failed (base g : Nat) (P : Nat → Prop) (out : List Int) (f n : Int) (A : Option Addr) (m c : Nat) (w : World) (h : Wr base w g P out f) (hf : f ≠ 0) :
    Calls Tryd.prog 63 #[.pointer (some ⟨g, 0, none⟩), .int .i64 n, .slice A m c] w fun e w' => e = .returned (.tuple #[]) ∧ w' = w := by
  obtain ⟨v, hb, hg, hr⟩ := h
  have h1 : w.cell? ⟨g, 1, none⟩ = some (.int .i64 f) := blk_cell hb 1
  have hf1 : (f != 0) = true := bne_iff_ne.mpr hf
  clear hb hr hf
  go_enter Tryd.func63, Tryd.ntmps63
  go_wp2
  refine bodyPost_ret (results_none rfl _ _ _) rfl ?_
  exact ⟨rfl, rfl⟩

/-- An error is remembered. -/
theorem write_error (base g : Nat) (P : Nat → Prop) (out : List Int) (n : Int) (A : Option Addr) (m c : Nat) (w : World) (h : Wr base w g P out 0) (hP : ∀ k, P k → k ≠ g) (hn : n ≠ 0) :
    Calls Tryd.prog 63 #[.pointer (some ⟨g, 0, none⟩), .int .i64 n, .slice A m c] w fun e w' => e = .returned (.tuple #[]) ∧ Wr base w' g P out n ∧ Frm w w' (fun k => k = g ∨ P k) := by
  obtain ⟨v, hb, hg, hr⟩ := h
  have h1 : w.cell? ⟨g, 1, none⟩ = some (.int .i64 0) := blk_cell hb 1
  have h2 : w.frozen? ⟨g, 1, none⟩ = false := blk_frozen hb 1
  have hn1 : (n != 0) = true := bne_iff_ne.mpr hn
  have HB := Aside0.mk hb
  have HR := Aside0.mk hr
  clear hb hr hn
  go_enter Tryd.func63, Tryd.ntmps63
  go_wp2
  refine bodyPost_ret (results_none rfl _ _ _) rfl ?_
  exact ⟨rfl, ⟨v, blk_put HB.out 1 _ (by simp), hg, Kd.R_far (p := ⟨g, 1, none⟩) HR.out hP _⟩, (Frm.refl _ _).setCell (.inl (.inl rfl)) _⟩

def sumLen (ps : List (List Int)) : Nat := (ps.map List.length).sum

set_option maxHeartbeats 1000000 in
set_option maxRecDepth 100000 in
/-- The parts are appended. -/
theorem write_ok (base g : Nat) (P : Nat → Prop) (out : List Int) (ps : List (List Int)) (A : Option Addr) (c : Nat) (w : World) (h : Wr base w g P out 0) (hP : ∀ k, P k → k ≠ g) (hbase : base ≤ w.heap.size)
    (hps : ∀ W, Kept w W (fun k => k = g ∨ P k) → (Kd.slice 5 KB).C W A ps.length ps) (hlen : out.length + ps.flatten.length ≤ 140737488355328) (hmax : ps.length ≤ 1000000000) :
    Calls Tryd.prog 63 #[.pointer (some ⟨g, 0, none⟩), .int .i64 0, .slice A ps.length c] w fun e w' => e = .returned (.tuple #[]) ∧ Wr base w' g (fun k => P k ∨ w.heap.size ≤ k) (out ++ ps.flatten) 0 ∧ Frm w w' (fun k => k = g ∨ P k) := by
  obtain ⟨v, hb, hg, hr⟩ := h
  have h1 : w.cell? ⟨g, 1, none⟩ = some (.int .i64 0) := blk_cell hb 1
  have h2 : w.frozen? ⟨g, 1, none⟩ = false := blk_frozen hb 1
  have HB := Aside0.mk hb
  have HR := Aside0.mk hr
  have HP := Aside0.mk hps
  have HL := Aside0.mk hlen
  have HG := blk_lt hb
  clear hb hr hps hlen
  go_enter Tryd.func63, Tryd.ntmps63
  go_wp2
  have W1 : Wr base (w.setCell ⟨g, 1, none⟩ (.int .i64 0)) g (fun b => P b ∨ w.heap.size ≤ b) out 0 :=
    ⟨v, blk_put HB.out 1 _ (by simp), hg, Kd.R_mono (Kd.R_far (p := ⟨g, 1, none⟩) HR.out hP _) (fun _ hk => .inl hk)⟩
  have F1 : Frm w (w.setCell ⟨g, 1, none⟩ (.int .i64 0)) (fun k => k = g ∨ P k) := (Frm.refl _ _).setCell (.inl (.inl rfl)) _
  go_loopw [25] (fun i wr => ∃ k : Nat, k ≤ ps.length ∧ i = .int .i64 k ∧ Wr base wr g (fun b => P b ∨ w.heap.size ≤ b) (out ++ (ps.take k).flatten) 0 ∧ Frm w wr (fun b => b = g ∨ P b)) (fun i _ => ps.length - (intOf i).toNat)
  case atStart => exact ⟨0, Nat.zero_le _, rfl, by simpa using W1, F1⟩
  case round =>
    obtain ⟨k, hk, rfl, W2, F2⟩ := hrel
    clear W1 F1
    by_cases hlt : k < ps.length
    · obtain ⟨ad, cs, e, _, hK, hcs⟩ := Kd.C_get (HP.out wr F2.kept) [] k (by omega) (by omega)
      obtain ⟨A1, c1, rfl, hc1, hC1⟩ := hK
      subst e
      obtain ⟨p, hp⟩ : ∃ p, ps.getD ((k : Int).toNat) [] = p := ⟨_, rfl⟩
      have hx0 := hcs 0 _ rfl
      rw [hp] at hx0 hc1 hC1
      have hx : wr.cell? (ad.add k) = some (.slice A1 p.length c1) := by simpa [Kd.slice] using hx0
      have hp2 := Aside0.mk hp
      clear hx0 hp
      obtain ⟨v2, hb2, hg2, hr2⟩ := W2
      have h0 : wr.cell? ⟨g, 0, none⟩ = some v2 := blk_cell hb2 0
      have h0f : wr.frozen? ⟨g, 0, none⟩ = false := blk_frozen hb2 0
      have HB2 := Aside0.mk hb2
      have HR2 := Aside0.mk hr2
      have HC1 := Aside0.mk hC1
      clear hb2 hr2 hC1 hcs
      have hL : (out ++ (ps.take k).flatten).length + p.length ≤ 140737488355328 := by
        have h1 := HL.out
        have h2 : ps.flatten = (ps.take k).flatten ++ (p ++ (ps.drop (k + 1)).flatten) := by
          have h3 := hp2.out
          simp [List.getD, hlt] at h3
          rw [← h3, ← List.flatten_cons, ← List.drop_eq_getElem_cons hlt, ← List.flatten_append, List.take_append_drop]
        rw [h2] at h1
        simp only [List.length_append] at h1 ⊢
        omega
      have HL2 := Aside0.mk hL
      clear hL
      go_wp2_with ((with_reducible refine gate_dst (N := 35) rfl ?_); at_builtin; refine Kd.R_append_row (Value.int .u8) 0 (h1 := fun _ => rfl) (w0 := wr) base rfl (.tmp 33) (.tmp 34) 46 5 (.int .u8 0) 1 rfl Tryd.underlying46 info5 rfl (by decide) v2 (out ++ (ps.take k).flatten) p A1 p.length c1 (fun b => P b ∨ w.heap.size ≤ b) rfl rfl ?aF ?aO ?aR ?aB ?aS ?aL ?_; (case aF => exact fun b hb => .inr (Nat.le_trans F2.size hb)); (case aO => exact HR2.out); (case aR => exact HC1.out); (case aB => exact Below.refl _ _); (case aS => exact Nat.le_trans hbase F2.size); (case aL => have := HL2.out; omega); intro v3 w3 hr3 _ hg3 hat3; have hb3 := blk_grown HB2.out hg3 (Kd.R_ne HR2.out HB2.out (by decide)); obtain ⟨A3, n3, c3, rfl⟩ := R_form' hr3; have HR3 := Aside0.mk hr3; have HG3 := Aside0.mk hg3; have HAT3 := Aside0.mk hat3; have h30 := blk_cell hb3 0; have h3f := blk_frozen hb3 0; simp only [List.getElem?_toArray, List.getElem?_cons_zero] at h30; have HB3 := Aside0.mk hb3; clear hb3 hr3 hg3 hat3)
      go_roundw
      case rel =>
        have hr4 := HR3.out
        have e4 : (ps.take (k + 1)).flatten = (ps.take k).flatten ++ p := by
          rw [List.take_succ_eq_append_getElem hlt, List.flatten_append]
          have := hp2.out
          simp [List.getD, hlt] at this
          simp [this]
        have e5 : out ++ (ps.take (k + 1)).flatten = out ++ (ps.take k).flatten ++ p := by rw [e4, List.append_assoc]
        have hP2 : ∀ b, (P b ∨ w.heap.size ≤ b) → b ≠ g := by
          intro b hb
          rcases hb with hb | hb
          · exact hP b hb
          · omega
        refine ⟨k + 1, by omega, by go_num, by rw [e5]; exact ⟨_, blk_put HB3.out 0 _ rfl, hg2, Kd.R_far (p := ⟨g, 0, none⟩) hr4 hP2 _⟩, ?_⟩
        refine (Frm.grown F2 HG3.out ?_).setCell (.inl (.inl rfl)) _
        intro b hb
        rcases (HR2.out).1 b hb with h | h
        · exact .inl (.inr h)
        · exact .inr h
      case measure => simp [intOf]; omega
    · have hkl : k = ps.length := by omega
      subst hkl
      go_wp2
      refine bodyPost_end (results_none rfl _ _ _) rfl ?_
      exact ⟨rfl, by simpa using W2, F2⟩
end Go.Proofs.YtbddllklagiajaaDoor

namespace Go.Proofs.YtbddllklagiajaaDoor
open PImageDecodes (info5)
open Go.RowKit Go.Proofs.YtbddllklagiajaaDoorW.PrintWords Go.Proofs.YtbddllklagiajaaDoorW.PrintLast Go.Proofs.YtbddllklagiajaaDoorW.PrintMore
set_option linter.unusedVariables false
set_option linter.unusedSimpArgs false

/-- A new block of elements is a row of the call's own. -/
theorem R_block {α : Type} (d : Kd α) {W : World} {base e : Nat} {xs : List α} {inner : List Value} {ok okp : Nat → Prop}
    (hrep : Reps (d.M W base okp) d.sz xs inner) (hok : ∀ k, okp k → ok k) (hfresh : ok W.heap.size) (hbase : base ≤ W.heap.size) (hm : xs.length ≤ 9223372036854775807) :
    d.R e (W.alloc (.cells inner.toArray e)) base ok (.slice (some ⟨W.heap.size, 0, none⟩) xs.length xs.length) xs := by
  refine ⟨fun k hk => ?_, inner, ?_, ?_⟩
  · have : W.heap.size = k := by simpa [Value.ownBlock] using hk
    subst this
    exact hfresh
  · have h2 := World.ownsRow_lit (base := base) (e := e) (size := d.sz) W inner.toArray xs.length hbase (by simpa [maxLen] using hm) (by simpa using hrep.1)
    simpa using h2
  · refine hrep.imp_ (fun p c hp => d.M_mono (fun k hk => ⟨hok k hk.1, fun he => ?_⟩) (Kd.M_below (d.M_bound hp) (below_alloc (Below.refl _ _) _)))
    have h3 : k = W.heap.size := by simpa [Value.ownBlock] using he
    have := hk.2.2.1
    omega

/-- One part in a new block: it stays there whatever the Writer writes. -/
theorem parts_one {w : World} (S : Nat → Prop) {v : Value} {xs : List Int} (hS : ∀ k, S k → k < w.heap.size) (hv : Stab KB w S v xs) :
    ∀ W, Kept (w.alloc (.cells #[v] 46)) W S → (Kd.slice 5 KB).C W (some ⟨w.heap.size, 0, none⟩) [xs].length [xs] := by
  refine parts_stab S [v] [xs] rfl (fun j u p hu hp => ?_) (fun h => by have := hS _ h; omega) (by simp)
  match j, hu, hp with
  | 0, hu, hp => simp at hu hp; subst hu hp; exact hv

theorem parts_two {w : World} (S : Nat → Prop) {v1 v2 : Value} {xs ys : List Int} (hS : ∀ k, S k → k < w.heap.size) (hv1 : Stab KB w S v1 xs) (hv2 : Stab KB w S v2 ys) :
    ∀ W, Kept (w.alloc (.cells #[v1, v2] 46)) W S → (Kd.slice 5 KB).C W (some ⟨w.heap.size, 0, none⟩) [xs, ys].length [xs, ys] := by
  refine parts_stab S [v1, v2] [xs, ys] rfl (fun j u p hu hp => ?_) (fun h => by have := hS _ h; omega) (by simp)
  match j, hu, hp with
  | 0, hu, hp => simp at hu hp; subst hu hp; exact hv1
  | 1, hu, hp => simp at hu hp; subst hu hp; exact hv2

theorem below_of' {w : World} {g : Nat} {P : Nat → Prop} (hg : g < w.heap.size) (hP : ∀ k, P k → k ≠ g ∧ k < w.heap.size) : ∀ k, (k = g ∨ P k) → k < w.heap.size := by
  rintro k (rfl | hk)
  · exact hg
  · exact (hP k hk).2
theorem below_of {w w1 : World} {g : Nat} {P : Nat → Prop} (hg : g < w.heap.size) (hP : ∀ k, P k → k ≠ g ∧ k < w.heap.size) (hB : Below w.heap.size w w1) : ∀ k, (k = g ∨ P k) → k < w1.heap.size :=
  fun k hk => Nat.lt_of_lt_of_le (below_of' hg hP k hk) hB.size

/-- What a method of a Writer leaves. -/
def Wrote (base g : Nat) (P : Nat → Prop) (w : World) (out : List Int) (e : Ending) (w' : World) : Prop :=
  e = .returned (.tuple #[]) ∧ Wr base w' g (fun k => P k ∨ w.heap.size ≤ k) out 0 ∧ Frm w w' (fun k => k = g ∨ P k)

theorem write_parts (base g : Nat) (P : Nat → Prop) (out : List Int) (ps : List (List Int)) (A : Option Addr) (m c : Nat) (hm : ps.length = m) (w W : World) (h : Wr base w g P out 0)
    (hP : ∀ k, P k → k ≠ g ∧ k < w.heap.size) (hbase : base ≤ w.heap.size) (hF : Below w.heap.size w W) (hps : ∀ W', Kept W W' (fun k => k = g ∨ P k) → (Kd.slice 5 KB).C W' A ps.length ps)
    (hlen : out.length + ps.flatten.length ≤ 140737488355328) (hmax : m ≤ 1000000000) :
    Calls Tryd.prog 63 #[.pointer (some ⟨g, 0, none⟩), .int .i64 0, .slice A m c] W (Wrote base g P w (out ++ ps.flatten)) := by
  subst hm
  have hg := h.lt
  have h1 : Wr base W g P out 0 := h.frm (Frm.of_fresh hF (fun _ => False)) (fun h => h) (fun _ _ h => h)
  refine (write_ok base g P out ps A c W h1 (fun k hk => (hP k hk).1) (Nat.le_trans hbase hF.size) hps hlen hmax).mono ?_
  rintro e w' ⟨he, hw, hf⟩
  exact ⟨he, hw.mono (fun k hk => hk.imp id (fun h => Nat.le_trans hF.size h)), (Frm.of_fresh hF (fun k => k = g ∨ P k)).then_ hf (fun _ h => .inl h)⟩

/-- Behind an error: nothing. -/
def Still (w : World) (e : Ending) (w' : World) : Prop := e = .returned (.tuple #[]) ∧ Below w.heap.size w w'

theorem u64_of_nat {n : Nat} (h : n < 18446744073709551616) : IntKind.u64.wrap (n : Int) = n := by
  rw [IntKind.wrap_u64]; omega

set_option maxHeartbeats 400000 in
theorem number_ok (base g : Nat) (P : Nat → Prop) (out : List Int) (n : Nat) (w : World) (h : Wr base w g P out 0) (hP : ∀ k, P k → k ≠ g ∧ k < w.heap.size) (hbase : base ≤ w.heap.size)
    (hn : n < 9223372036854775808) (hlen : out.length ≤ 140737488000000) :
    Calls Tryd.prog 43 #[.pointer (some ⟨g, 0, none⟩), .int .i64 n] w (Wrote base g P w (out ++ enc n)) := by
  have HW := Aside0.mk h
  have hg := h.lt
  have hel := enc_len9 hn
  have hu := u64_of_nat (show n < 18446744073709551616 by omega)
  have HU := Aside0.mk hu
  have hneg : decide ((n : Int) < 0) = false := by simp
  clear h hu
  go_enter Tryd.func43, Tryd.ntmps43
  go_wp2_with fail
  refine (PImageDecodes.codec_natural.calls 10 n (enc n) _ (natural_f (by omega) (by omega))).mono ?_
  rintro e w1 ⟨v, rfl, hR, hB⟩
  obtain ⟨A1, n1, c1, rfl⟩ := R_form' hR
  have HR := Aside0.mk hR
  have HB := Aside0.mk hB
  clear hR hB
  go_wp2_with fail
  refine (write_parts base g P out [enc n] _ 1 1 rfl w _ HW.out hP hbase (below_alloc HB.out _) (parts_one _ (below_of hg hP HB.out) (Stab.of_R HR.out (fun k _ hb _ hk => by have := below_of' hg hP k hk; omega))) (by simp; omega) (by omega)).mono ?_
  rintro e w' ⟨rfl, h2, h3⟩
  go_wp2
  refine bodyPost_end (results_none rfl _ _ _) rfl ?_
  exact ⟨rfl, by simpa using h2, h3⟩

theorem number_neg (base g : Nat) (P : Nat → Prop) (out : List Int) (n : Int) (w : World) (h : Wr base w g P out 0) (hP : ∀ k, P k → k ≠ g ∧ k < w.heap.size) (hn : n < 0) :
    Calls Tryd.prog 43 #[.pointer (some ⟨g, 0, none⟩), .int .i64 n] w fun e w' => e = .returned (.tuple #[]) ∧ Wr base w' g P out 2 ∧ Frm w w' (fun k => k = g ∨ P k) := by
  have HW := Aside0.mk h
  have hneg : decide ((n : Int) < 0) = true := decide_eq_true hn
  clear h
  go_enter Tryd.func43, Tryd.ntmps43
  go_wp2_with fail
  refine (write_error base g P out 2 _ _ _ w HW.out (fun k hk => (hP k hk).1) (by decide)).mono ?_
  rintro e w' ⟨rfl, h2, h3⟩
  go_wp2
  refine bodyPost_ret (results_none rfl _ _ _) rfl ?_
  exact ⟨rfl, h2, h3⟩

set_option maxHeartbeats 800000 in
set_option maxRecDepth 100000 in
theorem text_any (R : Ending → World → Prop) (S : Nat → Prop) (g : Nat) (s : ByteArray) (w : World) (hs : s.size ≤ 16777216) (hS : ∀ k, S k → k < w.heap.size)
    (hR : ∀ v1 v2 w1, Stab KB w1 S v1 (enc s.size) → Stab KB w1 S v2 (bytesOf s) → Below w.heap.size w w1 →
      Calls Tryd.prog 63 #[.pointer (some ⟨g, 0, none⟩), .int .i64 0, .slice (some ⟨w1.heap.size, 0, none⟩) 2 2] (w1.alloc (.cells #[v1, v2] 46)) fun e w' => e = .returned (.tuple #[]) ∧ R e w') :
    Calls Tryd.prog 42 #[.pointer (some ⟨g, 0, none⟩), .string s] w R := by
  have HH := Aside0.mk hR
  clear hR
  have h1 : decide ((16777216 : Int) < s.size) = false := decide_eq_false (by omega)
  have kb := fun W => print_bytes (P := Tryd.prog) 9 46 5 Tryd.underlying9 Tryd.underlying46 Tryd.underlying5 s W
  go_enter Tryd.func42, Tryd.ntmps42
  go_wp2_with fail
  refine (PImageDecodes.codec_natural.calls 10 _ (enc s.size) _ (natural_f (by omega) (by omega))).mono ?_
  rintro e w1 ⟨v, rfl, hR, hB⟩
  obtain ⟨A1, n1, c1, rfl⟩ := R_form' hR
  have HR := Aside0.mk hR
  have HB := Aside0.mk hB
  clear hR hB
  go_wp2_with fail
  have HB2 := bytes_below HB.out HB.out.size 5 s
  have hc := grownCap_ge w1 s.size 0 5
  have H3 := HH.out _ _ _ (Stab.step (Stab.of_R HR.out (S := S) (fun k _ hb _ hk => by have := hS k hk; omega)) ((Kept.of_below (bytes_below (Below.refl _ w1) (Nat.le_refl _) 5 s) S))) (Stab.bytes (S := S) w1 s (by omega) (fun h => by have := hS _ h; have := HB.out.size; omega) _ hc) HB2
  refine H3.mono ?_
  rintro e w' ⟨rfl, h2⟩
  go_wp2
  refine bodyPost_end (results_none rfl _ _ _) rfl ?_
  exact h2

theorem text_ok (base g : Nat) (P : Nat → Prop) (out : List Int) (s : ByteArray) (w : World) (h : Wr base w g P out 0) (hP : ∀ k, P k → k ≠ g ∧ k < w.heap.size) (hbase : base ≤ w.heap.size)
    (hs : s.size ≤ 16777216) (hlen : out.length ≤ 140737400000000) :
    Calls Tryd.prog 42 #[.pointer (some ⟨g, 0, none⟩), .string s] w (Wrote base g P w (out ++ (enc s.size ++ bytesOf s))) := by
  have hg := h.lt
  have hel := enc_len9 (show s.size < 9223372036854775808 by omega)
  have hbl := bytesOf_length s
  refine text_any _ (fun k => k = g ∨ P k) g s w hs (below_of' hg hP) (fun v1 v2 w1 h1 h2 hB => ?_)
  refine (write_parts base g P out [enc s.size, bytesOf s] _ 2 2 rfl w _ h hP hbase (below_alloc hB _) (parts_two _ (below_of hg hP hB) h1 h2) (by simp; omega) (by omega)).mono ?_
  rintro e w' ⟨rfl, h2, h3⟩
  exact ⟨rfl, rfl, by simpa using h2, h3⟩

set_option maxHeartbeats 800000 in
/-- Bytes: a copy of what was written. -/
theorem bytes_ok (base g : Nat) (P : Nat → Prop) (out : List Int) (w : World) (h : Wr base w g P out 0) (hlen : out.length ≤ 140737488355328) :
    Calls Tryd.prog 44 #[.pointer (some ⟨g, 0, none⟩)] w fun e w' => ∃ v, e = .returned (.tuple #[v, .int .i64 0]) ∧ KB.R 5 w' w.heap.size (fun _ => True) v out ∧ Below w.heap.size w w' := by
  obtain ⟨v, hb, hg, hr⟩ := h
  obtain ⟨A, n, c, rfl⟩ := R_form' hr
  have hC := Kd.R_reads' hr
  have h0 : w.cell? ⟨g, 0, none⟩ = some (.slice A n c) := blk_cell hb 0
  have h1 : w.cell? ⟨g, 1, none⟩ = some (.int .i64 0) := blk_cell hb 1
  have h2 : (w.alloc (.cells #[] 5)).cell? ⟨g, 0, none⟩ = some (.slice A n c) := blk_cell (blk_alloc hb _) 0
  have HE := Aside0.mk (R_block KB (W := w) (base := w.heap.size) (e := 5) (xs := []) (inner := []) (ok := fun _ => True) (okp := fun _ => True) (Reps.none _ _) (fun _ h => h) trivial (Nat.le_refl _) (by simp))
  have HC := Aside0.mk hC
  have HL := Aside0.mk hlen
  clear hb hr hC hlen
  go_enter Tryd.func44, Tryd.ntmps44
  go_wp2_with ((with_reducible refine gate_dst (N := 22) rfl ?_); at_builtin; refine Kd.R_append_row (Value.int .u8) 0 (h1 := fun _ => rfl) (w0 := w) w.heap.size rfl (.tmp 17) (.tmp 21) 46 5 (.int .u8 0) 1 rfl Tryd.underlying46 info5 rfl (by decide) _ [] out A n c (fun _ => True) rfl rfl ?aF ?aO ?aR ?aB ?aS ?aL ?_; (case aF => exact fun _ _ => trivial); (case aO => exact HE.out); (case aR => have := HC.out; rw [this.1]; exact Kd.C_alloc this.2.2 _); (case aB => exact below_alloc (Below.refl _ _) _); (case aS => simp); (case aL => have := HC.out.1; have := HL.out; simp; omega); intro v3 w3 hr3 hb3 hg3 hat3; have HR3 := Aside0.mk hr3; have HB3 := Aside0.mk hb3; clear hr3 hb3 hg3 hat3)
  go_ret2
  exact ⟨_, rfl, HR3.out, HB3.out⟩

theorem bytes_failed (base g : Nat) (P : Nat → Prop) (out : List Int) (f : Int) (w : World) (h : Wr base w g P out f) (hf : f ≠ 0) :
    Calls Tryd.prog 44 #[.pointer (some ⟨g, 0, none⟩)] w fun e w' => e = .returned (.tuple #[.slice none 0 0, .int .i64 f]) ∧ Below w.heap.size w w' := by
  obtain ⟨v, hb, hg, hr⟩ := h
  have h1 : w.cell? ⟨g, 1, none⟩ = some (.int .i64 f) := blk_cell hb 1
  have hf1 : (f != 0) = true := bne_iff_ne.mpr hf
  clear hb hr hf
  go_enter Tryd.func44, Tryd.ntmps44
  go_wp2_with fail
  go_quiet (fail)
  go_wp2
  go_ret2
  exact ⟨rfl, pw_below_drewN (Below.refl _ _) _⟩

end Go.Proofs.YtbddllklagiajaaDoor

namespace Go.Proofs.YtbddllklagiajaaDoor
open PImageDecodes (info5)
open Go.RowKit Go.Proofs.YtbddllklagiajaaDoorW.PrintWords Go.Proofs.YtbddllklagiajaaDoorW.PrintLast Go.Proofs.YtbddllklagiajaaDoorW.PrintMore
set_option linter.unusedVariables false
set_option linter.unusedSimpArgs false

theorem newWriter_calls (base : Nat) (w : World) (hb : base ≤ w.heap.size) :
    Calls Tryd.prog 41 #[] w fun e w' => e = .returned (.pointer (some ⟨w.heap.size, 0, none⟩)) ∧ Wr base w' w.heap.size (fun _ => False) [] 0 ∧ Below w.heap.size w w' ∧ w'.heap.size = w.heap.size + 1 := by
  go_enter Tryd.func41, Tryd.ntmps41
  go_wp2
  go_ret
  exact ⟨rfl, ⟨_, blk_new w _, hb, Kd.R_nil _ _ _ _ _⟩, below_alloc (Below.refl _ _) _, by simp⟩

end Go.Proofs.YtbddllklagiajaaDoor

namespace Go.Proofs.YtbddllklagiajaaDoor
open Go.RowKit Go.Proofs.YtbddllklagiajaaDoorW.PrintWords Go.Proofs.YtbddllklagiajaaDoorW.PrintLast Go.Proofs.YtbddllklagiajaaDoorW.PrintMore
set_option linter.unusedVariables false
set_option linter.unusedSimpArgs false

theorem nums_append (a b : List Int) : strOfNums (a ++ b) = strOfNums a ++ strOfNums b := by
  apply ByteArray.ext
  apply Array.ext'
  rw [ByteArray.data_append, Array.toList_append, strOfNums_data, strOfNums_data, strOfNums_data, List.map_append]
theorem bytesOf_append (a b : ByteArray) : bytesOf (a ++ b) = bytesOf a ++ bytesOf b := by
  unfold bytesOf
  rw [ByteArray.data_append, Array.toList_append, List.map_append]
theorem bytes_app {a b : List Int} (ha : Bytes a) (hb : Bytes b) : Bytes (a ++ b) := by
  intro x hx
  rcases List.mem_append.1 hx with h | h
  · exact ha x h
  · exact hb x h
theorem bytesOf_by (s : ByteArray) : Bytes (bytesOf s) := by
  intro x hx
  unfold bytesOf at hx
  obtain ⟨b, _, rfl⟩ := List.mem_map.1 hx
  have := b.toNat_lt
  omega

/-- The encoding of an image's parts. -/
def payI (c d : ByteArray) (z e : Int) : List Int := ((([] ++ (enc c.size ++ bytesOf c)) ++ (enc d.size ++ bytesOf d)) ++ enc z.toNat) ++ enc e.toNat
def magI : List Int := [127, 82, 80, 76]
/-- The text of an image. -/
def encI (c d : ByteArray) (z e : Int) : List Int := (magI ++ payI c d z e) ++ sum8 (magI ++ payI c d z e)

theorem payI_by (c d : ByteArray) (z e : Int) : Bytes (payI c d z e) := by
  unfold payI
  exact bytes_app (bytes_app (bytes_app (bytes_app (fun x hx => by cases hx) (bytes_app (enc_bytes _) (bytesOf_by c))) (bytes_app (enc_bytes _) (bytesOf_by d))) (enc_bytes _)) (enc_bytes _)

set_option maxHeartbeats 4000000 in
set_option maxRecDepth 100000 in
theorem encode_calls (c d : ByteArray) (z e : Int) (w : World) (hK : KT w) (hc : c.size ≤ 100000) (hd : d.size ≤ 100000) :
    Calls Tryd.prog 19 #[.agg #[.string c, .string d, .int .i64 z, .int .i64 e]] w fun en w' => en = .returned (.tuple #[.string (if chkI c d z e = 0 then strOfNums (encI c d z e) else ⟨#[]⟩), .int .i64 (chkI c d z e)]) ∧ Below w.heap.size w w' := by
  have CC := Aside0.mk (fun W => PImageDecodes.image_Image_Check.calls 2 c d z e _ W (check_f c d z e (by omega) (by omega)))
  have hb0 := blk_new w (.cells #[.string c, .string d, .int .i64 z, .int .i64 e] 26)
  have B0 := below_alloc (Below.refl w.heap.size w) (.cells #[.string c, .string d, .int .i64 z, .int .i64 e] 26)
  have HI := Aside0.mk hb0
  have HB0 := Aside0.mk B0
  have HK := Aside0.mk hK
  clear hb0 B0 hK
  by_cases hk : chkI c d z e = 0
  · obtain ⟨h1, h2, h3, h4, h5, h6, h7, h8⟩ := chk_ok hk
    rw [hk] at CC ⊢
    obtain ⟨zn, rfl⟩ : ∃ zn : Nat, z = (zn : Int) := ⟨z.toNat, by omega⟩
    obtain ⟨en, rfl⟩ : ∃ en : Nat, e = (en : Int) := ⟨e.toNat, by omega⟩
    have l1 := enc_len9 (show c.size < 9223372036854775808 by omega)
    have l2 := enc_len9 (show d.size < 9223372036854775808 by omega)
    have l3 := enc_len9 (show zn < 9223372036854775808 by omega)
    have l4 := enc_len9 (show en < 9223372036854775808 by omega)
    have l5 := bytesOf_length c
    have l6 := bytesOf_length d
    have HLN := Aside0.mk (And.intro l1 (And.intro l2 (And.intro l3 (And.intro l4 (And.intro l5 l6)))))
    clear l1 l2 l3 l4 l5 l6
    go_enter Tryd.func19, Tryd.ntmps19
    go_wp2_with fail
    refine (CC.out _).mono ?_
    rintro er w1 ⟨rfl, B1⟩
    have i1 := (B1.block _ (blk_lt HI.out)).trans HI.out
    have HB1 := Aside0.mk (below_step HB0.out B1)
    have HI1 := Aside0.mk i1
    clear i1 B1
    go_wp2_with fail
    refine (newWriter_calls w1.heap.size w1 (Nat.le_refl _)).mono ?_
    rintro er w2 ⟨rfl, W2, B2, s2⟩
    have i2 := (B2.block _ (blk_lt HI1.out)).trans HI1.out
    have x2 : w2.cell? ⟨w.heap.size, 0, none⟩ = some (.string c) := blk_cell i2 0
    have HB2 := Aside0.mk (below_step HB1.out B2)
    have HW2 := Aside0.mk W2
    have HI2 := Aside0.mk i2
    have HG := Aside0.mk (show w.heap.size < w1.heap.size from blk_lt HI1.out)
    have HS2 := Aside0.mk s2
    obtain ⟨g, hg⟩ : ∃ g, w1.heap.size = g := ⟨_, rfl⟩
    rw [hg] at HW2 HG HS2 ⊢
    clear i2 W2 B2 s2 hg
    go_wp2_with fail
    refine (text_ok g g _ [] c w2 HW2.out (fun _ h => h.elim) (by have := HS2.out; omega) (by omega) (by simp)).mono ?_
    rintro er w3 ⟨rfl, W3, F3⟩
    have i3 := F3.blk HI2.out (by rintro (h | h); have := HG.out; omega; exact h)
    have B3 := HB2.out.trans (F3.below (B := w.heap.size) (by rintro k (rfl | h); exact Nat.le_of_lt HG.out; exact h.elim) HB2.out.size)
    have x3 : w3.cell? ⟨w.heap.size, 1, none⟩ = some (.string d) := blk_cell i3 1
    have HW3 := Aside0.mk W3.tight
    have HB3 := Aside0.mk B3
    have HI3 := Aside0.mk i3
    have HS3 := Aside0.mk (Nat.le_trans (Nat.le_of_eq HS2.out.symm) F3.size)
    clear W3 B3 F3 i3 x2
    go_wp2_with fail
    refine (text_ok g g _ _ d w3 HW3.out (fun _ h => ⟨h.2.1, h.2.2.2⟩) (by have := HS3.out; omega) (by omega) (by have := HLN.out; simp; omega)).mono ?_
    rintro er w4 ⟨rfl, W4, F4⟩
    have i4 := F4.blk HI3.out (by have := HG.out; rintro (h | h); omega; have := h.2.2.1; omega)
    have B4 := HB3.out.trans (F4.below (B := w.heap.size) (by have := HG.out; rintro k (rfl | h); omega; have := h.2.2.1; omega) HB3.out.size)
    have x4 : w4.cell? ⟨w.heap.size, 2, none⟩ = some (.int .i64 zn) := blk_cell i4 2
    have HW4 := Aside0.mk W4.tight
    have HB4 := Aside0.mk B4
    have HI4 := Aside0.mk i4
    have HS4 := Aside0.mk (Nat.le_trans HS3.out F4.size)
    clear W4 B4 F4 i4 x3
    go_wp2_with fail
    refine (number_ok g g _ _ zn w4 HW4.out (fun _ h => ⟨h.2.1, h.2.2.2⟩) (by have := HS4.out; omega) (by omega) (by have := HLN.out; simp; omega)).mono ?_
    rintro er w5 ⟨rfl, W5, F5⟩
    have i5 := F5.blk HI4.out (by have := HG.out; rintro (h | h); omega; have := h.2.2.1; omega)
    have B5 := HB4.out.trans (F5.below (B := w.heap.size) (by have := HG.out; rintro k (rfl | h); omega; have := h.2.2.1; omega) HB4.out.size)
    have x5 : w5.cell? ⟨w.heap.size, 3, none⟩ = some (.int .i64 en) := blk_cell i5 3
    have HW5 := Aside0.mk W5.tight
    have HB5 := Aside0.mk B5
    have HS5 := Aside0.mk (Nat.le_trans HS4.out F5.size)
    clear W5 B5 F5 i5 x4
    go_wp2_with fail
    refine (number_ok g g _ _ en w5 HW5.out (fun _ h => ⟨h.2.1, h.2.2.2⟩) (by have := HS5.out; omega) (by omega) (by have := HLN.out; simp; omega)).mono ?_
    rintro er w6 ⟨rfl, W6, F6⟩
    have B6 := HB5.out.trans (F6.below (B := w.heap.size) (by have := HG.out; rintro k (rfl | h); omega; have := h.2.2.1; omega) HB5.out.size)
    have hpay : ((([] ++ (enc c.size ++ bytesOf c)) ++ (enc d.size ++ bytesOf d)) ++ enc zn) ++ enc en = payI c d zn en := by unfold payI; rw [Int.toNat_natCast, Int.toNat_natCast]
    have hpl : (payI c d zn en).length ≤ 300000 := by rw [← hpay]; have := HLN.out; simp; omega
    rw [hpay] at W6
    have HW6 := Aside0.mk W6.tight
    have HB6 := Aside0.mk B6
    have HS6 := Aside0.mk (Nat.le_trans HS5.out F6.size)
    have HPL := Aside0.mk hpl
    clear W6 B6 F6 x5 hpay hpl
    go_wp2_with fail
    refine (bytes_ok g g _ _ w6 HW6.out (by have := HPL.out; omega)).mono ?_
    rintro er w7 ⟨v7, rfl, R7, B7⟩
    obtain ⟨A7, n7, c7, rfl⟩ := R_form' R7
    have r7 := Kd.R_reads' R7
    have hcv := Kd.C_string (P := Tryd.prog) (c := c7) Tryd.underlying46 Tryd.underlying5 Tryd.underlying9 r7.2.2
    rw [← r7.1] at hcv
    obtain ⟨ps, hps⟩ : ∃ ps, strOfNums (payI c d zn en) = ps := ⟨_, rfl⟩
    have hpz : ps.size ≤ 300000 := by rw [← hps, ← bytesOf_length, bytesOf_nums _ (payI_by _ _ _ _)]; exact HPL.out
    rw [hps] at hcv
    have HB7 := Aside0.mk (below_step HB6.out B7)
    have hbo : (⟨#[127, 82, 80, 76]⟩ : ByteArray) ++ ps = strOfNums (magI ++ payI c d zn en) := by
      rw [nums_append, ← hps]
      rfl
    have hbb : bytesOf (strOfNums (magI ++ payI c d zn en)) = magI ++ payI c d zn en := bytesOf_nums _ (bytes_app (by intro x hx; simp [magI] at hx; omega) (payI_by c d zn en))
    have hbs : (strOfNums (magI ++ payI c d zn en)).size ≤ 1000000 := by
      rw [← bytesOf_length, hbb, List.length_append]
      have := HPL.out
      show 4 + _ ≤ _
      omega
    obtain ⟨bo, hboe⟩ : ∃ bo, strOfNums (magI ++ payI c d zn en) = bo := ⟨_, rfl⟩
    rw [hboe] at hbo hbb hbs
    have HCK := Aside0.mk (fun W (hW : KT W) => check_calls bo W hW hbs)
    rw [hbb] at HCK
    have HBO := Aside0.mk hbo
    have HBE := Aside0.mk hboe
    have HKW := Aside0.mk (HK.out.after HB7.out)
    have hcz : (strOfNums (sum8 (magI ++ payI c d zn en))).size ≤ 8 := by rw [← bytesOf_length, bytesOf_nums _ (sum8_by _), sum8_len]; exact Nat.le_refl _
    obtain ⟨ck, hck⟩ : ∃ ck, strOfNums (sum8 (magI ++ payI c d zn en)) = ck := ⟨_, rfl⟩
    rw [hck] at HCK hcz
    have HCZ := Aside0.mk (And.intro hck (And.intro hcz hbs))
    clear R7 B7 r7 hbo hbb hbs hboe hcz hck hps
    go_wp2_with fail
    rw [HBO.out]
    refine (HCK.out w7 HKW.out).mono ?_
    rintro er w8 ⟨rfl, B8⟩
    have HB8 := Aside0.mk (below_step HB7.out B8)
    have hcz := HCZ.out.2.1
    have hbs := HCZ.out.2.2
    clear B8 HCK
    go_wp2_with fail
    go_ret2
    have hE : strOfNums (encI c d zn en) = bo ++ strOfNums (sum8 (magI ++ payI c d zn en)) := by
      unfold encI
      rw [nums_append, HBE.out]
    rw [hE, HCZ.out.1]
    exact ⟨rfl, HB8.out⟩
  · rw [if_neg hk]
    go_enter Tryd.func19, Tryd.ntmps19
    go_wp2_with fail
    refine (CC.out _).mono ?_
    rintro er w1 ⟨rfl, B1⟩
    have hkf : (chkI c d z e == 0) = false := beq_eq_false_iff_ne.mpr hk
    have hkg : (chkI c d z e != 0) = true := by simp [bne, hkf]
    have HB1 := Aside0.mk (below_step HB0.out B1)
    clear B1
    go_wp2_with fail
    go_ret2
    exact ⟨rfl, HB1.out⟩
end Go.Proofs.YtbddllklagiajaaDoor
