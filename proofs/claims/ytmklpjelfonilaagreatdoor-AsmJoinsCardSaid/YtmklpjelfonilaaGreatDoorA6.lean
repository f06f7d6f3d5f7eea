/- Package inst, reading: immediate: what it returns. -/
import Derived.Test.YtmklpjelfonilaaGreatDoorA4
namespace Go.Proofs.YtmklpjelfonilaaGreatDoor
open Go.RowKit
attribute [local go_sem] alloc_drewN setCell_drewN wext_size wext_drewN wext_drew wext_setCell wext_cell wext_frozen
set_option linter.unusedVariables false
set_option linter.unusedSimpArgs false

theorem and1_mod (v : Int) (h0 : 0 ≤ v) (h1 : v < 128) : bits .and .i64 v 1 = v % 2 := bits_mask .i64 63 (by decide) wraps_i64 1 (by decide) v h0 (by omega)

/-- `immediate(w, i)`. -/
def immOf (x : Int) (i : Ins) : Option Ins :=
  if bitsOf x 6 0 = 27 then
    if bitsOf x 14 12 = 0 then some { i with fn := 19 }
    else if bitsOf x 14 12 = 1 then (if bitsOf x 31 25 = 0 then some { i with fn := 21, imm := bitsOf x 24 20 } else none)
    else if bitsOf x 14 12 = 5 then (if bitsOf x 31 25 = 0 then some { i with fn := 22, imm := bitsOf x 24 20 } else if bitsOf x 31 25 = 32 then some { i with fn := 23, imm := bitsOf x 24 20 } else none)
    else none
  else
    if bitsOf x 14 12 = 1 then (if bitsOf x 31 26 = 0 then some { i with fn := 3, imm := bitsOf x 25 20 } else none)
    else if bitsOf x 14 12 = 5 then (if bitsOf x 31 26 = 0 then some { i with fn := 7, imm := bitsOf x 25 20 } else if bitsOf x 31 26 = 16 then some { i with fn := 8, imm := bitsOf x 25 20 } else none)
    else some { i with fn := pickOf [1, 0, 4, 5, 6, 0, 9, 10] (bitsOf x 14 12) }

set_option maxRecDepth 100000 in
theorem imm27_0_0 (x : Int) (i : Ins) (w : World) (h0 : 0 ≤ x) (h1 : x < 4294967296) (ho : bitsOf x 6 0 = 27) (hf : bitsOf x 14 12 = 0) (h7 : bitsOf x 31 25 = 0) :
    Calls Tryz.prog 138 #[.int .u32 x, Ins.val i] w fun e w' => e = .returned (.tuple #[Ins.val { i with fn := 19 }, .bool true]) ∧ Below w.heap.size w w' := by
  have HO := Lib.hid ho
  clear ho
  have HF := Lib.hid hf
  clear hf
  have H7 := Lib.hid h7
  clear h7
  have d1 : bits .and .i64 0 1 = 0 := by decide
  obtain ⟨k, fn, rd, rs1, rs2, imm, size, sg⟩ := i
  unfold Ins.val
  go_enter Tryz.func138, Tryz.ntmps138
  go_wp2_with (first
    | (go_at_call 95; refine (op_is _ _ _ h0 h1 HO.out).mono ?_; rintro e w' ⟨rfl, m, rfl⟩)
    | (go_at_call 96; refine (f3_is _ _ _ h0 h1 HF.out).mono ?_; rintro e w' ⟨rfl, m, rfl⟩)
    | (go_at_call 129; refine (f7_is _ _ _ h0 h1 H7.out).mono ?_; rintro e w' ⟨rfl, m, rfl⟩)
    | (go_at_call 100; refine (rd_any _ _ h0 h1).mono ?_; rintro e w' ⟨rfl, m, rfl⟩)
    | (go_at_call 101; refine (rs1_any _ _ h0 h1).mono ?_; rintro e w' ⟨rfl, m, rfl⟩)
    | (go_at_call 102; refine (rs2_any _ _ h0 h1).mono ?_; rintro e w' ⟨rfl, m, rfl⟩)
    | (go_at_call 131; refine (bits_any _ _ _ _ h0 h1 (by omega) (by omega) (by omega)).mono ?_; rintro e w' ⟨rfl, m, rfl⟩))
  go_returns
  exact ⟨rfl, by repeat' (first | (with_reducible exact Below.refl _ _) | (with_reducible assumption) | (with_reducible refine below_drewN ?_ _) | (with_reducible refine Below.alloc ?_ ?_ _) | (with_reducible refine Below.drew ?_) | (with_reducible refine below_wext ?_ _ _ ?_) | (with_reducible refine Below.setCell ?_ ?_ _) | go_size)⟩

set_option maxRecDepth 100000 in
theorem imm27_0_1 (x : Int) (i : Ins) (w : World) (h0 : 0 ≤ x) (h1 : x < 4294967296) (ho : bitsOf x 6 0 = 27) (hf : bitsOf x 14 12 = 1) (h7 : bitsOf x 31 25 = 0) :
    Calls Tryz.prog 138 #[.int .u32 x, Ins.val i] w fun e w' => e = .returned (.tuple #[Ins.val { i with fn := 21, imm := bitsOf x 24 20 }, .bool true]) ∧ Below w.heap.size w w' := by
  have HO := Lib.hid ho
  clear ho
  have HF := Lib.hid hf
  clear hf
  have H7 := Lib.hid h7
  clear h7
  have d1 : bits .and .i64 0 1 = 0 := by decide
  obtain ⟨k, fn, rd, rs1, rs2, imm, size, sg⟩ := i
  unfold Ins.val
  go_enter Tryz.func138, Tryz.ntmps138
  go_wp2_with (first
    | (go_at_call 95; refine (op_is _ _ _ h0 h1 HO.out).mono ?_; rintro e w' ⟨rfl, m, rfl⟩)
    | (go_at_call 96; refine (f3_is _ _ _ h0 h1 HF.out).mono ?_; rintro e w' ⟨rfl, m, rfl⟩)
    | (go_at_call 129; refine (f7_is _ _ _ h0 h1 H7.out).mono ?_; rintro e w' ⟨rfl, m, rfl⟩)
    | (go_at_call 100; refine (rd_any _ _ h0 h1).mono ?_; rintro e w' ⟨rfl, m, rfl⟩)
    | (go_at_call 101; refine (rs1_any _ _ h0 h1).mono ?_; rintro e w' ⟨rfl, m, rfl⟩)
    | (go_at_call 102; refine (rs2_any _ _ h0 h1).mono ?_; rintro e w' ⟨rfl, m, rfl⟩)
    | (go_at_call 131; refine (bits_any _ _ _ _ h0 h1 (by omega) (by omega) (by omega)).mono ?_; rintro e w' ⟨rfl, m, rfl⟩))
  go_returns
  exact ⟨rfl, by repeat' (first | (with_reducible exact Below.refl _ _) | (with_reducible assumption) | (with_reducible refine below_drewN ?_ _) | (with_reducible refine Below.alloc ?_ ?_ _) | (with_reducible refine Below.drew ?_) | (with_reducible refine below_wext ?_ _ _ ?_) | (with_reducible refine Below.setCell ?_ ?_ _) | go_size)⟩

set_option maxRecDepth 100000 in
theorem imm27_0_5 (x : Int) (i : Ins) (w : World) (h0 : 0 ≤ x) (h1 : x < 4294967296) (ho : bitsOf x 6 0 = 27) (hf : bitsOf x 14 12 = 5) (h7 : bitsOf x 31 25 = 0) :
    Calls Tryz.prog 138 #[.int .u32 x, Ins.val i] w fun e w' => e = .returned (.tuple #[Ins.val { i with fn := 22, imm := bitsOf x 24 20 }, .bool true]) ∧ Below w.heap.size w w' := by
  have HO := Lib.hid ho
  clear ho
  have HF := Lib.hid hf
  clear hf
  have H7 := Lib.hid h7
  clear h7
  have d1 : bits .and .i64 0 1 = 0 := by decide
  obtain ⟨k, fn, rd, rs1, rs2, imm, size, sg⟩ := i
  unfold Ins.val
  go_enter Tryz.func138, Tryz.ntmps138
  go_wp2_with (first
    | (go_at_call 95; refine (op_is _ _ _ h0 h1 HO.out).mono ?_; rintro e w' ⟨rfl, m, rfl⟩)
    | (go_at_call 96; refine (f3_is _ _ _ h0 h1 HF.out).mono ?_; rintro e w' ⟨rfl, m, rfl⟩)
    | (go_at_call 129; refine (f7_is _ _ _ h0 h1 H7.out).mono ?_; rintro e w' ⟨rfl, m, rfl⟩)
    | (go_at_call 100; refine (rd_any _ _ h0 h1).mono ?_; rintro e w' ⟨rfl, m, rfl⟩)
    | (go_at_call 101; refine (rs1_any _ _ h0 h1).mono ?_; rintro e w' ⟨rfl, m, rfl⟩)
    | (go_at_call 102; refine (rs2_any _ _ h0 h1).mono ?_; rintro e w' ⟨rfl, m, rfl⟩)
    | (go_at_call 131; refine (bits_any _ _ _ _ h0 h1 (by omega) (by omega) (by omega)).mono ?_; rintro e w' ⟨rfl, m, rfl⟩))
  go_returns
  exact ⟨rfl, by repeat' (first | (with_reducible exact Below.refl _ _) | (with_reducible assumption) | (with_reducible refine below_drewN ?_ _) | (with_reducible refine Below.alloc ?_ ?_ _) | (with_reducible refine Below.drew ?_) | (with_reducible refine below_wext ?_ _ _ ?_) | (with_reducible refine Below.setCell ?_ ?_ _) | go_size)⟩

set_option maxRecDepth 100000 in
theorem imm27_0_x (x : Int) (i : Ins) (w : World) (h0 : 0 ≤ x) (h1 : x < 4294967296) (ho : bitsOf x 6 0 = 27) (f0 : (bitsOf x 14 12 == 0) = false) (f1 : (bitsOf x 14 12 == 1) = false) (f5 : (bitsOf x 14 12 == 5) = false) (h7 : bitsOf x 31 25 = 0) :
    Calls Tryz.prog 138 #[.int .u32 x, Ins.val i] w fun e w' => e = .returned (.tuple #[Ins.val i, .bool false]) ∧ Below w.heap.size w w' := by
  have HO := Lib.hid ho
  clear ho
  have H7 := Lib.hid h7
  clear h7
  have d1 : bits .and .i64 0 1 = 0 := by decide
  obtain ⟨k, fn, rd, rs1, rs2, imm, size, sg⟩ := i
  unfold Ins.val
  go_enter Tryz.func138, Tryz.ntmps138
  go_wp2_with (first
    | (go_at_call 95; refine (op_is _ _ _ h0 h1 HO.out).mono ?_; rintro e w' ⟨rfl, m, rfl⟩)
    | (go_at_call 96; refine (f3_any _ _ h0 h1).mono ?_; rintro e w' ⟨rfl, m, rfl⟩)
    | (go_at_call 129; refine (f7_is _ _ _ h0 h1 H7.out).mono ?_; rintro e w' ⟨rfl, m, rfl⟩)
    | (go_at_call 100; refine (rd_any _ _ h0 h1).mono ?_; rintro e w' ⟨rfl, m, rfl⟩)
    | (go_at_call 101; refine (rs1_any _ _ h0 h1).mono ?_; rintro e w' ⟨rfl, m, rfl⟩)
    | (go_at_call 102; refine (rs2_any _ _ h0 h1).mono ?_; rintro e w' ⟨rfl, m, rfl⟩)
    | (go_at_call 131; refine (bits_any _ _ _ _ h0 h1 (by omega) (by omega) (by omega)).mono ?_; rintro e w' ⟨rfl, m, rfl⟩))
  go_returns
  exact ⟨rfl, by repeat' (first | (with_reducible exact Below.refl _ _) | (with_reducible assumption) | (with_reducible refine below_drewN ?_ _) | (with_reducible refine Below.alloc ?_ ?_ _) | (with_reducible refine Below.drew ?_) | (with_reducible refine below_wext ?_ _ _ ?_) | (with_reducible refine Below.setCell ?_ ?_ _) | go_size)⟩

set_option maxRecDepth 100000 in
theorem imm27_32_0 (x : Int) (i : Ins) (w : World) (h0 : 0 ≤ x) (h1 : x < 4294967296) (ho : bitsOf x 6 0 = 27) (hf : bitsOf x 14 12 = 0) (h7 : bitsOf x 31 25 = 32) :
    Calls Tryz.prog 138 #[.int .u32 x, Ins.val i] w fun e w' => e = .returned (.tuple #[Ins.val { i with fn := 19 }, .bool true]) ∧ Below w.heap.size w w' := by
  have HO := Lib.hid ho
  clear ho
  have HF := Lib.hid hf
  clear hf
  have H7 := Lib.hid h7
  clear h7
  have d1 : bits .and .i64 32 1 = 0 := by decide
  obtain ⟨k, fn, rd, rs1, rs2, imm, size, sg⟩ := i
  unfold Ins.val
  go_enter Tryz.func138, Tryz.ntmps138
  go_wp2_with (first
    | (go_at_call 95; refine (op_is _ _ _ h0 h1 HO.out).mono ?_; rintro e w' ⟨rfl, m, rfl⟩)
    | (go_at_call 96; refine (f3_is _ _ _ h0 h1 HF.out).mono ?_; rintro e w' ⟨rfl, m, rfl⟩)
    | (go_at_call 129; refine (f7_is _ _ _ h0 h1 H7.out).mono ?_; rintro e w' ⟨rfl, m, rfl⟩)
    | (go_at_call 100; refine (rd_any _ _ h0 h1).mono ?_; rintro e w' ⟨rfl, m, rfl⟩)
    | (go_at_call 101; refine (rs1_any _ _ h0 h1).mono ?_; rintro e w' ⟨rfl, m, rfl⟩)
    | (go_at_call 102; refine (rs2_any _ _ h0 h1).mono ?_; rintro e w' ⟨rfl, m, rfl⟩)
    | (go_at_call 131; refine (bits_any _ _ _ _ h0 h1 (by omega) (by omega) (by omega)).mono ?_; rintro e w' ⟨rfl, m, rfl⟩))
  go_returns
  exact ⟨rfl, by repeat' (first | (with_reducible exact Below.refl _ _) | (with_reducible assumption) | (with_reducible refine below_drewN ?_ _) | (with_reducible refine Below.alloc ?_ ?_ _) | (with_reducible refine Below.drew ?_) | (with_reducible refine below_wext ?_ _ _ ?_) | (with_reducible refine Below.setCell ?_ ?_ _) | go_size)⟩

set_option maxRecDepth 100000 in
theorem imm27_32_1 (x : Int) (i : Ins) (w : World) (h0 : 0 ≤ x) (h1 : x < 4294967296) (ho : bitsOf x 6 0 = 27) (hf : bitsOf x 14 12 = 1) (h7 : bitsOf x 31 25 = 32) :
    Calls Tryz.prog 138 #[.int .u32 x, Ins.val i] w fun e w' => e = .returned (.tuple #[Ins.val i, .bool false]) ∧ Below w.heap.size w w' := by
  have HO := Lib.hid ho
  clear ho
  have HF := Lib.hid hf
  clear hf
  have H7 := Lib.hid h7
  clear h7
  have d1 : bits .and .i64 32 1 = 0 := by decide
  obtain ⟨k, fn, rd, rs1, rs2, imm, size, sg⟩ := i
  unfold Ins.val
  go_enter Tryz.func138, Tryz.ntmps138
  go_wp2_with (first
    | (go_at_call 95; refine (op_is _ _ _ h0 h1 HO.out).mono ?_; rintro e w' ⟨rfl, m, rfl⟩)
    | (go_at_call 96; refine (f3_is _ _ _ h0 h1 HF.out).mono ?_; rintro e w' ⟨rfl, m, rfl⟩)
    | (go_at_call 129; refine (f7_is _ _ _ h0 h1 H7.out).mono ?_; rintro e w' ⟨rfl, m, rfl⟩)
    | (go_at_call 100; refine (rd_any _ _ h0 h1).mono ?_; rintro e w' ⟨rfl, m, rfl⟩)
    | (go_at_call 101; refine (rs1_any _ _ h0 h1).mono ?_; rintro e w' ⟨rfl, m, rfl⟩)
    | (go_at_call 102; refine (rs2_any _ _ h0 h1).mono ?_; rintro e w' ⟨rfl, m, rfl⟩)
    | (go_at_call 131; refine (bits_any _ _ _ _ h0 h1 (by omega) (by omega) (by omega)).mono ?_; rintro e w' ⟨rfl, m, rfl⟩))
  go_returns
  exact ⟨rfl, by repeat' (first | (with_reducible exact Below.refl _ _) | (with_reducible assumption) | (with_reducible refine below_drewN ?_ _) | (with_reducible refine Below.alloc ?_ ?_ _) | (with_reducible refine Below.drew ?_) | (with_reducible refine below_wext ?_ _ _ ?_) | (with_reducible refine Below.setCell ?_ ?_ _) | go_size)⟩

set_option maxRecDepth 100000 in
theorem imm27_32_5 (x : Int) (i : Ins) (w : World) (h0 : 0 ≤ x) (h1 : x < 4294967296) (ho : bitsOf x 6 0 = 27) (hf : bitsOf x 14 12 = 5) (h7 : bitsOf x 31 25 = 32) :
    Calls Tryz.prog 138 #[.int .u32 x, Ins.val i] w fun e w' => e = .returned (.tuple #[Ins.val { i with fn := 23, imm := bitsOf x 24 20 }, .bool true]) ∧ Below w.heap.size w w' := by
  have HO := Lib.hid ho
  clear ho
  have HF := Lib.hid hf
  clear hf
  have H7 := Lib.hid h7
  clear h7
  have d1 : bits .and .i64 32 1 = 0 := by decide
  obtain ⟨k, fn, rd, rs1, rs2, imm, size, sg⟩ := i
  unfold Ins.val
  go_enter Tryz.func138, Tryz.ntmps138
  go_wp2_with (first
    | (go_at_call 95; refine (op_is _ _ _ h0 h1 HO.out).mono ?_; rintro e w' ⟨rfl, m, rfl⟩)
    | (go_at_call 96; refine (f3_is _ _ _ h0 h1 HF.out).mono ?_; rintro e w' ⟨rfl, m, rfl⟩)
    | (go_at_call 129; refine (f7_is _ _ _ h0 h1 H7.out).mono ?_; rintro e w' ⟨rfl, m, rfl⟩)
    | (go_at_call 100; refine (rd_any _ _ h0 h1).mono ?_; rintro e w' ⟨rfl, m, rfl⟩)
    | (go_at_call 101; refine (rs1_any _ _ h0 h1).mono ?_; rintro e w' ⟨rfl, m, rfl⟩)
    | (go_at_call 102; refine (rs2_any _ _ h0 h1).mono ?_; rintro e w' ⟨rfl, m, rfl⟩)
    | (go_at_call 131; refine (bits_any _ _ _ _ h0 h1 (by omega) (by omega) (by omega)).mono ?_; rintro e w' ⟨rfl, m, rfl⟩))
  go_returns
  exact ⟨rfl, by repeat' (first | (with_reducible exact Below.refl _ _) | (with_reducible assumption) | (with_reducible refine below_drewN ?_ _) | (with_reducible refine Below.alloc ?_ ?_ _) | (with_reducible refine Below.drew ?_) | (with_reducible refine below_wext ?_ _ _ ?_) | (with_reducible refine Below.setCell ?_ ?_ _) | go_size)⟩

set_option maxRecDepth 100000 in
theorem imm27_32_x (x : Int) (i : Ins) (w : World) (h0 : 0 ≤ x) (h1 : x < 4294967296) (ho : bitsOf x 6 0 = 27) (f0 : (bitsOf x 14 12 == 0) = false) (f1 : (bitsOf x 14 12 == 1) = false) (f5 : (bitsOf x 14 12 == 5) = false) (h7 : bitsOf x 31 25 = 32) :
    Calls Tryz.prog 138 #[.int .u32 x, Ins.val i] w fun e w' => e = .returned (.tuple #[Ins.val i, .bool false]) ∧ Below w.heap.size w w' := by
  have HO := Lib.hid ho
  clear ho
  have H7 := Lib.hid h7
  clear h7
  have d1 : bits .and .i64 32 1 = 0 := by decide
  obtain ⟨k, fn, rd, rs1, rs2, imm, size, sg⟩ := i
  unfold Ins.val
  go_enter Tryz.func138, Tryz.ntmps138
  go_wp2_with (first
    | (go_at_call 95; refine (op_is _ _ _ h0 h1 HO.out).mono ?_; rintro e w' ⟨rfl, m, rfl⟩)
    | (go_at_call 96; refine (f3_any _ _ h0 h1).mono ?_; rintro e w' ⟨rfl, m, rfl⟩)
    | (go_at_call 129; refine (f7_is _ _ _ h0 h1 H7.out).mono ?_; rintro e w' ⟨rfl, m, rfl⟩)
    | (go_at_call 100; refine (rd_any _ _ h0 h1).mono ?_; rintro e w' ⟨rfl, m, rfl⟩)
    | (go_at_call 101; refine (rs1_any _ _ h0 h1).mono ?_; rintro e w' ⟨rfl, m, rfl⟩)
    | (go_at_call 102; refine (rs2_any _ _ h0 h1).mono ?_; rintro e w' ⟨rfl, m, rfl⟩)
    | (go_at_call 131; refine (bits_any _ _ _ _ h0 h1 (by omega) (by omega) (by omega)).mono ?_; rintro e w' ⟨rfl, m, rfl⟩))
  go_returns
  exact ⟨rfl, by repeat' (first | (with_reducible exact Below.refl _ _) | (with_reducible assumption) | (with_reducible refine below_drewN ?_ _) | (with_reducible refine Below.alloc ?_ ?_ _) | (with_reducible refine Below.drew ?_) | (with_reducible refine below_wext ?_ _ _ ?_) | (with_reducible refine Below.setCell ?_ ?_ _) | go_size)⟩

set_option maxRecDepth 100000 in
theorem imm27_odd_0 (x : Int) (i : Ins) (w : World) (h0 : 0 ≤ x) (h1 : x < 4294967296) (ho : bitsOf x 6 0 = 27) (hf : bitsOf x 14 12 = 0) (h7 : bitsOf x 31 25 % 2 = 1) :
    Calls Tryz.prog 138 #[.int .u32 x, Ins.val i] w fun e w' => e = .returned (.tuple #[Ins.val { i with fn := 19 }, .bool true]) ∧ Below w.heap.size w w' := by
  have HO := Lib.hid ho
  clear ho
  have HF := Lib.hid hf
  clear hf
  have r7 := bo7 x 31 25 rfl
  have d1 : (bits .and .i64 (bitsOf x 31 25) 1 == 1) = true := by rw [and1_mod _ r7.1 r7.2, h7]; rfl
  clear h7
  obtain ⟨k, fn, rd, rs1, rs2, imm, size, sg⟩ := i
  unfold Ins.val
  go_enter Tryz.func138, Tryz.ntmps138
  go_wp2_with (first
    | (go_at_call 95; refine (op_is _ _ _ h0 h1 HO.out).mono ?_; rintro e w' ⟨rfl, m, rfl⟩)
    | (go_at_call 96; refine (f3_is _ _ _ h0 h1 HF.out).mono ?_; rintro e w' ⟨rfl, m, rfl⟩)
    | (go_at_call 129; refine (f7_any _ _ h0 h1).mono ?_; rintro e w' ⟨rfl, m, rfl⟩)
    | (go_at_call 100; refine (rd_any _ _ h0 h1).mono ?_; rintro e w' ⟨rfl, m, rfl⟩)
    | (go_at_call 101; refine (rs1_any _ _ h0 h1).mono ?_; rintro e w' ⟨rfl, m, rfl⟩)
    | (go_at_call 102; refine (rs2_any _ _ h0 h1).mono ?_; rintro e w' ⟨rfl, m, rfl⟩)
    | (go_at_call 131; refine (bits_any _ _ _ _ h0 h1 (by omega) (by omega) (by omega)).mono ?_; rintro e w' ⟨rfl, m, rfl⟩))
  go_returns
  exact ⟨rfl, by repeat' (first | (with_reducible exact Below.refl _ _) | (with_reducible assumption) | (with_reducible refine below_drewN ?_ _) | (with_reducible refine Below.alloc ?_ ?_ _) | (with_reducible refine Below.drew ?_) | (with_reducible refine below_wext ?_ _ _ ?_) | (with_reducible refine Below.setCell ?_ ?_ _) | go_size)⟩

set_option maxRecDepth 100000 in
theorem imm27_odd_1 (x : Int) (i : Ins) (w : World) (h0 : 0 ≤ x) (h1 : x < 4294967296) (ho : bitsOf x 6 0 = 27) (hf : bitsOf x 14 12 = 1) (h7 : bitsOf x 31 25 % 2 = 1) :
    Calls Tryz.prog 138 #[.int .u32 x, Ins.val i] w fun e w' => e = .returned (.tuple #[Ins.val i, .bool false]) ∧ Below w.heap.size w w' := by
  have HO := Lib.hid ho
  clear ho
  have HF := Lib.hid hf
  clear hf
  have r7 := bo7 x 31 25 rfl
  have d1 : (bits .and .i64 (bitsOf x 31 25) 1 == 1) = true := by rw [and1_mod _ r7.1 r7.2, h7]; rfl
  clear h7
  obtain ⟨k, fn, rd, rs1, rs2, imm, size, sg⟩ := i
  unfold Ins.val
  go_enter Tryz.func138, Tryz.ntmps138
  go_wp2_with (first
    | (go_at_call 95; refine (op_is _ _ _ h0 h1 HO.out).mono ?_; rintro e w' ⟨rfl, m, rfl⟩)
    | (go_at_call 96; refine (f3_is _ _ _ h0 h1 HF.out).mono ?_; rintro e w' ⟨rfl, m, rfl⟩)
    | (go_at_call 129; refine (f7_any _ _ h0 h1).mono ?_; rintro e w' ⟨rfl, m, rfl⟩)
    | (go_at_call 100; refine (rd_any _ _ h0 h1).mono ?_; rintro e w' ⟨rfl, m, rfl⟩)
    | (go_at_call 101; refine (rs1_any _ _ h0 h1).mono ?_; rintro e w' ⟨rfl, m, rfl⟩)
    | (go_at_call 102; refine (rs2_any _ _ h0 h1).mono ?_; rintro e w' ⟨rfl, m, rfl⟩)
    | (go_at_call 131; refine (bits_any _ _ _ _ h0 h1 (by omega) (by omega) (by omega)).mono ?_; rintro e w' ⟨rfl, m, rfl⟩))
  go_returns
  exact ⟨rfl, by repeat' (first | (with_reducible exact Below.refl _ _) | (with_reducible assumption) | (with_reducible refine below_drewN ?_ _) | (with_reducible refine Below.alloc ?_ ?_ _) | (with_reducible refine Below.drew ?_) | (with_reducible refine below_wext ?_ _ _ ?_) | (with_reducible refine Below.setCell ?_ ?_ _) | go_size)⟩

set_option maxRecDepth 100000 in
theorem imm27_odd_5 (x : Int) (i : Ins) (w : World) (h0 : 0 ≤ x) (h1 : x < 4294967296) (ho : bitsOf x 6 0 = 27) (hf : bitsOf x 14 12 = 5) (h7 : bitsOf x 31 25 % 2 = 1) :
    Calls Tryz.prog 138 #[.int .u32 x, Ins.val i] w fun e w' => e = .returned (.tuple #[Ins.val i, .bool false]) ∧ Below w.heap.size w w' := by
  have HO := Lib.hid ho
  clear ho
  have HF := Lib.hid hf
  clear hf
  have r7 := bo7 x 31 25 rfl
  have d1 : (bits .and .i64 (bitsOf x 31 25) 1 == 1) = true := by rw [and1_mod _ r7.1 r7.2, h7]; rfl
  clear h7
  obtain ⟨k, fn, rd, rs1, rs2, imm, size, sg⟩ := i
  unfold Ins.val
  go_enter Tryz.func138, Tryz.ntmps138
  go_wp2_with (first
    | (go_at_call 95; refine (op_is _ _ _ h0 h1 HO.out).mono ?_; rintro e w' ⟨rfl, m, rfl⟩)
    | (go_at_call 96; refine (f3_is _ _ _ h0 h1 HF.out).mono ?_; rintro e w' ⟨rfl, m, rfl⟩)
    | (go_at_call 129; refine (f7_any _ _ h0 h1).mono ?_; rintro e w' ⟨rfl, m, rfl⟩)
    | (go_at_call 100; refine (rd_any _ _ h0 h1).mono ?_; rintro e w' ⟨rfl, m, rfl⟩)
    | (go_at_call 101; refine (rs1_any _ _ h0 h1).mono ?_; rintro e w' ⟨rfl, m, rfl⟩)
    | (go_at_call 102; refine (rs2_any _ _ h0 h1).mono ?_; rintro e w' ⟨rfl, m, rfl⟩)
    | (go_at_call 131; refine (bits_any _ _ _ _ h0 h1 (by omega) (by omega) (by omega)).mono ?_; rintro e w' ⟨rfl, m, rfl⟩))
  go_returns
  exact ⟨rfl, by repeat' (first | (with_reducible exact Below.refl _ _) | (with_reducible assumption) | (with_reducible refine below_drewN ?_ _) | (with_reducible refine Below.alloc ?_ ?_ _) | (with_reducible refine Below.drew ?_) | (with_reducible refine below_wext ?_ _ _ ?_) | (with_reducible refine Below.setCell ?_ ?_ _) | go_size)⟩

set_option maxRecDepth 100000 in
theorem imm27_odd_x (x : Int) (i : Ins) (w : World) (h0 : 0 ≤ x) (h1 : x < 4294967296) (ho : bitsOf x 6 0 = 27) (f0 : (bitsOf x 14 12 == 0) = false) (f1 : (bitsOf x 14 12 == 1) = false) (f5 : (bitsOf x 14 12 == 5) = false) (h7 : bitsOf x 31 25 % 2 = 1) :
    Calls Tryz.prog 138 #[.int .u32 x, Ins.val i] w fun e w' => e = .returned (.tuple #[Ins.val i, .bool false]) ∧ Below w.heap.size w w' := by
  have HO := Lib.hid ho
  clear ho
  have r7 := bo7 x 31 25 rfl
  have d1 : (bits .and .i64 (bitsOf x 31 25) 1 == 1) = true := by rw [and1_mod _ r7.1 r7.2, h7]; rfl
  clear h7
  obtain ⟨k, fn, rd, rs1, rs2, imm, size, sg⟩ := i
  unfold Ins.val
  go_enter Tryz.func138, Tryz.ntmps138
  go_wp2_with (first
    | (go_at_call 95; refine (op_is _ _ _ h0 h1 HO.out).mono ?_; rintro e w' ⟨rfl, m, rfl⟩)
    | (go_at_call 96; refine (f3_any _ _ h0 h1).mono ?_; rintro e w' ⟨rfl, m, rfl⟩)
    | (go_at_call 129; refine (f7_any _ _ h0 h1).mono ?_; rintro e w' ⟨rfl, m, rfl⟩)
    | (go_at_call 100; refine (rd_any _ _ h0 h1).mono ?_; rintro e w' ⟨rfl, m, rfl⟩)
    | (go_at_call 101; refine (rs1_any _ _ h0 h1).mono ?_; rintro e w' ⟨rfl, m, rfl⟩)
    | (go_at_call 102; refine (rs2_any _ _ h0 h1).mono ?_; rintro e w' ⟨rfl, m, rfl⟩)
    | (go_at_call 131; refine (bits_any _ _ _ _ h0 h1 (by omega) (by omega) (by omega)).mono ?_; rintro e w' ⟨rfl, m, rfl⟩))
  go_returns
  exact ⟨rfl, by repeat' (first | (with_reducible exact Below.refl _ _) | (with_reducible assumption) | (with_reducible refine below_drewN ?_ _) | (with_reducible refine Below.alloc ?_ ?_ _) | (with_reducible refine Below.drew ?_) | (with_reducible refine below_wext ?_ _ _ ?_) | (with_reducible refine Below.setCell ?_ ?_ _) | go_size)⟩

set_option maxRecDepth 100000 in
theorem imm27_even_0 (x : Int) (i : Ins) (w : World) (h0 : 0 ≤ x) (h1 : x < 4294967296) (ho : bitsOf x 6 0 = 27) (hf : bitsOf x 14 12 = 0) (h7 : bitsOf x 31 25 % 2 = 0) (g0 : ¬ bitsOf x 31 25 = 0) (g1 : ¬ bitsOf x 31 25 = 32) :
    Calls Tryz.prog 138 #[.int .u32 x, Ins.val i] w fun e w' => e = .returned (.tuple #[Ins.val { i with fn := 19 }, .bool true]) ∧ Below w.heap.size w w' := by
  have HO := Lib.hid ho
  clear ho
  have HF := Lib.hid hf
  clear hf
  have r7 := bo7 x 31 25 rfl
  have d1 : (bits .and .i64 (bitsOf x 31 25) 1 == 1) = false := by rw [and1_mod _ r7.1 r7.2, h7]; rfl
  have e0 : (bitsOf x 31 25 / 2 == 0) = false := beq_false (by omega)
  have e1 : (bitsOf x 31 25 / 2 == 16) = false := beq_false (by omega)
  clear h7 g0 g1
  obtain ⟨k, fn, rd, rs1, rs2, imm, size, sg⟩ := i
  unfold Ins.val
  go_enter Tryz.func138, Tryz.ntmps138
  go_wp2_with (first
    | (go_at_call 95; refine (op_is _ _ _ h0 h1 HO.out).mono ?_; rintro e w' ⟨rfl, m, rfl⟩)
    | (go_at_call 96; refine (f3_is _ _ _ h0 h1 HF.out).mono ?_; rintro e w' ⟨rfl, m, rfl⟩)
    | (go_at_call 129; refine (f7_any _ _ h0 h1).mono ?_; rintro e w' ⟨rfl, m, rfl⟩)
    | (go_at_call 100; refine (rd_any _ _ h0 h1).mono ?_; rintro e w' ⟨rfl, m, rfl⟩)
    | (go_at_call 101; refine (rs1_any _ _ h0 h1).mono ?_; rintro e w' ⟨rfl, m, rfl⟩)
    | (go_at_call 102; refine (rs2_any _ _ h0 h1).mono ?_; rintro e w' ⟨rfl, m, rfl⟩)
    | (go_at_call 131; refine (bits_any _ _ _ _ h0 h1 (by omega) (by omega) (by omega)).mono ?_; rintro e w' ⟨rfl, m, rfl⟩))
  go_returns
  exact ⟨rfl, by repeat' (first | (with_reducible exact Below.refl _ _) | (with_reducible assumption) | (with_reducible refine below_drewN ?_ _) | (with_reducible refine Below.alloc ?_ ?_ _) | (with_reducible refine Below.drew ?_) | (with_reducible refine below_wext ?_ _ _ ?_) | (with_reducible refine Below.setCell ?_ ?_ _) | go_size)⟩

set_option maxRecDepth 100000 in
theorem imm27_even_1 (x : Int) (i : Ins) (w : World) (h0 : 0 ≤ x) (h1 : x < 4294967296) (ho : bitsOf x 6 0 = 27) (hf : bitsOf x 14 12 = 1) (h7 : bitsOf x 31 25 % 2 = 0) (g0 : ¬ bitsOf x 31 25 = 0) (g1 : ¬ bitsOf x 31 25 = 32) :
    Calls Tryz.prog 138 #[.int .u32 x, Ins.val i] w fun e w' => e = .returned (.tuple #[Ins.val i, .bool false]) ∧ Below w.heap.size w w' := by
  have HO := Lib.hid ho
  clear ho
  have HF := Lib.hid hf
  clear hf
  have r7 := bo7 x 31 25 rfl
  have d1 : (bits .and .i64 (bitsOf x 31 25) 1 == 1) = false := by rw [and1_mod _ r7.1 r7.2, h7]; rfl
  have e0 : (bitsOf x 31 25 / 2 == 0) = false := beq_false (by omega)
  have e1 : (bitsOf x 31 25 / 2 == 16) = false := beq_false (by omega)
  clear h7 g0 g1
  obtain ⟨k, fn, rd, rs1, rs2, imm, size, sg⟩ := i
  unfold Ins.val
  go_enter Tryz.func138, Tryz.ntmps138
  go_wp2_with (first
    | (go_at_call 95; refine (op_is _ _ _ h0 h1 HO.out).mono ?_; rintro e w' ⟨rfl, m, rfl⟩)
    | (go_at_call 96; refine (f3_is _ _ _ h0 h1 HF.out).mono ?_; rintro e w' ⟨rfl, m, rfl⟩)
    | (go_at_call 129; refine (f7_any _ _ h0 h1).mono ?_; rintro e w' ⟨rfl, m, rfl⟩)
    | (go_at_call 100; refine (rd_any _ _ h0 h1).mono ?_; rintro e w' ⟨rfl, m, rfl⟩)
    | (go_at_call 101; refine (rs1_any _ _ h0 h1).mono ?_; rintro e w' ⟨rfl, m, rfl⟩)
    | (go_at_call 102; refine (rs2_any _ _ h0 h1).mono ?_; rintro e w' ⟨rfl, m, rfl⟩)
    | (go_at_call 131; refine (bits_any _ _ _ _ h0 h1 (by omega) (by omega) (by omega)).mono ?_; rintro e w' ⟨rfl, m, rfl⟩))
  go_returns
  exact ⟨rfl, by repeat' (first | (with_reducible exact Below.refl _ _) | (with_reducible assumption) | (with_reducible refine below_drewN ?_ _) | (with_reducible refine Below.alloc ?_ ?_ _) | (with_reducible refine Below.drew ?_) | (with_reducible refine below_wext ?_ _ _ ?_) | (with_reducible refine Below.setCell ?_ ?_ _) | go_size)⟩

set_option maxRecDepth 100000 in
theorem imm27_even_5 (x : Int) (i : Ins) (w : World) (h0 : 0 ≤ x) (h1 : x < 4294967296) (ho : bitsOf x 6 0 = 27) (hf : bitsOf x 14 12 = 5) (h7 : bitsOf x 31 25 % 2 = 0) (g0 : ¬ bitsOf x 31 25 = 0) (g1 : ¬ bitsOf x 31 25 = 32) :
    Calls Tryz.prog 138 #[.int .u32 x, Ins.val i] w fun e w' => e = .returned (.tuple #[Ins.val i, .bool false]) ∧ Below w.heap.size w w' := by
  have HO := Lib.hid ho
  clear ho
  have HF := Lib.hid hf
  clear hf
  have r7 := bo7 x 31 25 rfl
  have d1 : (bits .and .i64 (bitsOf x 31 25) 1 == 1) = false := by rw [and1_mod _ r7.1 r7.2, h7]; rfl
  have e0 : (bitsOf x 31 25 / 2 == 0) = false := beq_false (by omega)
  have e1 : (bitsOf x 31 25 / 2 == 16) = false := beq_false (by omega)
  clear h7 g0 g1
  obtain ⟨k, fn, rd, rs1, rs2, imm, size, sg⟩ := i
  unfold Ins.val
  go_enter Tryz.func138, Tryz.ntmps138
  go_wp2_with (first
    | (go_at_call 95; refine (op_is _ _ _ h0 h1 HO.out).mono ?_; rintro e w' ⟨rfl, m, rfl⟩)
    | (go_at_call 96; refine (f3_is _ _ _ h0 h1 HF.out).mono ?_; rintro e w' ⟨rfl, m, rfl⟩)
    | (go_at_call 129; refine (f7_any _ _ h0 h1).mono ?_; rintro e w' ⟨rfl, m, rfl⟩)
    | (go_at_call 100; refine (rd_any _ _ h0 h1).mono ?_; rintro e w' ⟨rfl, m, rfl⟩)
    | (go_at_call 101; refine (rs1_any _ _ h0 h1).mono ?_; rintro e w' ⟨rfl, m, rfl⟩)
    | (go_at_call 102; refine (rs2_any _ _ h0 h1).mono ?_; rintro e w' ⟨rfl, m, rfl⟩)
    | (go_at_call 131; refine (bits_any _ _ _ _ h0 h1 (by omega) (by omega) (by omega)).mono ?_; rintro e w' ⟨rfl, m, rfl⟩))
  go_returns
  exact ⟨rfl, by repeat' (first | (with_reducible exact Below.refl _ _) | (with_reducible assumption) | (with_reducible refine below_drewN ?_ _) | (with_reducible refine Below.alloc ?_ ?_ _) | (with_reducible refine Below.drew ?_) | (with_reducible refine below_wext ?_ _ _ ?_) | (with_reducible refine Below.setCell ?_ ?_ _) | go_size)⟩

set_option maxRecDepth 100000 in
theorem imm27_even_x (x : Int) (i : Ins) (w : World) (h0 : 0 ≤ x) (h1 : x < 4294967296) (ho : bitsOf x 6 0 = 27) (f0 : (bitsOf x 14 12 == 0) = false) (f1 : (bitsOf x 14 12 == 1) = false) (f5 : (bitsOf x 14 12 == 5) = false) (h7 : bitsOf x 31 25 % 2 = 0) (g0 : ¬ bitsOf x 31 25 = 0) (g1 : ¬ bitsOf x 31 25 = 32) :
    Calls Tryz.prog 138 #[.int .u32 x, Ins.val i] w fun e w' => e = .returned (.tuple #[Ins.val i, .bool false]) ∧ Below w.heap.size w w' := by
  have HO := Lib.hid ho
  clear ho
  have r7 := bo7 x 31 25 rfl
  have d1 : (bits .and .i64 (bitsOf x 31 25) 1 == 1) = false := by rw [and1_mod _ r7.1 r7.2, h7]; rfl
  have e0 : (bitsOf x 31 25 / 2 == 0) = false := beq_false (by omega)
  have e1 : (bitsOf x 31 25 / 2 == 16) = false := beq_false (by omega)
  clear h7 g0 g1
  obtain ⟨k, fn, rd, rs1, rs2, imm, size, sg⟩ := i
  unfold Ins.val
  go_enter Tryz.func138, Tryz.ntmps138
  go_wp2_with (first
    | (go_at_call 95; refine (op_is _ _ _ h0 h1 HO.out).mono ?_; rintro e w' ⟨rfl, m, rfl⟩)
    | (go_at_call 96; refine (f3_any _ _ h0 h1).mono ?_; rintro e w' ⟨rfl, m, rfl⟩)
    | (go_at_call 129; refine (f7_any _ _ h0 h1).mono ?_; rintro e w' ⟨rfl, m, rfl⟩)
    | (go_at_call 100; refine (rd_any _ _ h0 h1).mono ?_; rintro e w' ⟨rfl, m, rfl⟩)
    | (go_at_call 101; refine (rs1_any _ _ h0 h1).mono ?_; rintro e w' ⟨rfl, m, rfl⟩)
    | (go_at_call 102; refine (rs2_any _ _ h0 h1).mono ?_; rintro e w' ⟨rfl, m, rfl⟩)
    | (go_at_call 131; refine (bits_any _ _ _ _ h0 h1 (by omega) (by omega) (by omega)).mono ?_; rintro e w' ⟨rfl, m, rfl⟩))
  go_returns
  exact ⟨rfl, by repeat' (first | (with_reducible exact Below.refl _ _) | (with_reducible assumption) | (with_reducible refine below_drewN ?_ _) | (with_reducible refine Below.alloc ?_ ?_ _) | (with_reducible refine Below.drew ?_) | (with_reducible refine below_wext ?_ _ _ ?_) | (with_reducible refine Below.setCell ?_ ?_ _) | go_size)⟩

set_option maxRecDepth 100000 in
theorem imm19_0_1 (x : Int) (i : Ins) (w : World) (h0 : 0 ≤ x) (h1 : x < 4294967296) (ho : bitsOf x 6 0 = 19) (hf : bitsOf x 14 12 = 1) (hg : bitsOf x 31 26 = 0) :
    Calls Tryz.prog 138 #[.int .u32 x, Ins.val i] w fun e w' => e = .returned (.tuple #[Ins.val { i with fn := 3, imm := bitsOf x 25 20 }, .bool true]) ∧ Below w.heap.size w w' := by
  have HO := Lib.hid ho
  clear ho
  have HF := Lib.hid hf
  clear hf
  have HG := Lib.hid hg
  clear hg
  obtain ⟨k, fn, rd, rs1, rs2, imm, size, sg⟩ := i
  unfold Ins.val
  go_enter Tryz.func138, Tryz.ntmps138
  go_wp2_with (first
    | (go_at_call 95; refine (op_is _ _ _ h0 h1 HO.out).mono ?_; rintro e w' ⟨rfl, m, rfl⟩)
    | (go_at_call 96; refine (f3_is _ _ _ h0 h1 HF.out).mono ?_; rintro e w' ⟨rfl, m, rfl⟩)
    | (go_at_call 129; refine (f7_any _ _ h0 h1).mono ?_; rintro e w' ⟨rfl, m, rfl⟩)
    | (go_at_call 100; refine (rd_any _ _ h0 h1).mono ?_; rintro e w' ⟨rfl, m, rfl⟩)
    | (go_at_call 101; refine (rs1_any _ _ h0 h1).mono ?_; rintro e w' ⟨rfl, m, rfl⟩)
    | (go_at_call 102; refine (rs2_any _ _ h0 h1).mono ?_; rintro e w' ⟨rfl, m, rfl⟩)
    | (go_at_call_of 131 (Value.int IntKind.i64 26); refine (bits_is _ _ 31 26 _ h0 h1 (by omega) (by omega) (by omega) HG.out).mono ?_; rintro e w' ⟨rfl, m, rfl⟩)
    | (go_at_call 131; refine (bits_any _ _ _ _ h0 h1 (by omega) (by omega) (by omega)).mono ?_; rintro e w' ⟨rfl, m, rfl⟩))
  go_returns
  exact ⟨rfl, by repeat' (first | (with_reducible exact Below.refl _ _) | (with_reducible assumption) | (with_reducible refine below_drewN ?_ _) | (with_reducible refine Below.alloc ?_ ?_ _) | (with_reducible refine Below.drew ?_) | (with_reducible refine below_wext ?_ _ _ ?_) | (with_reducible refine Below.setCell ?_ ?_ _) | go_size)⟩

set_option maxRecDepth 100000 in
theorem imm19_0_5 (x : Int) (i : Ins) (w : World) (h0 : 0 ≤ x) (h1 : x < 4294967296) (ho : bitsOf x 6 0 = 19) (hf : bitsOf x 14 12 = 5) (hg : bitsOf x 31 26 = 0) :
    Calls Tryz.prog 138 #[.int .u32 x, Ins.val i] w fun e w' => e = .returned (.tuple #[Ins.val { i with fn := 7, imm := bitsOf x 25 20 }, .bool true]) ∧ Below w.heap.size w w' := by
  have HO := Lib.hid ho
  clear ho
  have HF := Lib.hid hf
  clear hf
  have HG := Lib.hid hg
  clear hg
  obtain ⟨k, fn, rd, rs1, rs2, imm, size, sg⟩ := i
  unfold Ins.val
  go_enter Tryz.func138, Tryz.ntmps138
  go_wp2_with (first
    | (go_at_call 95; refine (op_is _ _ _ h0 h1 HO.out).mono ?_; rintro e w' ⟨rfl, m, rfl⟩)
    | (go_at_call 96; refine (f3_is _ _ _ h0 h1 HF.out).mono ?_; rintro e w' ⟨rfl, m, rfl⟩)
    | (go_at_call 129; refine (f7_any _ _ h0 h1).mono ?_; rintro e w' ⟨rfl, m, rfl⟩)
    | (go_at_call 100; refine (rd_any _ _ h0 h1).mono ?_; rintro e w' ⟨rfl, m, rfl⟩)
    | (go_at_call 101; refine (rs1_any _ _ h0 h1).mono ?_; rintro e w' ⟨rfl, m, rfl⟩)
    | (go_at_call 102; refine (rs2_any _ _ h0 h1).mono ?_; rintro e w' ⟨rfl, m, rfl⟩)
    | (go_at_call_of 131 (Value.int IntKind.i64 26); refine (bits_is _ _ 31 26 _ h0 h1 (by omega) (by omega) (by omega) HG.out).mono ?_; rintro e w' ⟨rfl, m, rfl⟩)
    | (go_at_call 131; refine (bits_any _ _ _ _ h0 h1 (by omega) (by omega) (by omega)).mono ?_; rintro e w' ⟨rfl, m, rfl⟩))
  go_returns
  exact ⟨rfl, by repeat' (first | (with_reducible exact Below.refl _ _) | (with_reducible assumption) | (with_reducible refine below_drewN ?_ _) | (with_reducible refine Below.alloc ?_ ?_ _) | (with_reducible refine Below.drew ?_) | (with_reducible refine below_wext ?_ _ _ ?_) | (with_reducible refine Below.setCell ?_ ?_ _) | go_size)⟩

set_option maxRecDepth 100000 in
theorem imm19_16_1 (x : Int) (i : Ins) (w : World) (h0 : 0 ≤ x) (h1 : x < 4294967296) (ho : bitsOf x 6 0 = 19) (hf : bitsOf x 14 12 = 1) (hg : bitsOf x 31 26 = 16) :
    Calls Tryz.prog 138 #[.int .u32 x, Ins.val i] w fun e w' => e = .returned (.tuple #[Ins.val i, .bool false]) ∧ Below w.heap.size w w' := by
  have HO := Lib.hid ho
  clear ho
  have HF := Lib.hid hf
  clear hf
  have HG := Lib.hid hg
  clear hg
  obtain ⟨k, fn, rd, rs1, rs2, imm, size, sg⟩ := i
  unfold Ins.val
  go_enter Tryz.func138, Tryz.ntmps138
  go_wp2_with (first
    | (go_at_call 95; refine (op_is _ _ _ h0 h1 HO.out).mono ?_; rintro e w' ⟨rfl, m, rfl⟩)
    | (go_at_call 96; refine (f3_is _ _ _ h0 h1 HF.out).mono ?_; rintro e w' ⟨rfl, m, rfl⟩)
    | (go_at_call 129; refine (f7_any _ _ h0 h1).mono ?_; rintro e w' ⟨rfl, m, rfl⟩)
    | (go_at_call 100; refine (rd_any _ _ h0 h1).mono ?_; rintro e w' ⟨rfl, m, rfl⟩)
    | (go_at_call 101; refine (rs1_any _ _ h0 h1).mono ?_; rintro e w' ⟨rfl, m, rfl⟩)
    | (go_at_call 102; refine (rs2_any _ _ h0 h1).mono ?_; rintro e w' ⟨rfl, m, rfl⟩)
    | (go_at_call_of 131 (Value.int IntKind.i64 26); refine (bits_is _ _ 31 26 _ h0 h1 (by omega) (by omega) (by omega) HG.out).mono ?_; rintro e w' ⟨rfl, m, rfl⟩)
    | (go_at_call 131; refine (bits_any _ _ _ _ h0 h1 (by omega) (by omega) (by omega)).mono ?_; rintro e w' ⟨rfl, m, rfl⟩))
  go_returns
  exact ⟨rfl, by repeat' (first | (with_reducible exact Below.refl _ _) | (with_reducible assumption) | (with_reducible refine below_drewN ?_ _) | (with_reducible refine Below.alloc ?_ ?_ _) | (with_reducible refine Below.drew ?_) | (with_reducible refine below_wext ?_ _ _ ?_) | (with_reducible refine Below.setCell ?_ ?_ _) | go_size)⟩

set_option maxRecDepth 100000 in
theorem imm19_16_5 (x : Int) (i : Ins) (w : World) (h0 : 0 ≤ x) (h1 : x < 4294967296) (ho : bitsOf x 6 0 = 19) (hf : bitsOf x 14 12 = 5) (hg : bitsOf x 31 26 = 16) :
    Calls Tryz.prog 138 #[.int .u32 x, Ins.val i] w fun e w' => e = .returned (.tuple #[Ins.val { i with fn := 8, imm := bitsOf x 25 20 }, .bool true]) ∧ Below w.heap.size w w' := by
  have HO := Lib.hid ho
  clear ho
  have HF := Lib.hid hf
  clear hf
  have HG := Lib.hid hg
  clear hg
  obtain ⟨k, fn, rd, rs1, rs2, imm, size, sg⟩ := i
  unfold Ins.val
  go_enter Tryz.func138, Tryz.ntmps138
  go_wp2_with (first
    | (go_at_call 95; refine (op_is _ _ _ h0 h1 HO.out).mono ?_; rintro e w' ⟨rfl, m, rfl⟩)
    | (go_at_call 96; refine (f3_is _ _ _ h0 h1 HF.out).mono ?_; rintro e w' ⟨rfl, m, rfl⟩)
    | (go_at_call 129; refine (f7_any _ _ h0 h1).mono ?_; rintro e w' ⟨rfl, m, rfl⟩)
    | (go_at_call 100; refine (rd_any _ _ h0 h1).mono ?_; rintro e w' ⟨rfl, m, rfl⟩)
    | (go_at_call 101; refine (rs1_any _ _ h0 h1).mono ?_; rintro e w' ⟨rfl, m, rfl⟩)
    | (go_at_call 102; refine (rs2_any _ _ h0 h1).mono ?_; rintro e w' ⟨rfl, m, rfl⟩)
    | (go_at_call_of 131 (Value.int IntKind.i64 26); refine (bits_is _ _ 31 26 _ h0 h1 (by omega) (by omega) (by omega) HG.out).mono ?_; rintro e w' ⟨rfl, m, rfl⟩)
    | (go_at_call 131; refine (bits_any _ _ _ _ h0 h1 (by omega) (by omega) (by omega)).mono ?_; rintro e w' ⟨rfl, m, rfl⟩))
  go_returns
  exact ⟨rfl, by repeat' (first | (with_reducible exact Below.refl _ _) | (with_reducible assumption) | (with_reducible refine below_drewN ?_ _) | (with_reducible refine Below.alloc ?_ ?_ _) | (with_reducible refine Below.drew ?_) | (with_reducible refine below_wext ?_ _ _ ?_) | (with_reducible refine Below.setCell ?_ ?_ _) | go_size)⟩

set_option maxRecDepth 100000 in
theorem imm19_x_1 (x : Int) (i : Ins) (w : World) (h0 : 0 ≤ x) (h1 : x < 4294967296) (ho : bitsOf x 6 0 = 19) (hf : bitsOf x 14 12 = 1) (g0 : (bitsOf x 31 26 == 0) = false) (g1 : (bitsOf x 31 26 == 16) = false) :
    Calls Tryz.prog 138 #[.int .u32 x, Ins.val i] w fun e w' => e = .returned (.tuple #[Ins.val i, .bool false]) ∧ Below w.heap.size w w' := by
  have HO := Lib.hid ho
  clear ho
  have HF := Lib.hid hf
  clear hf
  obtain ⟨k, fn, rd, rs1, rs2, imm, size, sg⟩ := i
  unfold Ins.val
  go_enter Tryz.func138, Tryz.ntmps138
  go_wp2_with (first
    | (go_at_call 95; refine (op_is _ _ _ h0 h1 HO.out).mono ?_; rintro e w' ⟨rfl, m, rfl⟩)
    | (go_at_call 96; refine (f3_is _ _ _ h0 h1 HF.out).mono ?_; rintro e w' ⟨rfl, m, rfl⟩)
    | (go_at_call 129; refine (f7_any _ _ h0 h1).mono ?_; rintro e w' ⟨rfl, m, rfl⟩)
    | (go_at_call 100; refine (rd_any _ _ h0 h1).mono ?_; rintro e w' ⟨rfl, m, rfl⟩)
    | (go_at_call 101; refine (rs1_any _ _ h0 h1).mono ?_; rintro e w' ⟨rfl, m, rfl⟩)
    | (go_at_call 102; refine (rs2_any _ _ h0 h1).mono ?_; rintro e w' ⟨rfl, m, rfl⟩)
    | (go_at_call 131; refine (bits_any _ _ _ _ h0 h1 (by omega) (by omega) (by omega)).mono ?_; rintro e w' ⟨rfl, m, rfl⟩))
  go_returns
  exact ⟨rfl, by repeat' (first | (with_reducible exact Below.refl _ _) | (with_reducible assumption) | (with_reducible refine below_drewN ?_ _) | (with_reducible refine Below.alloc ?_ ?_ _) | (with_reducible refine Below.drew ?_) | (with_reducible refine below_wext ?_ _ _ ?_) | (with_reducible refine Below.setCell ?_ ?_ _) | go_size)⟩

set_option maxRecDepth 100000 in
theorem imm19_x_5 (x : Int) (i : Ins) (w : World) (h0 : 0 ≤ x) (h1 : x < 4294967296) (ho : bitsOf x 6 0 = 19) (hf : bitsOf x 14 12 = 5) (g0 : (bitsOf x 31 26 == 0) = false) (g1 : (bitsOf x 31 26 == 16) = false) :
    Calls Tryz.prog 138 #[.int .u32 x, Ins.val i] w fun e w' => e = .returned (.tuple #[Ins.val i, .bool false]) ∧ Below w.heap.size w w' := by
  have HO := Lib.hid ho
  clear ho
  have HF := Lib.hid hf
  clear hf
  obtain ⟨k, fn, rd, rs1, rs2, imm, size, sg⟩ := i
  unfold Ins.val
  go_enter Tryz.func138, Tryz.ntmps138
  go_wp2_with (first
    | (go_at_call 95; refine (op_is _ _ _ h0 h1 HO.out).mono ?_; rintro e w' ⟨rfl, m, rfl⟩)
    | (go_at_call 96; refine (f3_is _ _ _ h0 h1 HF.out).mono ?_; rintro e w' ⟨rfl, m, rfl⟩)
    | (go_at_call 129; refine (f7_any _ _ h0 h1).mono ?_; rintro e w' ⟨rfl, m, rfl⟩)
    | (go_at_call 100; refine (rd_any _ _ h0 h1).mono ?_; rintro e w' ⟨rfl, m, rfl⟩)
    | (go_at_call 101; refine (rs1_any _ _ h0 h1).mono ?_; rintro e w' ⟨rfl, m, rfl⟩)
    | (go_at_call 102; refine (rs2_any _ _ h0 h1).mono ?_; rintro e w' ⟨rfl, m, rfl⟩)
    | (go_at_call 131; refine (bits_any _ _ _ _ h0 h1 (by omega) (by omega) (by omega)).mono ?_; rintro e w' ⟨rfl, m, rfl⟩))
  go_returns
  exact ⟨rfl, by repeat' (first | (with_reducible exact Below.refl _ _) | (with_reducible assumption) | (with_reducible refine below_drewN ?_ _) | (with_reducible refine Below.alloc ?_ ?_ _) | (with_reducible refine Below.drew ?_) | (with_reducible refine below_wext ?_ _ _ ?_) | (with_reducible refine Below.setCell ?_ ?_ _) | go_size)⟩

set_option maxRecDepth 100000 in
theorem imm19_x_x (x : Int) (i : Ins) (w : World) (h0 : 0 ≤ x) (h1 : x < 4294967296) (ho : bitsOf x 6 0 = 19) (f1 : (bitsOf x 14 12 == 1) = false) (f5 : (bitsOf x 14 12 == 5) = false)  :
    Calls Tryz.prog 138 #[.int .u32 x, Ins.val i] w fun e w' => e = .returned (.tuple #[Ins.val { i with fn := pickOf [1, 0, 4, 5, 6, 0, 9, 10] (bitsOf x 14 12) }, .bool true]) ∧ Below w.heap.size w w' := by
  have HO := Lib.hid ho
  clear ho
  have f1' : (bitsOf x 14 12 != 1) = true := by simpa using f1
  have f5' : (bitsOf x 14 12 != 5) = true := by simpa using f5
  obtain ⟨k, fn, rd, rs1, rs2, imm, size, sg⟩ := i
  unfold Ins.val
  go_enter Tryz.func138, Tryz.ntmps138
  go_wp2_with (first
    | (go_at_call 95; refine (op_is _ _ _ h0 h1 HO.out).mono ?_; rintro e w' ⟨rfl, m, rfl⟩)
    | (go_at_call 96; refine (f3_any _ _ h0 h1).mono ?_; rintro e w' ⟨rfl, m, rfl⟩)
    | (go_at_call 129; refine (f7_any _ _ h0 h1).mono ?_; rintro e w' ⟨rfl, m, rfl⟩)
    | (go_at_call 100; refine (rd_any _ _ h0 h1).mono ?_; rintro e w' ⟨rfl, m, rfl⟩)
    | (go_at_call 101; refine (rs1_any _ _ h0 h1).mono ?_; rintro e w' ⟨rfl, m, rfl⟩)
    | (go_at_call 102; refine (rs2_any _ _ h0 h1).mono ?_; rintro e w' ⟨rfl, m, rfl⟩)
    | (go_at_call 130; refine (pick_blk _ _ [1, 0, 4, 5, 6, 0, 9, 10] _ _ (t := 3) (fz := (0, 0)) ?hb).mono ?_; (case hb => refine heap_at_new _ _ _ _ ?_; simp); rintro e w' ⟨rfl, rfl⟩)
    | (go_at_call 131; refine (bits_any _ _ _ _ h0 h1 (by omega) (by omega) (by omega)).mono ?_; rintro e w' ⟨rfl, m, rfl⟩))
  go_returns
  exact ⟨rfl, by repeat' (first | (with_reducible exact Below.refl _ _) | (with_reducible assumption) | (with_reducible refine below_drewN ?_ _) | (with_reducible refine Below.alloc ?_ ?_ _) | (with_reducible refine Below.drew ?_) | (with_reducible refine below_wext ?_ _ _ ?_) | (with_reducible refine Below.setCell ?_ ?_ _) | go_size)⟩

theorem immediate_reads (x : Int) (i : Ins) (w : World) (h0 : 0 ≤ x) (h1 : x < 4294967296) (ho : bitsOf x 6 0 = 27 ∨ bitsOf x 6 0 = 19) : Reads Tryz.prog 138 #[.int .u32 x, i.val] w (immOf x i) := by
  unfold immOf
  rcases ho with ho | ho
  · rw [if_pos ho]
    by_cases f0 : bitsOf x 14 12 = 0
    · by_cases a0 : bitsOf x 31 25 = 0
      · exact Reads.of (imm27_0_0 x i w h0 h1 ho f0 a0) (by simp [f0, a0])
      by_cases a1 : bitsOf x 31 25 = 32
      · exact Reads.of (imm27_32_0 x i w h0 h1 ho f0 a1) (by simp [f0, a1])
      by_cases a2 : bitsOf x 31 25 % 2 = 1
      · exact Reads.of (imm27_odd_0 x i w h0 h1 ho f0 a2) (by simp [f0, a0, a1])
      exact Reads.of (imm27_even_0 x i w h0 h1 ho f0 (by omega) a0 a1) (by simp [f0, a0, a1])
    by_cases f1 : bitsOf x 14 12 = 1
    · by_cases a0 : bitsOf x 31 25 = 0
      · exact Reads.of (imm27_0_1 x i w h0 h1 ho f1 a0) (by simp [f1, a0])
      by_cases a1 : bitsOf x 31 25 = 32
      · exact Reads.of (imm27_32_1 x i w h0 h1 ho f1 a1) (by simp [f1, a1])
      by_cases a2 : bitsOf x 31 25 % 2 = 1
      · exact Reads.of (imm27_odd_1 x i w h0 h1 ho f1 a2) (by simp [f1, a0, a1])
      exact Reads.of (imm27_even_1 x i w h0 h1 ho f1 (by omega) a0 a1) (by simp [f1, a0, a1])
    by_cases f5 : bitsOf x 14 12 = 5
    · by_cases a0 : bitsOf x 31 25 = 0
      · exact Reads.of (imm27_0_5 x i w h0 h1 ho f5 a0) (by simp [f5, a0])
      by_cases a1 : bitsOf x 31 25 = 32
      · exact Reads.of (imm27_32_5 x i w h0 h1 ho f5 a1) (by simp [f5, a1])
      by_cases a2 : bitsOf x 31 25 % 2 = 1
      · exact Reads.of (imm27_odd_5 x i w h0 h1 ho f5 a2) (by simp [f5, a0, a1])
      exact Reads.of (imm27_even_5 x i w h0 h1 ho f5 (by omega) a0 a1) (by simp [f5, a0, a1])
    by_cases a0 : bitsOf x 31 25 = 0
    · exact Reads.of (imm27_0_x x i w h0 h1 ho (beq_false f0) (beq_false f1) (beq_false f5) a0) (by simp [f0, f1, f5, a0])
    by_cases a1 : bitsOf x 31 25 = 32
    · exact Reads.of (imm27_32_x x i w h0 h1 ho (beq_false f0) (beq_false f1) (beq_false f5) a1) (by simp [f0, f1, f5, a1])
    by_cases a2 : bitsOf x 31 25 % 2 = 1
    · exact Reads.of (imm27_odd_x x i w h0 h1 ho (beq_false f0) (beq_false f1) (beq_false f5) a2) (by simp [f0, f1, f5, a0, a1])
    exact Reads.of (imm27_even_x x i w h0 h1 ho (beq_false f0) (beq_false f1) (beq_false f5) (by omega) a0 a1) (by simp [f0, f1, f5, a0, a1])
  · rw [if_neg (by omega)]
    by_cases f1 : bitsOf x 14 12 = 1
    · by_cases a0 : bitsOf x 31 26 = 0
      · exact Reads.of (imm19_0_1 x i w h0 h1 ho f1 a0) (by simp [f1, a0])
      by_cases a1 : bitsOf x 31 26 = 16
      · exact Reads.of (imm19_16_1 x i w h0 h1 ho f1 a1) (by simp [f1, a1])
      exact Reads.of (imm19_x_1 x i w h0 h1 ho f1 (beq_false a0) (beq_false a1)) (by simp [f1, a0, a1])
    by_cases f5 : bitsOf x 14 12 = 5
    · by_cases a0 : bitsOf x 31 26 = 0
      · exact Reads.of (imm19_0_5 x i w h0 h1 ho f5 a0) (by simp [f5, a0])
      by_cases a1 : bitsOf x 31 26 = 16
      · exact Reads.of (imm19_16_5 x i w h0 h1 ho f5 a1) (by simp [f5, a1])
      exact Reads.of (imm19_x_5 x i w h0 h1 ho f5 (beq_false a0) (beq_false a1)) (by simp [f5, a0, a1])
    exact Reads.of (imm19_x_x x i w h0 h1 ho (beq_false f1) (beq_false f5)) (by simp [f1, f5])
end Go.Proofs.YtmklpjelfonilaaGreatDoor
