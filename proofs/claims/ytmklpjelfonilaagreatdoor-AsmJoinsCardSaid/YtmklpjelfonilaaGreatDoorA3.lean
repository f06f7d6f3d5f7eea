/- Package inst, reading: system, atomic: what each returns. -/
import Derived.Test.YtmklpjelfonilaaGreatDoorA2
namespace Go.Proofs.YtmklpjelfonilaaGreatDoor
open Go.RowKit
attribute [local go_sem] alloc_drewN setCell_drewN wext_size wext_drewN wext_drew wext_setCell wext_cell wext_frozen

/-- An instruction. -/
structure Ins where
  kind : Int := 0
  fn : Int := 0
  rd : Int := 0
  rs1 : Int := 0
  rs2 : Int := 0
  imm : Int := 0
  size : Int := 0
  signed : Bool := false
deriving DecidableEq

def Ins.val (i : Ins) : Value := .agg #[.int .i64 i.kind, .int .i64 i.fn, .int .i64 i.rd, .int .i64 i.rs1, .int .i64 i.rs2, .int .i64 i.imm, .int .i64 i.size, .bool i.signed]

theorem heap_new_dd (w : World) (a n : Nat) (o p : Obj) : ((((w.alloc p).drewN a).alloc o).drewN n).heap[w.heap.size + 1]? = some o := by
  have := heap_alloc_new ((w.alloc p).drewN a) o
  rwa [show ((w.alloc p).drewN a).heap.size = w.heap.size + 1 from by simp] at this
theorem and3 : bits .and .i64 0 3 = 0 ∧ bits .and .i64 1 3 = 1 ∧ bits .and .i64 2 3 = 2 ∧ bits .and .i64 3 3 = 3 ∧ bits .and .i64 4 3 = 0 ∧ bits .and .i64 5 3 = 1 ∧ bits .and .i64 6 3 = 2 ∧ bits .and .i64 7 3 = 3 := by decide

set_option maxRecDepth 100000 in
theorem sys_0 (w : World) :
    Calls Tryz.prog 97 #[.int .u32 115] w fun e w' => e = .returned (.tuple #[Ins.val { kind := 11 }, .bool true]) ∧ Below w.heap.size w w' := by
  go_enter Tryz.func97, Tryz.ntmps97
  go_wp2
  go_returns
  exact ⟨rfl, by repeat' (first | (with_reducible exact Below.refl _ _) | (with_reducible assumption) | (with_reducible refine below_drewN ?_ _) | (with_reducible refine Below.alloc ?_ ?_ _) | (with_reducible refine Below.drew ?_) | (with_reducible refine below_wext ?_ _ _ ?_) | (with_reducible refine Below.setCell ?_ ?_ _) | go_size)⟩

set_option maxRecDepth 100000 in
theorem sys_1 (w : World) :
    Calls Tryz.prog 97 #[.int .u32 1048691] w fun e w' => e = .returned (.tuple #[Ins.val { kind := 12 }, .bool true]) ∧ Below w.heap.size w w' := by
  go_enter Tryz.func97, Tryz.ntmps97
  go_wp2
  go_returns
  exact ⟨rfl, by repeat' (first | (with_reducible exact Below.refl _ _) | (with_reducible assumption) | (with_reducible refine below_drewN ?_ _) | (with_reducible refine Below.alloc ?_ ?_ _) | (with_reducible refine Below.drew ?_) | (with_reducible refine below_wext ?_ _ _ ?_) | (with_reducible refine Below.setCell ?_ ?_ _) | go_size)⟩

set_option maxRecDepth 100000 in
theorem sys_2 (w : World) :
    Calls Tryz.prog 97 #[.int .u32 270532723] w fun e w' => e = .returned (.tuple #[Ins.val { kind := 18 }, .bool true]) ∧ Below w.heap.size w w' := by
  go_enter Tryz.func97, Tryz.ntmps97
  go_wp2
  go_returns
  exact ⟨rfl, by repeat' (first | (with_reducible exact Below.refl _ _) | (with_reducible assumption) | (with_reducible refine below_drewN ?_ _) | (with_reducible refine Below.alloc ?_ ?_ _) | (with_reducible refine Below.drew ?_) | (with_reducible refine below_wext ?_ _ _ ?_) | (with_reducible refine Below.setCell ?_ ?_ _) | go_size)⟩

set_option maxRecDepth 100000 in
theorem sys_3 (w : World) :
    Calls Tryz.prog 97 #[.int .u32 273678451] w fun e w' => e = .returned (.tuple #[Ins.val { kind := 19 }, .bool true]) ∧ Below w.heap.size w w' := by
  go_enter Tryz.func97, Tryz.ntmps97
  go_wp2
  go_returns
  exact ⟨rfl, by repeat' (first | (with_reducible exact Below.refl _ _) | (with_reducible assumption) | (with_reducible refine below_drewN ?_ _) | (with_reducible refine Below.alloc ?_ ?_ _) | (with_reducible refine Below.drew ?_) | (with_reducible refine below_wext ?_ _ _ ?_) | (with_reducible refine Below.setCell ?_ ?_ _) | go_size)⟩

set_option maxRecDepth 100000 in
theorem sys_f0_9 (x : Int) (w : World) (h0 : 0 ≤ x) (h1 : x < 4294967296) (a1 : (x == 115) = false) (a2 : (x == 1048691) = false) (a3 : (x == 270532723) = false) (a4 : (x == 273678451) = false) (hf : bitsOf x 14 12 = 0) (h7 : bitsOf x 31 25 = 9) :
    Calls Tryz.prog 97 #[.int .u32 x] w fun e w' => e = .returned (.tuple #[Ins.val { kind := 20, rs1 := bitsOf x 19 15, rs2 := bitsOf x 24 20 }, .bool (bitsOf x 11 7 == 0)]) ∧ Below w.heap.size w w' := by
  have HF := Lib.hid hf
  clear hf
  have H7 := Lib.hid h7
  clear h7
  go_enter Tryz.func97, Tryz.ntmps97
  go_wp2_with (first
    | (go_at_call 95; refine (op_any _ _ h0 h1).mono ?_; rintro e w' ⟨rfl, m, rfl⟩)
    | (go_at_call 96; refine (f3_is _ _ _ h0 h1 HF.out).mono ?_; rintro e w' ⟨rfl, m, rfl⟩)
    | (go_at_call 129; refine (f7_is _ _ _ h0 h1 H7.out).mono ?_; rintro e w' ⟨rfl, m, rfl⟩)
    | (go_at_call 100; refine (rd_any _ _ h0 h1).mono ?_; rintro e w' ⟨rfl, m, rfl⟩)
    | (go_at_call 101; refine (rs1_any _ _ h0 h1).mono ?_; rintro e w' ⟨rfl, m, rfl⟩)
    | (go_at_call 102; refine (rs2_any _ _ h0 h1).mono ?_; rintro e w' ⟨rfl, m, rfl⟩)
    | (go_at_call 131; refine (bits_any _ _ _ _ h0 h1 (by omega) (by omega) (by omega)).mono ?_; rintro e w' ⟨rfl, m, rfl⟩))
  go_returns
  exact ⟨rfl, by repeat' (first | (with_reducible exact Below.refl _ _) | (with_reducible assumption) | (with_reducible refine below_drewN ?_ _) | (with_reducible refine Below.alloc ?_ ?_ _) | (with_reducible refine Below.drew ?_) | (with_reducible refine below_wext ?_ _ _ ?_) | (with_reducible refine Below.setCell ?_ ?_ _) | go_size)⟩

set_option maxRecDepth 100000 in
theorem sys_f0_x (x : Int) (w : World) (h0 : 0 ≤ x) (h1 : x < 4294967296) (a1 : (x == 115) = false) (a2 : (x == 1048691) = false) (a3 : (x == 270532723) = false) (a4 : (x == 273678451) = false) (hf : bitsOf x 14 12 = 0) (h7 : (bitsOf x 31 25 == 9) = false) :
    Calls Tryz.prog 97 #[.int .u32 x] w fun e w' => e = .returned (.tuple #[Ins.val { kind := 20, rs1 := bitsOf x 19 15, rs2 := bitsOf x 24 20 }, .bool false]) ∧ Below w.heap.size w w' := by
  have HF := Lib.hid hf
  clear hf
  go_enter Tryz.func97, Tryz.ntmps97
  go_wp2_with (first
    | (go_at_call 95; refine (op_any _ _ h0 h1).mono ?_; rintro e w' ⟨rfl, m, rfl⟩)
    | (go_at_call 96; refine (f3_is _ _ _ h0 h1 HF.out).mono ?_; rintro e w' ⟨rfl, m, rfl⟩)
    | (go_at_call 129; refine (f7_any _ _ h0 h1).mono ?_; rintro e w' ⟨rfl, m, rfl⟩)
    | (go_at_call 100; refine (rd_any _ _ h0 h1).mono ?_; rintro e w' ⟨rfl, m, rfl⟩)
    | (go_at_call 101; refine (rs1_any _ _ h0 h1).mono ?_; rintro e w' ⟨rfl, m, rfl⟩)
    | (go_at_call 102; refine (rs2_any _ _ h0 h1).mono ?_; rintro e w' ⟨rfl, m, rfl⟩)
    | (go_at_call 131; refine (bits_any _ _ _ _ h0 h1 (by omega) (by omega) (by omega)).mono ?_; rintro e w' ⟨rfl, m, rfl⟩))
  go_returns
  exact ⟨rfl, by repeat' (first | (with_reducible exact Below.refl _ _) | (with_reducible assumption) | (with_reducible refine below_drewN ?_ _) | (with_reducible refine Below.alloc ?_ ?_ _) | (with_reducible refine Below.drew ?_) | (with_reducible refine below_wext ?_ _ _ ?_) | (with_reducible refine Below.setCell ?_ ?_ _) | go_size)⟩

set_option maxRecDepth 100000 in
theorem sys_f1 (x : Int) (w : World) (h0 : 0 ≤ x) (h1 : x < 4294967296) (a1 : (x == 115) = false) (a2 : (x == 1048691) = false) (a3 : (x == 270532723) = false) (a4 : (x == 273678451) = false) (hf : bitsOf x 14 12 = 1) :
    Calls Tryz.prog 97 #[.int .u32 x] w fun e w' => e = .returned (.tuple #[Ins.val { kind := 13, fn := 1, rd := bitsOf x 11 7, rs1 := bitsOf x 19 15, imm := bitsOf x 31 20 }, .bool true]) ∧ Below w.heap.size w w' := by
  have HF := Lib.hid hf
  clear hf
  have b3 : bits .and .i64 1 3 = 1 := by decide
  go_enter Tryz.func97, Tryz.ntmps97
  go_wp2_with (first
    | (go_at_call 95; refine (op_any _ _ h0 h1).mono ?_; rintro e w' ⟨rfl, m, rfl⟩)
    | (go_at_call 96; refine (f3_is _ _ _ h0 h1 HF.out).mono ?_; rintro e w' ⟨rfl, m, rfl⟩)
    | (go_at_call 129; refine (f7_any _ _ h0 h1).mono ?_; rintro e w' ⟨rfl, m, rfl⟩)
    | (go_at_call 100; refine (rd_any _ _ h0 h1).mono ?_; rintro e w' ⟨rfl, m, rfl⟩)
    | (go_at_call 101; refine (rs1_any _ _ h0 h1).mono ?_; rintro e w' ⟨rfl, m, rfl⟩)
    | (go_at_call 102; refine (rs2_any _ _ h0 h1).mono ?_; rintro e w' ⟨rfl, m, rfl⟩)
    | (go_at_call 131; refine (bits_any _ _ _ _ h0 h1 (by omega) (by omega) (by omega)).mono ?_; rintro e w' ⟨rfl, m, rfl⟩))
  go_region
  all_goals go_wp2
  all_goals go_returns
  all_goals exact ⟨rfl, by repeat' (first | (with_reducible exact Below.refl _ _) | (with_reducible assumption) | (with_reducible refine below_drewN ?_ _) | (with_reducible refine Below.alloc ?_ ?_ _) | (with_reducible refine Below.drew ?_) | (with_reducible refine below_wext ?_ _ _ ?_) | (with_reducible refine Below.setCell ?_ ?_ _) | go_size)⟩

set_option maxRecDepth 100000 in
theorem sys_f2 (x : Int) (w : World) (h0 : 0 ≤ x) (h1 : x < 4294967296) (a1 : (x == 115) = false) (a2 : (x == 1048691) = false) (a3 : (x == 270532723) = false) (a4 : (x == 273678451) = false) (hf : bitsOf x 14 12 = 2) :
    Calls Tryz.prog 97 #[.int .u32 x] w fun e w' => e = .returned (.tuple #[Ins.val { kind := 13, fn := 2, rd := bitsOf x 11 7, rs1 := bitsOf x 19 15, imm := bitsOf x 31 20 }, .bool true]) ∧ Below w.heap.size w w' := by
  have HF := Lib.hid hf
  clear hf
  have b3 : bits .and .i64 2 3 = 2 := by decide
  go_enter Tryz.func97, Tryz.ntmps97
  go_wp2_with (first
    | (go_at_call 95; refine (op_any _ _ h0 h1).mono ?_; rintro e w' ⟨rfl, m, rfl⟩)
    | (go_at_call 96; refine (f3_is _ _ _ h0 h1 HF.out).mono ?_; rintro e w' ⟨rfl, m, rfl⟩)
    | (go_at_call 129; refine (f7_any _ _ h0 h1).mono ?_; rintro e w' ⟨rfl, m, rfl⟩)
    | (go_at_call 100; refine (rd_any _ _ h0 h1).mono ?_; rintro e w' ⟨rfl, m, rfl⟩)
    | (go_at_call 101; refine (rs1_any _ _ h0 h1).mono ?_; rintro e w' ⟨rfl, m, rfl⟩)
    | (go_at_call 102; refine (rs2_any _ _ h0 h1).mono ?_; rintro e w' ⟨rfl, m, rfl⟩)
    | (go_at_call 131; refine (bits_any _ _ _ _ h0 h1 (by omega) (by omega) (by omega)).mono ?_; rintro e w' ⟨rfl, m, rfl⟩))
  go_region
  all_goals go_wp2
  all_goals go_returns
  all_goals exact ⟨rfl, by repeat' (first | (with_reducible exact Below.refl _ _) | (with_reducible assumption) | (with_reducible refine below_drewN ?_ _) | (with_reducible refine Below.alloc ?_ ?_ _) | (with_reducible refine Below.drew ?_) | (with_reducible refine below_wext ?_ _ _ ?_) | (with_reducible refine Below.setCell ?_ ?_ _) | go_size)⟩

set_option maxRecDepth 100000 in
theorem sys_f3 (x : Int) (w : World) (h0 : 0 ≤ x) (h1 : x < 4294967296) (a1 : (x == 115) = false) (a2 : (x == 1048691) = false) (a3 : (x == 270532723) = false) (a4 : (x == 273678451) = false) (hf : bitsOf x 14 12 = 3) :
    Calls Tryz.prog 97 #[.int .u32 x] w fun e w' => e = .returned (.tuple #[Ins.val { kind := 13, fn := 3, rd := bitsOf x 11 7, rs1 := bitsOf x 19 15, imm := bitsOf x 31 20 }, .bool true]) ∧ Below w.heap.size w w' := by
  have HF := Lib.hid hf
  clear hf
  have b3 : bits .and .i64 3 3 = 3 := by decide
  go_enter Tryz.func97, Tryz.ntmps97
  go_wp2_with (first
    | (go_at_call 95; refine (op_any _ _ h0 h1).mono ?_; rintro e w' ⟨rfl, m, rfl⟩)
    | (go_at_call 96; refine (f3_is _ _ _ h0 h1 HF.out).mono ?_; rintro e w' ⟨rfl, m, rfl⟩)
    | (go_at_call 129; refine (f7_any _ _ h0 h1).mono ?_; rintro e w' ⟨rfl, m, rfl⟩)
    | (go_at_call 100; refine (rd_any _ _ h0 h1).mono ?_; rintro e w' ⟨rfl, m, rfl⟩)
    | (go_at_call 101; refine (rs1_any _ _ h0 h1).mono ?_; rintro e w' ⟨rfl, m, rfl⟩)
    | (go_at_call 102; refine (rs2_any _ _ h0 h1).mono ?_; rintro e w' ⟨rfl, m, rfl⟩)
    | (go_at_call 131; refine (bits_any _ _ _ _ h0 h1 (by omega) (by omega) (by omega)).mono ?_; rintro e w' ⟨rfl, m, rfl⟩))
  go_region
  all_goals go_wp2
  all_goals go_returns
  all_goals exact ⟨rfl, by repeat' (first | (with_reducible exact Below.refl _ _) | (with_reducible assumption) | (with_reducible refine below_drewN ?_ _) | (with_reducible refine Below.alloc ?_ ?_ _) | (with_reducible refine Below.drew ?_) | (with_reducible refine below_wext ?_ _ _ ?_) | (with_reducible refine Below.setCell ?_ ?_ _) | go_size)⟩

set_option maxRecDepth 100000 in
theorem sys_f4 (x : Int) (w : World) (h0 : 0 ≤ x) (h1 : x < 4294967296) (a1 : (x == 115) = false) (a2 : (x == 1048691) = false) (a3 : (x == 270532723) = false) (a4 : (x == 273678451) = false) (hf : bitsOf x 14 12 = 4) :
    Calls Tryz.prog 97 #[.int .u32 x] w fun e w' => e = .returned (.tuple #[Ins.val { kind := 14, fn := 0, rd := bitsOf x 11 7, rs1 := bitsOf x 19 15, imm := bitsOf x 31 20 }, .bool false]) ∧ Below w.heap.size w w' := by
  have HF := Lib.hid hf
  clear hf
  have b3 : bits .and .i64 4 3 = 0 := by decide
  go_enter Tryz.func97, Tryz.ntmps97
  go_wp2_with (first
    | (go_at_call 95; refine (op_any _ _ h0 h1).mono ?_; rintro e w' ⟨rfl, m, rfl⟩)
    | (go_at_call 96; refine (f3_is _ _ _ h0 h1 HF.out).mono ?_; rintro e w' ⟨rfl, m, rfl⟩)
    | (go_at_call 129; refine (f7_any _ _ h0 h1).mono ?_; rintro e w' ⟨rfl, m, rfl⟩)
    | (go_at_call 100; refine (rd_any _ _ h0 h1).mono ?_; rintro e w' ⟨rfl, m, rfl⟩)
    | (go_at_call 101; refine (rs1_any _ _ h0 h1).mono ?_; rintro e w' ⟨rfl, m, rfl⟩)
    | (go_at_call 102; refine (rs2_any _ _ h0 h1).mono ?_; rintro e w' ⟨rfl, m, rfl⟩)
    | (go_at_call 131; refine (bits_any _ _ _ _ h0 h1 (by omega) (by omega) (by omega)).mono ?_; rintro e w' ⟨rfl, m, rfl⟩))
  go_region
  all_goals go_wp2
  all_goals go_returns
  all_goals exact ⟨rfl, by repeat' (first | (with_reducible exact Below.refl _ _) | (with_reducible assumption) | (with_reducible refine below_drewN ?_ _) | (with_reducible refine Below.alloc ?_ ?_ _) | (with_reducible refine Below.drew ?_) | (with_reducible refine below_wext ?_ _ _ ?_) | (with_reducible refine Below.setCell ?_ ?_ _) | go_size)⟩

set_option maxRecDepth 100000 in
theorem sys_f5 (x : Int) (w : World) (h0 : 0 ≤ x) (h1 : x < 4294967296) (a1 : (x == 115) = false) (a2 : (x == 1048691) = false) (a3 : (x == 270532723) = false) (a4 : (x == 273678451) = false) (hf : bitsOf x 14 12 = 5) :
    Calls Tryz.prog 97 #[.int .u32 x] w fun e w' => e = .returned (.tuple #[Ins.val { kind := 14, fn := 1, rd := bitsOf x 11 7, rs1 := bitsOf x 19 15, imm := bitsOf x 31 20 }, .bool true]) ∧ Below w.heap.size w w' := by
  have HF := Lib.hid hf
  clear hf
  have b3 : bits .and .i64 5 3 = 1 := by decide
  go_enter Tryz.func97, Tryz.ntmps97
  go_wp2_with (first
    | (go_at_call 95; refine (op_any _ _ h0 h1).mono ?_; rintro e w' ⟨rfl, m, rfl⟩)
    | (go_at_call 96; refine (f3_is _ _ _ h0 h1 HF.out).mono ?_; rintro e w' ⟨rfl, m, rfl⟩)
    | (go_at_call 129; refine (f7_any _ _ h0 h1).mono ?_; rintro e w' ⟨rfl, m, rfl⟩)
    | (go_at_call 100; refine (rd_any _ _ h0 h1).mono ?_; rintro e w' ⟨rfl, m, rfl⟩)
    | (go_at_call 101; refine (rs1_any _ _ h0 h1).mono ?_; rintro e w' ⟨rfl, m, rfl⟩)
    | (go_at_call 102; refine (rs2_any _ _ h0 h1).mono ?_; rintro e w' ⟨rfl, m, rfl⟩)
    | (go_at_call 131; refine (bits_any _ _ _ _ h0 h1 (by omega) (by omega) (by omega)).mono ?_; rintro e w' ⟨rfl, m, rfl⟩))
  go_region
  all_goals go_wp2
  all_goals go_returns
  all_goals exact ⟨rfl, by repeat' (first | (with_reducible exact Below.refl _ _) | (with_reducible assumption) | (with_reducible refine below_drewN ?_ _) | (with_reducible refine Below.alloc ?_ ?_ _) | (with_reducible refine Below.drew ?_) | (with_reducible refine below_wext ?_ _ _ ?_) | (with_reducible refine Below.setCell ?_ ?_ _) | go_size)⟩

set_option maxRecDepth 100000 in
theorem sys_f6 (x : Int) (w : World) (h0 : 0 ≤ x) (h1 : x < 4294967296) (a1 : (x == 115) = false) (a2 : (x == 1048691) = false) (a3 : (x == 270532723) = false) (a4 : (x == 273678451) = false) (hf : bitsOf x 14 12 = 6) :
    Calls Tryz.prog 97 #[.int .u32 x] w fun e w' => e = .returned (.tuple #[Ins.val { kind := 14, fn := 2, rd := bitsOf x 11 7, rs1 := bitsOf x 19 15, imm := bitsOf x 31 20 }, .bool true]) ∧ Below w.heap.size w w' := by
  have HF := Lib.hid hf
  clear hf
  have b3 : bits .and .i64 6 3 = 2 := by decide
  go_enter Tryz.func97, Tryz.ntmps97
  go_wp2_with (first
    | (go_at_call 95; refine (op_any _ _ h0 h1).mono ?_; rintro e w' ⟨rfl, m, rfl⟩)
    | (go_at_call 96; refine (f3_is _ _ _ h0 h1 HF.out).mono ?_; rintro e w' ⟨rfl, m, rfl⟩)
    | (go_at_call 129; refine (f7_any _ _ h0 h1).mono ?_; rintro e w' ⟨rfl, m, rfl⟩)
    | (go_at_call 100; refine (rd_any _ _ h0 h1).mono ?_; rintro e w' ⟨rfl, m, rfl⟩)
    | (go_at_call 101; refine (rs1_any _ _ h0 h1).mono ?_; rintro e w' ⟨rfl, m, rfl⟩)
    | (go_at_call 102; refine (rs2_any _ _ h0 h1).mono ?_; rintro e w' ⟨rfl, m, rfl⟩)
    | (go_at_call 131; refine (bits_any _ _ _ _ h0 h1 (by omega) (by omega) (by omega)).mono ?_; rintro e w' ⟨rfl, m, rfl⟩))
  go_region
  all_goals go_wp2
  all_goals go_returns
  all_goals exact ⟨rfl, by repeat' (first | (with_reducible exact Below.refl _ _) | (with_reducible assumption) | (with_reducible refine below_drewN ?_ _) | (with_reducible refine Below.alloc ?_ ?_ _) | (with_reducible refine Below.drew ?_) | (with_reducible refine below_wext ?_ _ _ ?_) | (with_reducible refine Below.setCell ?_ ?_ _) | go_size)⟩

set_option maxRecDepth 100000 in
theorem sys_f7 (x : Int) (w : World) (h0 : 0 ≤ x) (h1 : x < 4294967296) (a1 : (x == 115) = false) (a2 : (x == 1048691) = false) (a3 : (x == 270532723) = false) (a4 : (x == 273678451) = false) (hf : bitsOf x 14 12 = 7) :
    Calls Tryz.prog 97 #[.int .u32 x] w fun e w' => e = .returned (.tuple #[Ins.val { kind := 14, fn := 3, rd := bitsOf x 11 7, rs1 := bitsOf x 19 15, imm := bitsOf x 31 20 }, .bool true]) ∧ Below w.heap.size w w' := by
  have HF := Lib.hid hf
  clear hf
  have b3 : bits .and .i64 7 3 = 3 := by decide
  go_enter Tryz.func97, Tryz.ntmps97
  go_wp2_with (first
    | (go_at_call 95; refine (op_any _ _ h0 h1).mono ?_; rintro e w' ⟨rfl, m, rfl⟩)
    | (go_at_call 96; refine (f3_is _ _ _ h0 h1 HF.out).mono ?_; rintro e w' ⟨rfl, m, rfl⟩)
    | (go_at_call 129; refine (f7_any _ _ h0 h1).mono ?_; rintro e w' ⟨rfl, m, rfl⟩)
    | (go_at_call 100; refine (rd_any _ _ h0 h1).mono ?_; rintro e w' ⟨rfl, m, rfl⟩)
    | (go_at_call 101; refine (rs1_any _ _ h0 h1).mono ?_; rintro e w' ⟨rfl, m, rfl⟩)
    | (go_at_call 102; refine (rs2_any _ _ h0 h1).mono ?_; rintro e w' ⟨rfl, m, rfl⟩)
    | (go_at_call 131; refine (bits_any _ _ _ _ h0 h1 (by omega) (by omega) (by omega)).mono ?_; rintro e w' ⟨rfl, m, rfl⟩))
  go_region
  all_goals go_wp2
  all_goals go_returns
  all_goals exact ⟨rfl, by repeat' (first | (with_reducible exact Below.refl _ _) | (with_reducible assumption) | (with_reducible refine below_drewN ?_ _) | (with_reducible refine Below.alloc ?_ ?_ _) | (with_reducible refine Below.drew ?_) | (with_reducible refine below_wext ?_ _ _ ?_) | (with_reducible refine Below.setCell ?_ ?_ _) | go_size)⟩

theorem f3_cases (x : Int) : bitsOf x 14 12 = 0 ∨ bitsOf x 14 12 = 1 ∨ bitsOf x 14 12 = 2 ∨ bitsOf x 14 12 = 3 ∨ bitsOf x 14 12 = 4 ∨ bitsOf x 14 12 = 5 ∨ bitsOf x 14 12 = 6 ∨ bitsOf x 14 12 = 7 := by
  have := bo3 x 14 12 rfl
  omega

/-- `system(w)`. -/
def sysOf (x : Int) : Option Ins :=
  if x = 115 then some { kind := 11 } else if x = 1048691 then some { kind := 12 } else if x = 270532723 then some { kind := 18 } else if x = 273678451 then some { kind := 19 }
  else if bitsOf x 14 12 = 0 then (if bitsOf x 31 25 = 9 ∧ bitsOf x 11 7 = 0 then some { kind := 20, rs1 := bitsOf x 19 15, rs2 := bitsOf x 24 20 } else none)
  else if bitsOf x 14 12 = 4 then none
  else some { kind := if 3 < bitsOf x 14 12 then 14 else 13, fn := bitsOf x 14 12 % 4, rd := bitsOf x 11 7, rs1 := bitsOf x 19 15, imm := bitsOf x 31 20 }

/-- What a reader comes to. -/
def RPost (r : Option Ins) (w : World) (e : Ending) (w' : World) : Prop := ∃ (i : Ins) (b : Bool), e = .returned (.tuple #[i.val, .bool b]) ∧ r = (if b then some i else none) ∧ Below w.heap.size w w'
def Reads (P : Program) (f : FuncId) (args : Array Value) (w : World) (r : Option Ins) : Prop := Calls P f args w (RPost r w)

theorem Reads.of {P : Program} {f : FuncId} {args : Array Value} {w : World} {r : Option Ins} {i : Ins} {b : Bool} (h : Calls P f args w fun e w' => e = .returned (.tuple #[i.val, .bool b]) ∧ Below w.heap.size w w')
    (hr : r = if b then some i else none) : Reads P f args w r := h.mono fun _ _ ⟨he, hb⟩ => ⟨i, b, he, hr, hb⟩

theorem beq_false {a b : Int} (h : ¬ a = b) : (a == b) = false := by simpa using h

theorem system_reads (x : Int) (w : World) (h0 : 0 ≤ x) (h1 : x < 4294967296) : Reads Tryz.prog 97 #[.int .u32 x] w (sysOf x) := by
  unfold sysOf
  by_cases c1 : x = 115
  · subst c1; exact Reads.of (sys_0 w) (by simp)
  by_cases c2 : x = 1048691
  · subst c2; exact Reads.of (sys_1 w) (by simp)
  by_cases c3 : x = 270532723
  · subst c3; exact Reads.of (sys_2 w) (by simp)
  by_cases c4 : x = 273678451
  · subst c4; exact Reads.of (sys_3 w) (by simp)
  have a1 := beq_false c1
  have a2 := beq_false c2
  have a3 := beq_false c3
  have a4 := beq_false c4
  rw [if_neg c1, if_neg c2, if_neg c3, if_neg c4]
  rcases f3_cases x with h | h | h | h | h | h | h | h
  · rw [if_pos h]
    by_cases h7 : bitsOf x 31 25 = 9
    · exact Reads.of (sys_f0_9 x w h0 h1 a1 a2 a3 a4 h h7) (by by_cases hr : bitsOf x 11 7 = 0 <;> simp [h7, hr])
    · exact Reads.of (sys_f0_x x w h0 h1 a1 a2 a3 a4 h (beq_false h7)) (by simp [h7])
  · exact Reads.of (sys_f1 x w h0 h1 a1 a2 a3 a4 h) (by simp [h])
  · exact Reads.of (sys_f2 x w h0 h1 a1 a2 a3 a4 h) (by simp [h])
  · exact Reads.of (sys_f3 x w h0 h1 a1 a2 a3 a4 h) (by simp [h])
  · exact Reads.of (sys_f4 x w h0 h1 a1 a2 a3 a4 h) (by simp [h])
  · exact Reads.of (sys_f5 x w h0 h1 a1 a2 a3 a4 h) (by simp [h])
  · exact Reads.of (sys_f6 x w h0 h1 a1 a2 a3 a4 h) (by simp [h])
  · exact Reads.of (sys_f7 x w h0 h1 a1 a2 a3 a4 h) (by simp [h])

theorem five_cases (x : Int) : 0 ≤ bitsOf x 31 27 ∧ bitsOf x 31 27 < 32 := bo5 x 31 27 rfl
theorem bits_is (x v hi lo : Int) (w : World) (h0 : 0 ≤ x) (h1 : x < 4294967296) (hl : 0 ≤ lo) (h2 : lo ≤ hi) (h3 : hi ≤ 31) (h : bitsOf x hi lo = v) :
    Calls Tryz.prog 131 #[.int .u32 x, .int .i64 hi, .int .i64 lo] w fun e w' => e = .returned (.int .i64 v) ∧ ∃ m, w.drewN m = w' := h ▸ bits_any x hi lo w h0 h1 hl h2 h3
end Go.Proofs.YtmklpjelfonilaaGreatDoor
