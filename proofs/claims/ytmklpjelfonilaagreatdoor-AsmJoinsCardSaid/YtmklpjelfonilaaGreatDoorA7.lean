/- Package inst, reading: plain: what it returns. -/
import Derived.Test.YtmklpjelfonilaaGreatDoorA6
namespace Go.Proofs.YtmklpjelfonilaaGreatDoor
open Go.RowKit
attribute [local go_sem] alloc_drewN setCell_drewN wext_size wext_drewN wext_drew wext_setCell wext_cell wext_frozen
set_option linter.unusedVariables false
set_option linter.unusedSimpArgs false

set_option maxRecDepth 100000 in
set_option maxHeartbeats 1600000 in
theorem plain_1 (x fn rd rs1 rs2 imm size : Int) (sg : Bool) (w : World) (h0 : 0 ≤ x) (h1 : x < 4294967296) : Calls Tryz.prog 103 #[.int .u32 x, Ins.val ⟨1, fn, rd, rs1, rs2, imm, size, sg⟩] w fun e w' => e = .returned (.tuple #[Ins.val ⟨1, fn, rd, rs1, rs2, imm, size, sg⟩, .bool true]) ∧ Below w.heap.size w w' := by
  unfold Ins.val
  go_enter Tryz.func103, Tryz.ntmps103
  go_wp2
  go_returns
  exact ⟨rfl, by repeat' (first | (with_reducible exact Below.refl _ _) | (with_reducible assumption) | (with_reducible refine below_drewN ?_ _) | (with_reducible refine Below.alloc ?_ ?_ _) | (with_reducible refine Below.drew ?_) | (with_reducible refine below_wext ?_ _ _ ?_) | (with_reducible refine Below.setCell ?_ ?_ _) | go_size)⟩

set_option maxRecDepth 100000 in
set_option maxHeartbeats 1600000 in
theorem plain_2 (x fn rd rs1 rs2 imm size : Int) (sg : Bool) (w : World) (h0 : 0 ≤ x) (h1 : x < 4294967296) : Calls Tryz.prog 103 #[.int .u32 x, Ins.val ⟨2, fn, rd, rs1, rs2, imm, size, sg⟩] w fun e w' => e = .returned (.tuple #[Ins.val ⟨2, fn, rd, rs1, rs2, imm, size, sg⟩, .bool true]) ∧ Below w.heap.size w w' := by
  unfold Ins.val
  go_enter Tryz.func103, Tryz.ntmps103
  go_wp2
  go_returns
  exact ⟨rfl, by repeat' (first | (with_reducible exact Below.refl _ _) | (with_reducible assumption) | (with_reducible refine below_drewN ?_ _) | (with_reducible refine Below.alloc ?_ ?_ _) | (with_reducible refine Below.drew ?_) | (with_reducible refine below_wext ?_ _ _ ?_) | (with_reducible refine Below.setCell ?_ ?_ _) | go_size)⟩

set_option maxRecDepth 100000 in
set_option maxHeartbeats 1600000 in
theorem plain_3 (x fn rd rs1 rs2 imm size : Int) (sg : Bool) (w : World) (h0 : 0 ≤ x) (h1 : x < 4294967296) : Calls Tryz.prog 103 #[.int .u32 x, Ins.val ⟨3, fn, rd, rs1, rs2, imm, size, sg⟩] w fun e w' => e = .returned (.tuple #[Ins.val ⟨3, fn, rd, rs1, rs2, imm, size, sg⟩, .bool true]) ∧ Below w.heap.size w w' := by
  unfold Ins.val
  go_enter Tryz.func103, Tryz.ntmps103
  go_wp2
  go_returns
  exact ⟨rfl, by repeat' (first | (with_reducible exact Below.refl _ _) | (with_reducible assumption) | (with_reducible refine below_drewN ?_ _) | (with_reducible refine Below.alloc ?_ ?_ _) | (with_reducible refine Below.drew ?_) | (with_reducible refine below_wext ?_ _ _ ?_) | (with_reducible refine Below.setCell ?_ ?_ _) | go_size)⟩

set_option maxRecDepth 100000 in
set_option maxHeartbeats 1600000 in
theorem plain_4 (x fn rd rs1 rs2 imm size : Int) (sg : Bool) (w : World) (h0 : 0 ≤ x) (h1 : x < 4294967296) : Calls Tryz.prog 103 #[.int .u32 x, Ins.val ⟨4, fn, rd, rs1, rs2, imm, size, sg⟩] w fun e w' => e = .returned (.tuple #[Ins.val ⟨4, fn, rd, rs1, rs2, imm, size, sg⟩, .bool (bitsOf x 14 12 == 0)]) ∧ Below w.heap.size w w' := by
  unfold Ins.val
  go_enter Tryz.func103, Tryz.ntmps103
  go_wp2_with fail
  go_region_with (first | (go_at_call 96; refine (f3_any _ _ h0 h1).mono ?_; rintro e w' ⟨rfl, m, rfl⟩))
  all_goals go_wp2
  all_goals go_returns
  all_goals exact ⟨rfl, by repeat' (first | (with_reducible exact Below.refl _ _) | (with_reducible assumption) | (with_reducible refine below_drewN ?_ _) | (with_reducible refine Below.alloc ?_ ?_ _) | (with_reducible refine Below.drew ?_) | (with_reducible refine below_wext ?_ _ _ ?_) | (with_reducible refine Below.setCell ?_ ?_ _) | go_size)⟩

set_option maxRecDepth 100000 in
set_option maxHeartbeats 1600000 in
theorem plain_5 (x fn rd rs1 rs2 imm size : Int) (sg : Bool) (w : World) (h0 : 0 ≤ x) (h1 : x < 4294967296) : Calls Tryz.prog 103 #[.int .u32 x, Ins.val ⟨5, fn, rd, rs1, rs2, imm, size, sg⟩] w fun e w' => e = .returned (.tuple #[Ins.val ⟨5, (pickOf [1, 2, 0, 0, 3, 4, 5, 6] (bitsOf x 14 12)), rd, rs1, rs2, imm, size, sg⟩, .bool (pickOf [1, 2, 0, 0, 3, 4, 5, 6] (bitsOf x 14 12) != 0)]) ∧ Below w.heap.size w w' := by
  unfold Ins.val
  go_enter Tryz.func103, Tryz.ntmps103
  go_wp2_with (first
    | (go_at_call 95; refine (op_any _ _ h0 h1).mono ?_; rintro e w' ⟨rfl, m, rfl⟩)
    | (go_at_call 96; refine (f3_any _ _ h0 h1).mono ?_; rintro e w' ⟨rfl, m, rfl⟩)
    | (go_at_call 129; refine (f7_any _ _ h0 h1).mono ?_; rintro e w' ⟨rfl, m, rfl⟩)
    | (go_at_call 100; refine (rd_any _ _ h0 h1).mono ?_; rintro e w' ⟨rfl, m, rfl⟩)
    | (go_at_call 101; refine (rs1_any _ _ h0 h1).mono ?_; rintro e w' ⟨rfl, m, rfl⟩)
    | (go_at_call 102; refine (rs2_any _ _ h0 h1).mono ?_; rintro e w' ⟨rfl, m, rfl⟩)
    | (go_at_call 130; refine (pick_blk _ _ [1, 2, 0, 0, 3, 4, 5, 6] _ _ (t := 3) (fz := (0, 0)) ?hb).mono ?_; (case hb => refine heap_at_new _ _ _ _ ?_; simp); rintro e w' ⟨rfl, rfl⟩)
    | (go_at_call 131; refine (bits_any _ _ _ _ h0 h1 (by omega) (by omega) (by omega)).mono ?_; rintro e w' ⟨rfl, m, rfl⟩))
  go_region
  all_goals go_wp2
  all_goals go_returns
  all_goals exact ⟨rfl, by repeat' (first | (with_reducible exact Below.refl _ _) | (with_reducible assumption) | (with_reducible refine below_drewN ?_ _) | (with_reducible refine Below.alloc ?_ ?_ _) | (with_reducible refine Below.drew ?_) | (with_reducible refine below_wext ?_ _ _ ?_) | (with_reducible refine Below.setCell ?_ ?_ _) | go_size)⟩

theorem sz_and (v : Int) (h0 : 0 ≤ v) (h1 : v < 8) : IntKind.i64.wrap (2 ^ (bits .and .i64 v 3).toNat) = 2 ^ (v % 4).toNat := by
  rw [and3_mod v h0 (by omega)]
  have : v = 0 ∨ v = 1 ∨ v = 2 ∨ v = 3 ∨ v = 4 ∨ v = 5 ∨ v = 6 ∨ v = 7 := by omega
  rcases this with rfl | rfl | rfl | rfl | rfl | rfl | rfl | rfl <;> decide
theorem sz_plain (v : Int) (h0 : 0 ≤ v) (h1 : v < 8) : wrap64 (2 ^ v.toNat) = 2 ^ v.toNat := by
  have : v = 0 ∨ v = 1 ∨ v = 2 ∨ v = 3 ∨ v = 4 ∨ v = 5 ∨ v = 6 ∨ v = 7 := by omega
  rcases this with rfl | rfl | rfl | rfl | rfl | rfl | rfl | rfl <;> (unfold wrap64; decide)

set_option maxRecDepth 100000 in
set_option maxHeartbeats 1600000 in
theorem plain_6 (x fn rd rs1 rs2 imm size : Int) (sg : Bool) (w : World) (h0 : 0 ≤ x) (h1 : x < 4294967296) : Calls Tryz.prog 103 #[.int .u32 x, Ins.val ⟨6, fn, rd, rs1, rs2, imm, size, sg⟩] w fun e w' => e = .returned (.tuple #[Ins.val ⟨6, fn, rd, rs1, rs2, imm, (IntKind.i64.wrap (2 ^ (bits .and .i64 (bitsOf x 14 12) 3).toNat)), (decide (bitsOf x 14 12 < 4))⟩, .bool (decide (bitsOf x 14 12 < 7))]) ∧ Below w.heap.size w w' := by
  have r3 := bo3 x 14 12 rfl
  have ra : 0 ≤ bits .and .i64 (bitsOf x 14 12) 3 ∧ bits .and .i64 (bitsOf x 14 12) 3 < 4 := by rw [and3_mod _ r3.1 (by omega)]; omega
  unfold Ins.val
  go_enter Tryz.func103, Tryz.ntmps103
  go_upto_region 12 with fail
  go_cut [7] (fun s7 wx => s7 = .int .i64 6 ∧ ∃ n, wx = ((w.alloc (.cells #[.int .i64 6, .int .i64 fn, .int .i64 rd, .int .i64 rs1, .int .i64 rs2, .int .i64 imm, .int .i64 (IntKind.i64.wrap (2 ^ (bits .and .i64 (bitsOf x 14 12) 3).toNat)), .bool (decide (bitsOf x 14 12 < 4))] 23)).alloc (.cells #[.int .i64 0, .int .i64 0, .int .i64 0, .int .i64 0, .int .i64 0, .int .i64 0, .int .i64 0, .bool false] 23)).drewN n)
  case first =>
    go_region_with (first | (go_at_call 96; refine (f3_any _ _ h0 h1).mono ?_; rintro e w' ⟨rfl, m, rfl⟩))
    all_goals go_wp2_with fail
    all_goals go_meet
    all_goals exact ⟨rfl, _, rfl⟩
  case rest =>
    obtain ⟨rfl, n, rfl⟩ := hcut
    go_wp2_with fail
    go_region_with (first | (go_at_call 96; refine (f3_any _ _ h0 h1).mono ?_; rintro e w' ⟨rfl, m, rfl⟩))
    all_goals go_wp2
    all_goals go_returns
    all_goals exact ⟨rfl, by repeat' (first | (with_reducible exact Below.refl _ _) | (with_reducible assumption) | (with_reducible refine below_drewN ?_ _) | (with_reducible refine Below.alloc ?_ ?_ _) | (with_reducible refine Below.drew ?_) | (with_reducible refine below_wext ?_ _ _ ?_) | (with_reducible refine Below.setCell ?_ ?_ _) | go_size)⟩

set_option maxRecDepth 100000 in
set_option maxHeartbeats 1600000 in
theorem plain_7 (x fn rd rs1 rs2 imm size : Int) (sg : Bool) (w : World) (h0 : 0 ≤ x) (h1 : x < 4294967296) : Calls Tryz.prog 103 #[.int .u32 x, Ins.val ⟨7, fn, rd, rs1, rs2, imm, size, sg⟩] w fun e w' => e = .returned (.tuple #[Ins.val ⟨7, fn, rd, rs1, rs2, imm, (wrap64 (2 ^ (bitsOf x 14 12).toNat)), sg⟩, .bool (decide (bitsOf x 14 12 < 4))]) ∧ Below w.heap.size w w' := by
  have r3 := bo3 x 14 12 rfl
  unfold Ins.val
  go_enter Tryz.func103, Tryz.ntmps103
  go_wp2_with (go_at_call 96; refine (f3_any _ _ h0 h1).mono ?_; rintro e w' ⟨rfl, m, rfl⟩)
  go_region_with (first | (go_at_call 96; refine (f3_any _ _ h0 h1).mono ?_; rintro e w' ⟨rfl, m, rfl⟩))
  all_goals go_wp2
  all_goals go_returns
  all_goals exact ⟨rfl, by repeat' (first | (with_reducible exact Below.refl _ _) | (with_reducible assumption) | (with_reducible refine below_drewN ?_ _) | (with_reducible refine Below.alloc ?_ ?_ _) | (with_reducible refine Below.drew ?_) | (with_reducible refine below_wext ?_ _ _ ?_) | (with_reducible refine Below.setCell ?_ ?_ _) | go_size)⟩

set_option maxRecDepth 100000 in
set_option maxHeartbeats 1600000 in
theorem plain_8 (x fn rd rs1 rs2 imm size : Int) (sg : Bool) (w : World) (h0 : 0 ≤ x) (h1 : x < 4294967296) : Calls Tryz.prog 103 #[.int .u32 x, Ins.val ⟨8, fn, rd, rs1, rs2, imm, size, sg⟩] w fun e w' => e = .returned (.tuple #[Ins.val ⟨8, (regOf x), rd, rs1, rs2, imm, size, sg⟩, .bool (regOf x != 0)]) ∧ Below w.heap.size w w' := by
  unfold Ins.val
  go_enter Tryz.func103, Tryz.ntmps103
  go_wp2_with (go_at_call 94; refine (register_any _ _ h0 h1).mono ?_; rintro e w1 ⟨rfl, hb⟩; obtain ⟨os1, d1, rfl⟩ := wext_of_below hb; clear hb)
  go_region
  all_goals go_wp2
  all_goals go_returns
  all_goals exact ⟨rfl, by repeat' (first | (with_reducible exact Below.refl _ _) | (with_reducible assumption) | (with_reducible refine below_drewN ?_ _) | (with_reducible refine Below.alloc ?_ ?_ _) | (with_reducible refine Below.drew ?_) | (with_reducible refine below_wext ?_ _ _ ?_) | (with_reducible refine Below.setCell ?_ ?_ _) | go_size)⟩
end Go.Proofs.YtmklpjelfonilaaGreatDoor
