/- Package asm: name, part a. -/
import Derived.Test.YtmklpjelfonilaaGreatDoorC1
import Derived.Deep.RegionWith
import Derived.Deep.RegionHeld3
import Derived.Deep.DeepCutAuto
namespace Go.Proofs.YtmklpjelfonilaaGreatDoor
open Go.RowKit
attribute [local go_sem] alloc_drewN setCell_drewN wext_size wext_drewN wext_drew wext_setCell wext_cell wext_frozen wext_wext opsA_size lt_e1 lt_e2 lt_e3 lt_e4 lt_e5 lt_e6
set_option linter.unusedVariables false
set_option linter.unusedSimpArgs false

set_option maxRecDepth 100000 in
set_option maxHeartbeats 1600000 in
theorem name_5_4 (fn rd rs1 rs2 imm : Int) (sg : Bool) (w : World) :
    Calls Tryz.prog 27 #[Ins.val ⟨5, fn, rd, rs1, rs2, imm, 4, sg⟩] w fun e w' => e = .returned (.string (nameAt nm_br fn)) ∧ Below w.heap.size w w' := by
  unfold Ins.val
  go_enter Tryz.func27, Tryz.ntmps27
  go_wp2_with (first
    | (go_at_call 56; refine (operations_any _).mono ?_; rintro e w1 ⟨rfl, hb⟩; obtain ⟨os1, d1, rfl⟩ := wext_of_below hb; clear hb; have hsc := store_opsA (wext (w.alloc (.cells #[.int .i64 5, .int .i64 fn, .int .i64 rd, .int .i64 rs1, .int .i64 rs2, .int .i64 imm, .int .i64 4, .bool sg] 23)) os1 d1); simp only [wext_size, World.size_alloc] at hsc)
    | (go_at_call 57; refine (of_blk _ _ nm_br _ _ (t := 9) (fz := (0, 0)) ?hb (by decide)).mono ?_; (case hb => first | exact heap_alloc_new _ _ | (refine heap_at_new0 _ _ _ ?_; simp [wext_size]; done)); rintro e w' ⟨rfl, rfl⟩))
  go_ret
  exact ⟨rfl, by repeat' (first | (with_reducible exact Below.refl _ _) | (with_reducible assumption) | (with_reducible refine below_drewN ?_ _) | (with_reducible refine Below.alloc ?_ ?_ _) | (with_reducible refine Below.drew ?_) | (with_reducible refine below_wext ?_ _ _ ?_) | (with_reducible refine Below.setCell ?_ ?_ _) | (simp only [World.size_alloc, World.size_setCell, World.size_drew, wext_size]; omega) | go_size)⟩

set_option maxRecDepth 100000 in
set_option maxHeartbeats 1600000 in
theorem name_5_8 (fn rd rs1 rs2 imm : Int) (sg : Bool) (w : World) :
    Calls Tryz.prog 27 #[Ins.val ⟨5, fn, rd, rs1, rs2, imm, 8, sg⟩] w fun e w' => e = .returned (.string (nameAt nm_br fn)) ∧ Below w.heap.size w w' := by
  unfold Ins.val
  go_enter Tryz.func27, Tryz.ntmps27
  go_wp2_with (first
    | (go_at_call 56; refine (operations_any _).mono ?_; rintro e w1 ⟨rfl, hb⟩; obtain ⟨os1, d1, rfl⟩ := wext_of_below hb; clear hb; have hsc := store_opsA (wext (w.alloc (.cells #[.int .i64 5, .int .i64 fn, .int .i64 rd, .int .i64 rs1, .int .i64 rs2, .int .i64 imm, .int .i64 8, .bool sg] 23)) os1 d1); simp only [wext_size, World.size_alloc] at hsc)
    | (go_at_call 57; refine (of_blk _ _ nm_br _ _ (t := 9) (fz := (0, 0)) ?hb (by decide)).mono ?_; (case hb => first | exact heap_alloc_new _ _ | (refine heap_at_new0 _ _ _ ?_; simp [wext_size]; done)); rintro e w' ⟨rfl, rfl⟩))
  go_ret
  exact ⟨rfl, by repeat' (first | (with_reducible exact Below.refl _ _) | (with_reducible assumption) | (with_reducible refine below_drewN ?_ _) | (with_reducible refine Below.alloc ?_ ?_ _) | (with_reducible refine Below.drew ?_) | (with_reducible refine below_wext ?_ _ _ ?_) | (with_reducible refine Below.setCell ?_ ?_ _) | (simp only [World.size_alloc, World.size_setCell, World.size_drew, wext_size]; omega) | go_size)⟩

set_option maxRecDepth 100000 in
set_option maxHeartbeats 1600000 in
theorem name_5_n (fn rd rs1 rs2 imm size : Int) (sg : Bool) (w : World) (z4 : (size == 4) = false) (z8 : (size == 8) = false) :
    Calls Tryz.prog 27 #[Ins.val ⟨5, fn, rd, rs1, rs2, imm, size, sg⟩] w fun e w' => e = .returned (.string (nameAt nm_br fn)) ∧ Below w.heap.size w w' := by
  unfold Ins.val
  go_enter Tryz.func27, Tryz.ntmps27
  go_wp2_with (first
    | (go_at_call 56; refine (operations_any _).mono ?_; rintro e w1 ⟨rfl, hb⟩; obtain ⟨os1, d1, rfl⟩ := wext_of_below hb; clear hb; have hsc := store_opsA (wext (w.alloc (.cells #[.int .i64 5, .int .i64 fn, .int .i64 rd, .int .i64 rs1, .int .i64 rs2, .int .i64 imm, .int .i64 size, .bool sg] 23)) os1 d1); simp only [wext_size, World.size_alloc] at hsc)
    | (go_at_call 57; refine (of_blk _ _ nm_br _ _ (t := 9) (fz := (0, 0)) ?hb (by decide)).mono ?_; (case hb => first | exact heap_alloc_new _ _ | (refine heap_at_new0 _ _ _ ?_; simp [wext_size]; done)); rintro e w' ⟨rfl, rfl⟩))
  go_ret
  exact ⟨rfl, by repeat' (first | (with_reducible exact Below.refl _ _) | (with_reducible assumption) | (with_reducible refine below_drewN ?_ _) | (with_reducible refine Below.alloc ?_ ?_ _) | (with_reducible refine Below.drew ?_) | (with_reducible refine below_wext ?_ _ _ ?_) | (with_reducible refine Below.setCell ?_ ?_ _) | (simp only [World.size_alloc, World.size_setCell, World.size_drew, wext_size]; omega) | go_size)⟩

set_option maxRecDepth 100000 in
set_option maxHeartbeats 1600000 in
theorem name_6f_4 (fn rd rs1 rs2 imm : Int) (w : World) :
    Calls Tryz.prog 27 #[Ins.val ⟨6, fn, rd, rs1, rs2, imm, 4, false⟩] w fun e w' => e = .returned (.string (nameAt nm_ldU 4)) ∧ Below w.heap.size w w' := by
  unfold Ins.val
  go_enter Tryz.func27, Tryz.ntmps27
  go_wp2_with (first
    | (go_at_call 56; refine (operations_any _).mono ?_; rintro e w1 ⟨rfl, hb⟩; obtain ⟨os1, d1, rfl⟩ := wext_of_below hb; clear hb; have hsc := store_opsA (wext (w.alloc (.cells #[.int .i64 6, .int .i64 fn, .int .i64 rd, .int .i64 rs1, .int .i64 rs2, .int .i64 imm, .int .i64 4, .bool false] 23)) os1 d1); simp only [wext_size, World.size_alloc] at hsc)
    | (go_at_call 57; refine (of_blk _ _ nm_ldU _ _ (t := 9) (fz := (0, 0)) ?hb (by decide)).mono ?_; (case hb => first | exact heap_alloc_new _ _ | (refine heap_at_new0 _ _ _ ?_; simp [wext_size]; done)); rintro e w' ⟨rfl, rfl⟩))
  go_ret
  exact ⟨rfl, by repeat' (first | (with_reducible exact Below.refl _ _) | (with_reducible assumption) | (with_reducible refine below_drewN ?_ _) | (with_reducible refine Below.alloc ?_ ?_ _) | (with_reducible refine Below.drew ?_) | (with_reducible refine below_wext ?_ _ _ ?_) | (with_reducible refine Below.setCell ?_ ?_ _) | (simp only [World.size_alloc, World.size_setCell, World.size_drew, wext_size]; omega) | go_size)⟩

set_option maxRecDepth 100000 in
set_option maxHeartbeats 1600000 in
theorem name_6f_8 (fn rd rs1 rs2 imm : Int) (w : World) :
    Calls Tryz.prog 27 #[Ins.val ⟨6, fn, rd, rs1, rs2, imm, 8, false⟩] w fun e w' => e = .returned (.string (nameAt nm_ldU 8)) ∧ Below w.heap.size w w' := by
  unfold Ins.val
  go_enter Tryz.func27, Tryz.ntmps27
  go_wp2_with (first
    | (go_at_call 56; refine (operations_any _).mono ?_; rintro e w1 ⟨rfl, hb⟩; obtain ⟨os1, d1, rfl⟩ := wext_of_below hb; clear hb; have hsc := store_opsA (wext (w.alloc (.cells #[.int .i64 6, .int .i64 fn, .int .i64 rd, .int .i64 rs1, .int .i64 rs2, .int .i64 imm, .int .i64 8, .bool false] 23)) os1 d1); simp only [wext_size, World.size_alloc] at hsc)
    | (go_at_call 57; refine (of_blk _ _ nm_ldU _ _ (t := 9) (fz := (0, 0)) ?hb (by decide)).mono ?_; (case hb => first | exact heap_alloc_new _ _ | (refine heap_at_new0 _ _ _ ?_; simp [wext_size]; done)); rintro e w' ⟨rfl, rfl⟩))
  go_ret
  exact ⟨rfl, by repeat' (first | (with_reducible exact Below.refl _ _) | (with_reducible assumption) | (with_reducible refine below_drewN ?_ _) | (with_reducible refine Below.alloc ?_ ?_ _) | (with_reducible refine Below.drew ?_) | (with_reducible refine below_wext ?_ _ _ ?_) | (with_reducible refine Below.setCell ?_ ?_ _) | (simp only [World.size_alloc, World.size_setCell, World.size_drew, wext_size]; omega) | go_size)⟩

set_option maxRecDepth 100000 in
set_option maxHeartbeats 1600000 in
theorem name_6f_n (fn rd rs1 rs2 imm size : Int) (w : World) (z4 : (size == 4) = false) (z8 : (size == 8) = false) :
    Calls Tryz.prog 27 #[Ins.val ⟨6, fn, rd, rs1, rs2, imm, size, false⟩] w fun e w' => e = .returned (.string (nameAt nm_ldU size)) ∧ Below w.heap.size w w' := by
  unfold Ins.val
  go_enter Tryz.func27, Tryz.ntmps27
  go_wp2_with (first
    | (go_at_call 56; refine (operations_any _).mono ?_; rintro e w1 ⟨rfl, hb⟩; obtain ⟨os1, d1, rfl⟩ := wext_of_below hb; clear hb; have hsc := store_opsA (wext (w.alloc (.cells #[.int .i64 6, .int .i64 fn, .int .i64 rd, .int .i64 rs1, .int .i64 rs2, .int .i64 imm, .int .i64 size, .bool false] 23)) os1 d1); simp only [wext_size, World.size_alloc] at hsc)
    | (go_at_call 57; refine (of_blk _ _ nm_ldU _ _ (t := 9) (fz := (0, 0)) ?hb (by decide)).mono ?_; (case hb => first | exact heap_alloc_new _ _ | (refine heap_at_new0 _ _ _ ?_; simp [wext_size]; done)); rintro e w' ⟨rfl, rfl⟩))
  go_ret
  exact ⟨rfl, by repeat' (first | (with_reducible exact Below.refl _ _) | (with_reducible assumption) | (with_reducible refine below_drewN ?_ _) | (with_reducible refine Below.alloc ?_ ?_ _) | (with_reducible refine Below.drew ?_) | (with_reducible refine below_wext ?_ _ _ ?_) | (with_reducible refine Below.setCell ?_ ?_ _) | (simp only [World.size_alloc, World.size_setCell, World.size_drew, wext_size]; omega) | go_size)⟩

set_option maxRecDepth 100000 in
set_option maxHeartbeats 1600000 in
theorem name_6t_4 (fn rd rs1 rs2 imm : Int) (w : World) :
    Calls Tryz.prog 27 #[Ins.val ⟨6, fn, rd, rs1, rs2, imm, 4, true⟩] w fun e w' => e = .returned (.string (nameAt nm_ldS 4)) ∧ Below w.heap.size w w' := by
  unfold Ins.val
  go_enter Tryz.func27, Tryz.ntmps27
  go_wp2_with (first
    | (go_at_call 56; refine (operations_any _).mono ?_; rintro e w1 ⟨rfl, hb⟩; obtain ⟨os1, d1, rfl⟩ := wext_of_below hb; clear hb; have hsc := store_opsA (wext (w.alloc (.cells #[.int .i64 6, .int .i64 fn, .int .i64 rd, .int .i64 rs1, .int .i64 rs2, .int .i64 imm, .int .i64 4, .bool true] 23)) os1 d1); simp only [wext_size, World.size_alloc] at hsc)
    | (go_at_call 57; refine (of_blk _ _ nm_ldS _ _ (t := 9) (fz := (0, 0)) ?hb (by decide)).mono ?_; (case hb => first | exact heap_alloc_new _ _ | (refine heap_at_new0 _ _ _ ?_; simp [wext_size]; done)); rintro e w' ⟨rfl, rfl⟩))
  go_ret
  exact ⟨rfl, by repeat' (first | (with_reducible exact Below.refl _ _) | (with_reducible assumption) | (with_reducible refine below_drewN ?_ _) | (with_reducible refine Below.alloc ?_ ?_ _) | (with_reducible refine Below.drew ?_) | (with_reducible refine below_wext ?_ _ _ ?_) | (with_reducible refine Below.setCell ?_ ?_ _) | (simp only [World.size_alloc, World.size_setCell, World.size_drew, wext_size]; omega) | go_size)⟩

set_option maxRecDepth 100000 in
set_option maxHeartbeats 1600000 in
theorem name_6t_8 (fn rd rs1 rs2 imm : Int) (w : World) :
    Calls Tryz.prog 27 #[Ins.val ⟨6, fn, rd, rs1, rs2, imm, 8, true⟩] w fun e w' => e = .returned (.string (nameAt nm_ldS 8)) ∧ Below w.heap.size w w' := by
  unfold Ins.val
  go_enter Tryz.func27, Tryz.ntmps27
  go_wp2_with (first
    | (go_at_call 56; refine (operations_any _).mono ?_; rintro e w1 ⟨rfl, hb⟩; obtain ⟨os1, d1, rfl⟩ := wext_of_below hb; clear hb; have hsc := store_opsA (wext (w.alloc (.cells #[.int .i64 6, .int .i64 fn, .int .i64 rd, .int .i64 rs1, .int .i64 rs2, .int .i64 imm, .int .i64 8, .bool true] 23)) os1 d1); simp only [wext_size, World.size_alloc] at hsc)
    | (go_at_call 57; refine (of_blk _ _ nm_ldS _ _ (t := 9) (fz := (0, 0)) ?hb (by decide)).mono ?_; (case hb => first | exact heap_alloc_new _ _ | (refine heap_at_new0 _ _ _ ?_; simp [wext_size]; done)); rintro e w' ⟨rfl, rfl⟩))
  go_ret
  exact ⟨rfl, by repeat' (first | (with_reducible exact Below.refl _ _) | (with_reducible assumption) | (with_reducible refine below_drewN ?_ _) | (with_reducible refine Below.alloc ?_ ?_ _) | (with_reducible refine Below.drew ?_) | (with_reducible refine below_wext ?_ _ _ ?_) | (with_reducible refine Below.setCell ?_ ?_ _) | (simp only [World.size_alloc, World.size_setCell, World.size_drew, wext_size]; omega) | go_size)⟩

set_option maxRecDepth 100000 in
set_option maxHeartbeats 1600000 in
theorem name_6t_n (fn rd rs1 rs2 imm size : Int) (w : World) (z4 : (size == 4) = false) (z8 : (size == 8) = false) :
    Calls Tryz.prog 27 #[Ins.val ⟨6, fn, rd, rs1, rs2, imm, size, true⟩] w fun e w' => e = .returned (.string (nameAt nm_ldS size)) ∧ Below w.heap.size w w' := by
  unfold Ins.val
  go_enter Tryz.func27, Tryz.ntmps27
  go_wp2_with (first
    | (go_at_call 56; refine (operations_any _).mono ?_; rintro e w1 ⟨rfl, hb⟩; obtain ⟨os1, d1, rfl⟩ := wext_of_below hb; clear hb; have hsc := store_opsA (wext (w.alloc (.cells #[.int .i64 6, .int .i64 fn, .int .i64 rd, .int .i64 rs1, .int .i64 rs2, .int .i64 imm, .int .i64 size, .bool true] 23)) os1 d1); simp only [wext_size, World.size_alloc] at hsc)
    | (go_at_call 57; refine (of_blk _ _ nm_ldS _ _ (t := 9) (fz := (0, 0)) ?hb (by decide)).mono ?_; (case hb => first | exact heap_alloc_new _ _ | (refine heap_at_new0 _ _ _ ?_; simp [wext_size]; done)); rintro e w' ⟨rfl, rfl⟩))
  go_ret
  exact ⟨rfl, by repeat' (first | (with_reducible exact Below.refl _ _) | (with_reducible assumption) | (with_reducible refine below_drewN ?_ _) | (with_reducible refine Below.alloc ?_ ?_ _) | (with_reducible refine Below.drew ?_) | (with_reducible refine below_wext ?_ _ _ ?_) | (with_reducible refine Below.setCell ?_ ?_ _) | (simp only [World.size_alloc, World.size_setCell, World.size_drew, wext_size]; omega) | go_size)⟩

end Go.Proofs.YtmklpjelfonilaaGreatDoor
