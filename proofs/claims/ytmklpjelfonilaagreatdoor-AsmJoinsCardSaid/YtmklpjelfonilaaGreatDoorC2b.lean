/- Package asm: name, part b. -/
import Derived.Test.YtmklpjelfonilaaGreatDoorC1
import Derived.Deep.RegionWith
import Derived.Deep.RegionHeld3
import Derived.Deep.DeepCutAuto
namespace Go.Proofs.YtmklpjelfonilaaGreatDoor
open Go.RowKit
attribute [local go_sem] alloc_drewN setCell_drewN wext_size wext_drewN wext_drew wext_setCell wext_cell wext_frozen wext_wext opsA_size lt_e1 lt_e2 lt_e3 lt_e4 lt_e5 lt_e6
set_option linter.unusedVariables false
set_option linter.unusedSimpArgs false

set_option maxRecDepth 100000 in
set_option maxHeartbeats 1600000 in
theorem name_7_4 (fn rd rs1 rs2 imm : Int) (sg : Bool) (w : World) :
    Calls Tryz.prog 27 #[Ins.val ⟨7, fn, rd, rs1, rs2, imm, 4, sg⟩] w fun e w' => e = .returned (.string (nameAt nm_st 4)) ∧ Below w.heap.size w w' := by
  unfold Ins.val
  go_enter Tryz.func27, Tryz.ntmps27
  go_wp2_with (first
    | (go_at_call 56; refine (operations_any _).mono ?_; rintro e w1 ⟨rfl, hb⟩; obtain ⟨os1, d1, rfl⟩ := wext_of_below hb; clear hb; have hsc := store_opsA (wext (w.alloc (.cells #[.int .i64 7, .int .i64 fn, .int .i64 rd, .int .i64 rs1, .int .i64 rs2, .int .i64 imm, .int .i64 4, .bool sg] 23)) os1 d1); simp only [wext_size, World.size_alloc] at hsc)
    | (go_at_call 57; refine (of_blk _ _ nm_st _ _ (t := 9) (fz := (0, 0)) ?hb (by decide)).mono ?_; (case hb => first | exact heap_alloc_new _ _ | (refine heap_at_new0 _ _ _ ?_; simp [wext_size]; done)); rintro e w' ⟨rfl, rfl⟩))
  go_ret
  exact ⟨rfl, by repeat' (first | (with_reducible exact Below.refl _ _) | (with_reducible assumption) | (with_reducible refine below_drewN ?_ _) | (with_reducible refine Below.alloc ?_ ?_ _) | (with_reducible refine Below.drew ?_) | (with_reducible refine below_wext ?_ _ _ ?_) | (with_reducible refine Below.setCell ?_ ?_ _) | (simp only [World.size_alloc, World.size_setCell, World.size_drew, wext_size]; omega) | go_size)⟩

set_option maxRecDepth 100000 in
set_option maxHeartbeats 1600000 in
theorem name_7_8 (fn rd rs1 rs2 imm : Int) (sg : Bool) (w : World) :
    Calls Tryz.prog 27 #[Ins.val ⟨7, fn, rd, rs1, rs2, imm, 8, sg⟩] w fun e w' => e = .returned (.string (nameAt nm_st 8)) ∧ Below w.heap.size w w' := by
  unfold Ins.val
  go_enter Tryz.func27, Tryz.ntmps27
  go_wp2_with (first
    | (go_at_call 56; refine (operations_any _).mono ?_; rintro e w1 ⟨rfl, hb⟩; obtain ⟨os1, d1, rfl⟩ := wext_of_below hb; clear hb; have hsc := store_opsA (wext (w.alloc (.cells #[.int .i64 7, .int .i64 fn, .int .i64 rd, .int .i64 rs1, .int .i64 rs2, .int .i64 imm, .int .i64 8, .bool sg] 23)) os1 d1); simp only [wext_size, World.size_alloc] at hsc)
    | (go_at_call 57; refine (of_blk _ _ nm_st _ _ (t := 9) (fz := (0, 0)) ?hb (by decide)).mono ?_; (case hb => first | exact heap_alloc_new _ _ | (refine heap_at_new0 _ _ _ ?_; simp [wext_size]; done)); rintro e w' ⟨rfl, rfl⟩))
  go_ret
  exact ⟨rfl, by repeat' (first | (with_reducible exact Below.refl _ _) | (with_reducible assumption) | (with_reducible refine below_drewN ?_ _) | (with_reducible refine Below.alloc ?_ ?_ _) | (with_reducible refine Below.drew ?_) | (with_reducible refine below_wext ?_ _ _ ?_) | (with_reducible refine Below.setCell ?_ ?_ _) | (simp only [World.size_alloc, World.size_setCell, World.size_drew, wext_size]; omega) | go_size)⟩

set_option maxRecDepth 100000 in
set_option maxHeartbeats 1600000 in
theorem name_7_n (fn rd rs1 rs2 imm size : Int) (sg : Bool) (w : World) (z4 : (size == 4) = false) (z8 : (size == 8) = false) :
    Calls Tryz.prog 27 #[Ins.val ⟨7, fn, rd, rs1, rs2, imm, size, sg⟩] w fun e w' => e = .returned (.string (nameAt nm_st size)) ∧ Below w.heap.size w w' := by
  unfold Ins.val
  go_enter Tryz.func27, Tryz.ntmps27
  go_wp2_with (first
    | (go_at_call 56; refine (operations_any _).mono ?_; rintro e w1 ⟨rfl, hb⟩; obtain ⟨os1, d1, rfl⟩ := wext_of_below hb; clear hb; have hsc := store_opsA (wext (w.alloc (.cells #[.int .i64 7, .int .i64 fn, .int .i64 rd, .int .i64 rs1, .int .i64 rs2, .int .i64 imm, .int .i64 size, .bool sg] 23)) os1 d1); simp only [wext_size, World.size_alloc] at hsc)
    | (go_at_call 57; refine (of_blk _ _ nm_st _ _ (t := 9) (fz := (0, 0)) ?hb (by decide)).mono ?_; (case hb => first | exact heap_alloc_new _ _ | (refine heap_at_new0 _ _ _ ?_; simp [wext_size]; done)); rintro e w' ⟨rfl, rfl⟩))
  go_ret
  exact ⟨rfl, by repeat' (first | (with_reducible exact Below.refl _ _) | (with_reducible assumption) | (with_reducible refine below_drewN ?_ _) | (with_reducible refine Below.alloc ?_ ?_ _) | (with_reducible refine Below.drew ?_) | (with_reducible refine below_wext ?_ _ _ ?_) | (with_reducible refine Below.setCell ?_ ?_ _) | (simp only [World.size_alloc, World.size_setCell, World.size_drew, wext_size]; omega) | go_size)⟩

set_option maxRecDepth 100000 in
set_option maxHeartbeats 1600000 in
theorem name_8_4 (fn rd rs1 rs2 imm : Int) (sg : Bool) (w : World) :
    Calls Tryz.prog 27 #[Ins.val ⟨8, fn, rd, rs1, rs2, imm, 4, sg⟩] w fun e w' => e = .returned (.string (nameAt nm_ops fn)) ∧ Below w.heap.size w w' := by
  unfold Ins.val
  go_enter Tryz.func27, Tryz.ntmps27
  go_upto_region 17 with (go_at_call 56; refine (operations_any _).mono ?_; rintro e w1 ⟨rfl, hb⟩; obtain ⟨os1, d1, rfl⟩ := wext_of_below hb; clear hb; have hsc := store_opsA (wext (w.alloc (.cells #[.int .i64 8, .int .i64 fn, .int .i64 rd, .int .i64 rs1, .int .i64 rs2, .int .i64 imm, .int .i64 4, .bool sg] 23)) os1 d1); simp only [wext_size, World.size_alloc] at hsc)
  have hB : ((wext (w.alloc (.cells #[.int .i64 8, .int .i64 fn, .int .i64 rd, .int .i64 rs1, .int .i64 rs2, .int .i64 imm, .int .i64 4, .bool sg] 23)) os1 d1).alloc (.cells opsA 83)).heap[w.heap.size + 1 + os1.size]? = some (.cells (nm_ops.map Value.string).toArray 83 (0, 0)) := by rw [← opsA_names]; refine heap_at_new0 _ _ _ ?_; simp [wext_size]
  have hz := nameAt_size nm_ops fn (by decide)
  clear hsc
  go_region_with (first
    | (go_at_call 57; refine (of_blk _ 29 nm_ops _ _ (t := 83) (fz := (0, 0)) ?hb (by decide)).mono ?_; (case hb => first | exact hB | (rw [← opsA_names]; refine heap_at_new0 _ _ _ ?_; simp [wext_size]; done)); rintro e w' ⟨rfl, rfl⟩)
    | (go_at_call 58; refine (immediate_any _ _ hz).mono ?_; rintro e w' ⟨rfl, rfl⟩))
  all_goals go_wp2
  all_goals go_ret
  all_goals exact ⟨rfl, by repeat' (first | (with_reducible exact Below.refl _ _) | (with_reducible assumption) | (with_reducible refine below_drewN ?_ _) | (with_reducible refine Below.alloc ?_ ?_ _) | (with_reducible refine Below.drew ?_) | (with_reducible refine below_wext ?_ _ _ ?_) | (with_reducible refine Below.setCell ?_ ?_ _) | (simp only [World.size_alloc, World.size_setCell, World.size_drew, wext_size]; omega) | go_size)⟩

set_option maxRecDepth 100000 in
set_option maxHeartbeats 1600000 in
theorem name_8_8 (fn rd rs1 rs2 imm : Int) (sg : Bool) (w : World) :
    Calls Tryz.prog 27 #[Ins.val ⟨8, fn, rd, rs1, rs2, imm, 8, sg⟩] w fun e w' => e = .returned (.string (nameAt nm_ops fn)) ∧ Below w.heap.size w w' := by
  unfold Ins.val
  go_enter Tryz.func27, Tryz.ntmps27
  go_upto_region 17 with (go_at_call 56; refine (operations_any _).mono ?_; rintro e w1 ⟨rfl, hb⟩; obtain ⟨os1, d1, rfl⟩ := wext_of_below hb; clear hb; have hsc := store_opsA (wext (w.alloc (.cells #[.int .i64 8, .int .i64 fn, .int .i64 rd, .int .i64 rs1, .int .i64 rs2, .int .i64 imm, .int .i64 8, .bool sg] 23)) os1 d1); simp only [wext_size, World.size_alloc] at hsc)
  have hB : ((wext (w.alloc (.cells #[.int .i64 8, .int .i64 fn, .int .i64 rd, .int .i64 rs1, .int .i64 rs2, .int .i64 imm, .int .i64 8, .bool sg] 23)) os1 d1).alloc (.cells opsA 83)).heap[w.heap.size + 1 + os1.size]? = some (.cells (nm_ops.map Value.string).toArray 83 (0, 0)) := by rw [← opsA_names]; refine heap_at_new0 _ _ _ ?_; simp [wext_size]
  have hz := nameAt_size nm_ops fn (by decide)
  clear hsc
  go_region_with (first
    | (go_at_call 57; refine (of_blk _ 29 nm_ops _ _ (t := 83) (fz := (0, 0)) ?hb (by decide)).mono ?_; (case hb => first | exact hB | (rw [← opsA_names]; refine heap_at_new0 _ _ _ ?_; simp [wext_size]; done)); rintro e w' ⟨rfl, rfl⟩)
    | (go_at_call 58; refine (immediate_any _ _ hz).mono ?_; rintro e w' ⟨rfl, rfl⟩))
  all_goals go_wp2
  all_goals go_ret
  all_goals exact ⟨rfl, by repeat' (first | (with_reducible exact Below.refl _ _) | (with_reducible assumption) | (with_reducible refine below_drewN ?_ _) | (with_reducible refine Below.alloc ?_ ?_ _) | (with_reducible refine Below.drew ?_) | (with_reducible refine below_wext ?_ _ _ ?_) | (with_reducible refine Below.setCell ?_ ?_ _) | (simp only [World.size_alloc, World.size_setCell, World.size_drew, wext_size]; omega) | go_size)⟩

set_option maxRecDepth 100000 in
set_option maxHeartbeats 1600000 in
theorem name_8_n (fn rd rs1 rs2 imm size : Int) (sg : Bool) (w : World) (z4 : (size == 4) = false) (z8 : (size == 8) = false) :
    Calls Tryz.prog 27 #[Ins.val ⟨8, fn, rd, rs1, rs2, imm, size, sg⟩] w fun e w' => e = .returned (.string (nameAt nm_ops fn)) ∧ Below w.heap.size w w' := by
  unfold Ins.val
  go_enter Tryz.func27, Tryz.ntmps27
  go_upto_region 17 with (go_at_call 56; refine (operations_any _).mono ?_; rintro e w1 ⟨rfl, hb⟩; obtain ⟨os1, d1, rfl⟩ := wext_of_below hb; clear hb; have hsc := store_opsA (wext (w.alloc (.cells #[.int .i64 8, .int .i64 fn, .int .i64 rd, .int .i64 rs1, .int .i64 rs2, .int .i64 imm, .int .i64 size, .bool sg] 23)) os1 d1); simp only [wext_size, World.size_alloc] at hsc)
  have hB : ((wext (w.alloc (.cells #[.int .i64 8, .int .i64 fn, .int .i64 rd, .int .i64 rs1, .int .i64 rs2, .int .i64 imm, .int .i64 size, .bool sg] 23)) os1 d1).alloc (.cells opsA 83)).heap[w.heap.size + 1 + os1.size]? = some (.cells (nm_ops.map Value.string).toArray 83 (0, 0)) := by rw [← opsA_names]; refine heap_at_new0 _ _ _ ?_; simp [wext_size]
  have hz := nameAt_size nm_ops fn (by decide)
  clear hsc
  go_region_with (first
    | (go_at_call 57; refine (of_blk _ 29 nm_ops _ _ (t := 83) (fz := (0, 0)) ?hb (by decide)).mono ?_; (case hb => first | exact hB | (rw [← opsA_names]; refine heap_at_new0 _ _ _ ?_; simp [wext_size]; done)); rintro e w' ⟨rfl, rfl⟩)
    | (go_at_call 58; refine (immediate_any _ _ hz).mono ?_; rintro e w' ⟨rfl, rfl⟩))
  all_goals go_wp2
  all_goals go_ret
  all_goals exact ⟨rfl, by repeat' (first | (with_reducible exact Below.refl _ _) | (with_reducible assumption) | (with_reducible refine below_drewN ?_ _) | (with_reducible refine Below.alloc ?_ ?_ _) | (with_reducible refine Below.drew ?_) | (with_reducible refine below_wext ?_ _ _ ?_) | (with_reducible refine Below.setCell ?_ ?_ _) | (simp only [World.size_alloc, World.size_setCell, World.size_drew, wext_size]; omega) | go_size)⟩

set_option maxRecDepth 100000 in
set_option maxHeartbeats 1600000 in
theorem name_9_4 (fn rd rs1 rs2 imm : Int) (sg : Bool) (w : World) :
    Calls Tryz.prog 27 #[Ins.val ⟨9, fn, rd, rs1, rs2, imm, 4, sg⟩] w fun e w' => e = .returned (.string (immOpOf (nameAt nm_ops fn))) ∧ Below w.heap.size w w' := by
  unfold Ins.val
  go_enter Tryz.func27, Tryz.ntmps27
  go_upto_region 19 with (go_at_call 56; refine (operations_any _).mono ?_; rintro e w1 ⟨rfl, hb⟩; obtain ⟨os1, d1, rfl⟩ := wext_of_below hb; clear hb; have hsc := store_opsA (wext (w.alloc (.cells #[.int .i64 9, .int .i64 fn, .int .i64 rd, .int .i64 rs1, .int .i64 rs2, .int .i64 imm, .int .i64 4, .bool sg] 23)) os1 d1); simp only [wext_size, World.size_alloc] at hsc)
  have hB : ((wext (w.alloc (.cells #[.int .i64 9, .int .i64 fn, .int .i64 rd, .int .i64 rs1, .int .i64 rs2, .int .i64 imm, .int .i64 4, .bool sg] 23)) os1 d1).alloc (.cells opsA 83)).heap[w.heap.size + 1 + os1.size]? = some (.cells (nm_ops.map Value.string).toArray 83 (0, 0)) := by rw [← opsA_names]; refine heap_at_new0 _ _ _ ?_; simp [wext_size]
  have hz := nameAt_size nm_ops fn (by decide)
  clear hsc
  go_region_with (first
    | (go_at_call 57; refine (of_blk _ 29 nm_ops _ _ (t := 83) (fz := (0, 0)) ?hb (by decide)).mono ?_; (case hb => first | exact hB | (rw [← opsA_names]; refine heap_at_new0 _ _ _ ?_; simp [wext_size]; done)); rintro e w' ⟨rfl, rfl⟩)
    | (go_at_call 58; refine (immediate_any _ _ hz).mono ?_; rintro e w' ⟨rfl, rfl⟩))
  all_goals go_wp2
  all_goals go_ret
  all_goals exact ⟨rfl, by repeat' (first | (with_reducible exact Below.refl _ _) | (with_reducible assumption) | (with_reducible refine below_drewN ?_ _) | (with_reducible refine Below.alloc ?_ ?_ _) | (with_reducible refine Below.drew ?_) | (with_reducible refine below_wext ?_ _ _ ?_) | (with_reducible refine Below.setCell ?_ ?_ _) | (simp only [World.size_alloc, World.size_setCell, World.size_drew, wext_size]; omega) | go_size)⟩

set_option maxRecDepth 100000 in
set_option maxHeartbeats 1600000 in
theorem name_9_8 (fn rd rs1 rs2 imm : Int) (sg : Bool) (w : World) :
    Calls Tryz.prog 27 #[Ins.val ⟨9, fn, rd, rs1, rs2, imm, 8, sg⟩] w fun e w' => e = .returned (.string (immOpOf (nameAt nm_ops fn))) ∧ Below w.heap.size w w' := by
  unfold Ins.val
  go_enter Tryz.func27, Tryz.ntmps27
  go_upto_region 19 with (go_at_call 56; refine (operations_any _).mono ?_; rintro e w1 ⟨rfl, hb⟩; obtain ⟨os1, d1, rfl⟩ := wext_of_below hb; clear hb; have hsc := store_opsA (wext (w.alloc (.cells #[.int .i64 9, .int .i64 fn, .int .i64 rd, .int .i64 rs1, .int .i64 rs2, .int .i64 imm, .int .i64 8, .bool sg] 23)) os1 d1); simp only [wext_size, World.size_alloc] at hsc)
  have hB : ((wext (w.alloc (.cells #[.int .i64 9, .int .i64 fn, .int .i64 rd, .int .i64 rs1, .int .i64 rs2, .int .i64 imm, .int .i64 8, .bool sg] 23)) os1 d1).alloc (.cells opsA 83)).heap[w.heap.size + 1 + os1.size]? = some (.cells (nm_ops.map Value.string).toArray 83 (0, 0)) := by rw [← opsA_names]; refine heap_at_new0 _ _ _ ?_; simp [wext_size]
  have hz := nameAt_size nm_ops fn (by decide)
  clear hsc
  go_region_with (first
    | (go_at_call 57; refine (of_blk _ 29 nm_ops _ _ (t := 83) (fz := (0, 0)) ?hb (by decide)).mono ?_; (case hb => first | exact hB | (rw [← opsA_names]; refine heap_at_new0 _ _ _ ?_; simp [wext_size]; done)); rintro e w' ⟨rfl, rfl⟩)
    | (go_at_call 58; refine (immediate_any _ _ hz).mono ?_; rintro e w' ⟨rfl, rfl⟩))
  all_goals go_wp2
  all_goals go_ret
  all_goals exact ⟨rfl, by repeat' (first | (with_reducible exact Below.refl _ _) | (with_reducible assumption) | (with_reducible refine below_drewN ?_ _) | (with_reducible refine Below.alloc ?_ ?_ _) | (with_reducible refine Below.drew ?_) | (with_reducible refine below_wext ?_ _ _ ?_) | (with_reducible refine Below.setCell ?_ ?_ _) | (simp only [World.size_alloc, World.size_setCell, World.size_drew, wext_size]; omega) | go_size)⟩

set_option maxRecDepth 100000 in
set_option maxHeartbeats 1600000 in
theorem name_9_n (fn rd rs1 rs2 imm size : Int) (sg : Bool) (w : World) (z4 : (size == 4) = false) (z8 : (size == 8) = false) :
    Calls Tryz.prog 27 #[Ins.val ⟨9, fn, rd, rs1, rs2, imm, size, sg⟩] w fun e w' => e = .returned (.string (immOpOf (nameAt nm_ops fn))) ∧ Below w.heap.size w w' := by
  unfold Ins.val
  go_enter Tryz.func27, Tryz.ntmps27
  go_upto_region 19 with (go_at_call 56; refine (operations_any _).mono ?_; rintro e w1 ⟨rfl, hb⟩; obtain ⟨os1, d1, rfl⟩ := wext_of_below hb; clear hb; have hsc := store_opsA (wext (w.alloc (.cells #[.int .i64 9, .int .i64 fn, .int .i64 rd, .int .i64 rs1, .int .i64 rs2, .int .i64 imm, .int .i64 size, .bool sg] 23)) os1 d1); simp only [wext_size, World.size_alloc] at hsc)
  have hB : ((wext (w.alloc (.cells #[.int .i64 9, .int .i64 fn, .int .i64 rd, .int .i64 rs1, .int .i64 rs2, .int .i64 imm, .int .i64 size, .bool sg] 23)) os1 d1).alloc (.cells opsA 83)).heap[w.heap.size + 1 + os1.size]? = some (.cells (nm_ops.map Value.string).toArray 83 (0, 0)) := by rw [← opsA_names]; refine heap_at_new0 _ _ _ ?_; simp [wext_size]
  have hz := nameAt_size nm_ops fn (by decide)
  clear hsc
  go_region_with (first
    | (go_at_call 57; refine (of_blk _ 29 nm_ops _ _ (t := 83) (fz := (0, 0)) ?hb (by decide)).mono ?_; (case hb => first | exact hB | (rw [← opsA_names]; refine heap_at_new0 _ _ _ ?_; simp [wext_size]; done)); rintro e w' ⟨rfl, rfl⟩)
    | (go_at_call 58; refine (immediate_any _ _ hz).mono ?_; rintro e w' ⟨rfl, rfl⟩))
  all_goals go_wp2
  all_goals go_ret
  all_goals exact ⟨rfl, by repeat' (first | (with_reducible exact Below.refl _ _) | (with_reducible assumption) | (with_reducible refine below_drewN ?_ _) | (with_reducible refine Below.alloc ?_ ?_ _) | (with_reducible refine Below.drew ?_) | (with_reducible refine below_wext ?_ _ _ ?_) | (with_reducible refine Below.setCell ?_ ?_ _) | (simp only [World.size_alloc, World.size_setCell, World.size_drew, wext_size]; omega) | go_size)⟩

end Go.Proofs.YtmklpjelfonilaaGreatDoor
