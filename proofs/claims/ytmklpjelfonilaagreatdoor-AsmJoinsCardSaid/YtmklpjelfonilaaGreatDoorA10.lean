/- Package inst, writing: encode, for each kind. -/
import Derived.Test.YtmklpjelfonilaaGreatDoorA9
import Derived.Deep.RegionWith
import Derived.Deep.RegionHeld3
import Derived.Deep.DeepCutAuto
namespace Go.Proofs.YtmklpjelfonilaaGreatDoor
open Go.RowKit
attribute [local go_sem] alloc_drewN setCell_drewN wext_size wext_drewN wext_drew wext_setCell wext_cell wext_frozen
set_option linter.unusedVariables false
set_option linter.unusedSimpArgs false
theorem idxFrom_bounds (x : Int) : ∀ (l : List Int) (i : Nat), Lib.idxFrom l x i = -1 ∨ ((i : Int) ≤ Lib.idxFrom l x i ∧ Lib.idxFrom l x i < i + l.length)
  | [], _ => .inl rfl
  | z :: l, i => by
    unfold Lib.idxFrom
    split
    · right; simp; omega
    · rcases idxFrom_bounds x l (i + 1) with h | h
      · exact .inl h
      · right; simp at h ⊢; omega
theorem idxOf_bounds (l : List Int) (x : Int) : -1 ≤ Lib.idxOf l x ∧ Lib.idxOf l x < l.length ∨ l = [] := by
  unfold Lib.idxOf
  rcases idxFrom_bounds x l 0 with h | h
  · cases l with
    | nil => exact .inr rfl
    | cons a l => left; rw [h]; simp; omega
  · left; simp at h ⊢; omega

set_option maxRecDepth 100000 in
set_option maxHeartbeats 1600000 in
theorem enc_1 (fn rd rs1 rs2 imm size : Int) (sg : Bool) (w : World) :
    Calls Tryz.prog 43 #[Ins.val ⟨1, fn, rd, rs1, rs2, imm, size, sg⟩] w fun e w' => e = .returned (.int .u32 (bits .or .u32 (bits .or .u32 (55) (bits .or .u32 (bits .or .u32 (putOf rd 11 7) (putOf rs1 19 15)) (putOf rs2 24 20))) (putOf (imm / 4096) 31 12))) ∧ Below w.heap.size w w' := by
  unfold Ins.val
  go_enter Tryz.func43, Tryz.ntmps43
  go_wp2_with fail
  go_quiet ((go_at_call 64; exact quiet_l (put_any _ _ _ _ (by omega) (by omega) (by omega))))
  go_wp2_with (go_at_call 64; refine (put_any _ _ _ _ (by omega) (by omega) (by omega)).mono ?_; rintro e w' ⟨rfl, rfl⟩)
  all_goals go_ret
  all_goals exact ⟨rfl, by repeat' (first | (with_reducible exact Below.refl _ _) | (with_reducible assumption) | (with_reducible refine below_drewN ?_ _) | (with_reducible refine Below.alloc ?_ ?_ _) | (with_reducible refine Below.drew ?_) | (with_reducible refine below_wext ?_ _ _ ?_) | (with_reducible refine Below.setCell ?_ ?_ _) | go_size)⟩

set_option maxRecDepth 100000 in
set_option maxHeartbeats 1600000 in
theorem enc_2 (fn rd rs1 rs2 imm size : Int) (sg : Bool) (w : World) :
    Calls Tryz.prog 43 #[Ins.val ⟨2, fn, rd, rs1, rs2, imm, size, sg⟩] w fun e w' => e = .returned (.int .u32 (bits .or .u32 (bits .or .u32 (23) (bits .or .u32 (bits .or .u32 (putOf rd 11 7) (putOf rs1 19 15)) (putOf rs2 24 20))) (putOf (imm / 4096) 31 12))) ∧ Below w.heap.size w w' := by
  unfold Ins.val
  go_enter Tryz.func43, Tryz.ntmps43
  go_wp2_with fail
  go_quiet ((go_at_call 64; exact quiet_l (put_any _ _ _ _ (by omega) (by omega) (by omega))))
  go_wp2_with (go_at_call 64; refine (put_any _ _ _ _ (by omega) (by omega) (by omega)).mono ?_; rintro e w' ⟨rfl, rfl⟩)
  all_goals go_ret
  all_goals exact ⟨rfl, by repeat' (first | (with_reducible exact Below.refl _ _) | (with_reducible assumption) | (with_reducible refine below_drewN ?_ _) | (with_reducible refine Below.alloc ?_ ?_ _) | (with_reducible refine Below.drew ?_) | (with_reducible refine below_wext ?_ _ _ ?_) | (with_reducible refine Below.setCell ?_ ?_ _) | go_size)⟩

set_option maxRecDepth 100000 in
set_option maxHeartbeats 1600000 in
theorem enc_4 (fn rd rs1 rs2 imm size : Int) (sg : Bool) (w : World) :
    Calls Tryz.prog 43 #[Ins.val ⟨4, fn, rd, rs1, rs2, imm, size, sg⟩] w fun e w' => e = .returned (.int .u32 (bits .or .u32 (bits .or .u32 (103) (bits .or .u32 (bits .or .u32 (putOf rd 11 7) (putOf rs1 19 15)) (putOf rs2 24 20))) (putOf imm 31 20))) ∧ Below w.heap.size w w' := by
  unfold Ins.val
  go_enter Tryz.func43, Tryz.ntmps43
  go_wp2_with fail
  go_quiet ((go_at_call 64; exact quiet_l (put_any _ _ _ _ (by omega) (by omega) (by omega))))
  go_wp2_with (go_at_call 64; refine (put_any _ _ _ _ (by omega) (by omega) (by omega)).mono ?_; rintro e w' ⟨rfl, rfl⟩)
  all_goals go_ret
  all_goals exact ⟨rfl, by repeat' (first | (with_reducible exact Below.refl _ _) | (with_reducible assumption) | (with_reducible refine below_drewN ?_ _) | (with_reducible refine Below.alloc ?_ ?_ _) | (with_reducible refine Below.drew ?_) | (with_reducible refine below_wext ?_ _ _ ?_) | (with_reducible refine Below.setCell ?_ ?_ _) | go_size)⟩

set_option maxRecDepth 100000 in
set_option maxHeartbeats 1600000 in
theorem enc_10 (fn rd rs1 rs2 imm size : Int) (sg : Bool) (w : World) :
    Calls Tryz.prog 43 #[Ins.val ⟨10, fn, rd, rs1, rs2, imm, size, sg⟩] w fun e w' => e = .returned (.int .u32 (15)) ∧ Below w.heap.size w w' := by
  unfold Ins.val
  go_enter Tryz.func43, Tryz.ntmps43
  go_wp2_with fail
  go_quiet ((go_at_call 64; exact quiet_l (put_any _ _ _ _ (by omega) (by omega) (by omega))))
  go_wp2
  all_goals go_ret
  all_goals exact ⟨rfl, by repeat' (first | (with_reducible exact Below.refl _ _) | (with_reducible assumption) | (with_reducible refine below_drewN ?_ _) | (with_reducible refine Below.alloc ?_ ?_ _) | (with_reducible refine Below.drew ?_) | (with_reducible refine below_wext ?_ _ _ ?_) | (with_reducible refine Below.setCell ?_ ?_ _) | go_size)⟩

set_option maxRecDepth 100000 in
set_option maxHeartbeats 1600000 in
theorem enc_11 (fn rd rs1 rs2 imm size : Int) (sg : Bool) (w : World) :
    Calls Tryz.prog 43 #[Ins.val ⟨11, fn, rd, rs1, rs2, imm, size, sg⟩] w fun e w' => e = .returned (.int .u32 (115)) ∧ Below w.heap.size w w' := by
  unfold Ins.val
  go_enter Tryz.func43, Tryz.ntmps43
  go_wp2_with fail
  go_quiet ((go_at_call 64; exact quiet_l (put_any _ _ _ _ (by omega) (by omega) (by omega))))
  go_wp2
  all_goals go_ret
  all_goals exact ⟨rfl, by repeat' (first | (with_reducible exact Below.refl _ _) | (with_reducible assumption) | (with_reducible refine below_drewN ?_ _) | (with_reducible refine Below.alloc ?_ ?_ _) | (with_reducible refine Below.drew ?_) | (with_reducible refine below_wext ?_ _ _ ?_) | (with_reducible refine Below.setCell ?_ ?_ _) | go_size)⟩

set_option maxRecDepth 100000 in
set_option maxHeartbeats 1600000 in
theorem enc_12 (fn rd rs1 rs2 imm size : Int) (sg : Bool) (w : World) :
    Calls Tryz.prog 43 #[Ins.val ⟨12, fn, rd, rs1, rs2, imm, size, sg⟩] w fun e w' => e = .returned (.int .u32 (1048691)) ∧ Below w.heap.size w w' := by
  unfold Ins.val
  go_enter Tryz.func43, Tryz.ntmps43
  go_wp2_with fail
  go_quiet ((go_at_call 64; exact quiet_l (put_any _ _ _ _ (by omega) (by omega) (by omega))))
  go_wp2
  all_goals go_ret
  all_goals exact ⟨rfl, by repeat' (first | (with_reducible exact Below.refl _ _) | (with_reducible assumption) | (with_reducible refine below_drewN ?_ _) | (with_reducible refine Below.alloc ?_ ?_ _) | (with_reducible refine Below.drew ?_) | (with_reducible refine below_wext ?_ _ _ ?_) | (with_reducible refine Below.setCell ?_ ?_ _) | go_size)⟩

set_option maxRecDepth 100000 in
set_option maxHeartbeats 1600000 in
theorem enc_18 (fn rd rs1 rs2 imm size : Int) (sg : Bool) (w : World) :
    Calls Tryz.prog 43 #[Ins.val ⟨18, fn, rd, rs1, rs2, imm, size, sg⟩] w fun e w' => e = .returned (.int .u32 (270532723)) ∧ Below w.heap.size w w' := by
  unfold Ins.val
  go_enter Tryz.func43, Tryz.ntmps43
  go_wp2_with fail
  go_quiet ((go_at_call 64; exact quiet_l (put_any _ _ _ _ (by omega) (by omega) (by omega))))
  go_wp2
  all_goals go_ret
  all_goals exact ⟨rfl, by repeat' (first | (with_reducible exact Below.refl _ _) | (with_reducible assumption) | (with_reducible refine below_drewN ?_ _) | (with_reducible refine Below.alloc ?_ ?_ _) | (with_reducible refine Below.drew ?_) | (with_reducible refine below_wext ?_ _ _ ?_) | (with_reducible refine Below.setCell ?_ ?_ _) | go_size)⟩

set_option maxRecDepth 100000 in
set_option maxHeartbeats 1600000 in
theorem enc_19 (fn rd rs1 rs2 imm size : Int) (sg : Bool) (w : World) :
    Calls Tryz.prog 43 #[Ins.val ⟨19, fn, rd, rs1, rs2, imm, size, sg⟩] w fun e w' => e = .returned (.int .u32 (273678451)) ∧ Below w.heap.size w w' := by
  unfold Ins.val
  go_enter Tryz.func43, Tryz.ntmps43
  go_wp2_with fail
  go_quiet ((go_at_call 64; exact quiet_l (put_any _ _ _ _ (by omega) (by omega) (by omega))))
  go_wp2
  all_goals go_ret
  all_goals exact ⟨rfl, by repeat' (first | (with_reducible exact Below.refl _ _) | (with_reducible assumption) | (with_reducible refine below_drewN ?_ _) | (with_reducible refine Below.alloc ?_ ?_ _) | (with_reducible refine Below.drew ?_) | (with_reducible refine below_wext ?_ _ _ ?_) | (with_reducible refine Below.setCell ?_ ?_ _) | go_size)⟩

set_option maxRecDepth 100000 in
set_option maxHeartbeats 1600000 in
theorem enc_20 (fn rd rs1 rs2 imm size : Int) (sg : Bool) (w : World) :
    Calls Tryz.prog 43 #[Ins.val ⟨20, fn, rd, rs1, rs2, imm, size, sg⟩] w fun e w' => e = .returned (.int .u32 (bits .or .u32 (301990003) (bits .or .u32 (bits .or .u32 (putOf rd 11 7) (putOf rs1 19 15)) (putOf rs2 24 20)))) ∧ Below w.heap.size w w' := by
  unfold Ins.val
  go_enter Tryz.func43, Tryz.ntmps43
  go_wp2_with fail
  go_quiet ((go_at_call 64; exact quiet_l (put_any _ _ _ _ (by omega) (by omega) (by omega))))
  go_wp2
  all_goals go_ret
  all_goals exact ⟨rfl, by repeat' (first | (with_reducible exact Below.refl _ _) | (with_reducible assumption) | (with_reducible refine below_drewN ?_ _) | (with_reducible refine Below.alloc ?_ ?_ _) | (with_reducible refine Below.drew ?_) | (with_reducible refine below_wext ?_ _ _ ?_) | (with_reducible refine Below.setCell ?_ ?_ _) | go_size)⟩

set_option maxRecDepth 100000 in
set_option maxHeartbeats 1600000 in
theorem enc_3 (fn rd rs1 rs2 imm size : Int) (sg : Bool) (w : World) :
    Calls Tryz.prog 43 #[Ins.val ⟨3, fn, rd, rs1, rs2, imm, size, sg⟩] w fun e w' => e = .returned (.int .u32 (bits .or .u32 (bits .or .u32 (bits .or .u32 (bits .or .u32 (bits .or .u32 (111) (bits .or .u32 (bits .or .u32 (putOf rd 11 7) (putOf rs1 19 15)) (putOf rs2 24 20))) (putOf (imm / 1048576) 31 31)) (putOf (imm / 4096) 19 12)) (putOf (imm / 2048) 20 20)) (putOf (imm / 2) 30 21))) ∧ Below w.heap.size w w' := by
  unfold Ins.val
  go_enter Tryz.func43, Tryz.ntmps43
  go_wp2_with fail
  go_quiet ((go_at_call 64; exact quiet_l (put_any _ _ _ _ (by omega) (by omega) (by omega))))
  go_wp2_with fail
  go_quiet ((go_at_call 64; first | exact quiet_al (put_any _ _ _ _ (by omega) (by omega) (by omega)) | exact quiet_l (put_any _ _ _ _ (by omega) (by omega) (by omega))))
  go_wp2
  all_goals go_ret
  all_goals exact ⟨rfl, by repeat' (first | (with_reducible exact Below.refl _ _) | (with_reducible assumption) | (with_reducible refine below_drewN ?_ _) | (with_reducible refine Below.alloc ?_ ?_ _) | (with_reducible refine Below.drew ?_) | (with_reducible refine below_wext ?_ _ _ ?_) | (with_reducible refine Below.setCell ?_ ?_ _) | go_size)⟩

set_option maxRecDepth 100000 in
set_option maxHeartbeats 1600000 in
theorem enc_13 (fn rd rs1 rs2 imm size : Int) (sg : Bool) (w : World) :
    Calls Tryz.prog 43 #[Ins.val ⟨13, fn, rd, rs1, rs2, imm, size, sg⟩] w fun e w' => e = .returned (.int .u32 (bits .or .u32 (bits .or .u32 (bits .or .u32 (115) (bits .and .u32 (bits .or .u32 (bits .or .u32 (putOf rd 11 7) (putOf rs1 19 15)) (putOf rs2 24 20)) 1048575)) (putOf fn 13 12)) (putOf imm 31 20))) ∧ Below w.heap.size w w' := by
  unfold Ins.val
  go_enter Tryz.func43, Tryz.ntmps43
  go_wp2_with fail
  go_quiet ((go_at_call 64; exact quiet_l (put_any _ _ _ _ (by omega) (by omega) (by omega))))
  go_wp2_with fail
  go_quiet ((go_at_call 64; first | exact quiet_al (put_any _ _ _ _ (by omega) (by omega) (by omega)) | exact quiet_l (put_any _ _ _ _ (by omega) (by omega) (by omega))))
  go_wp2
  all_goals go_ret
  all_goals exact ⟨rfl, by repeat' (first | (with_reducible exact Below.refl _ _) | (with_reducible assumption) | (with_reducible refine below_drewN ?_ _) | (with_reducible refine Below.alloc ?_ ?_ _) | (with_reducible refine Below.drew ?_) | (with_reducible refine below_wext ?_ _ _ ?_) | (with_reducible refine Below.setCell ?_ ?_ _) | go_size)⟩

set_option maxRecDepth 100000 in
set_option maxHeartbeats 1600000 in
theorem enc_14 (fn rd rs1 rs2 imm size : Int) (sg : Bool) (w : World) :
    Calls Tryz.prog 43 #[Ins.val ⟨14, fn, rd, rs1, rs2, imm, size, sg⟩] w fun e w' => e = .returned (.int .u32 (bits .or .u32 (bits .or .u32 (bits .or .u32 (16499) (bits .and .u32 (bits .or .u32 (bits .or .u32 (putOf rd 11 7) (putOf rs1 19 15)) (putOf rs2 24 20)) 1048575)) (putOf fn 13 12)) (putOf imm 31 20))) ∧ Below w.heap.size w w' := by
  unfold Ins.val
  go_enter Tryz.func43, Tryz.ntmps43
  go_wp2_with fail
  go_quiet ((go_at_call 64; exact quiet_l (put_any _ _ _ _ (by omega) (by omega) (by omega))))
  go_wp2_with fail
  go_quiet ((go_at_call 64; first | exact quiet_al (put_any _ _ _ _ (by omega) (by omega) (by omega)) | exact quiet_l (put_any _ _ _ _ (by omega) (by omega) (by omega))))
  go_wp2
  all_goals go_ret
  all_goals exact ⟨rfl, by repeat' (first | (with_reducible exact Below.refl _ _) | (with_reducible assumption) | (with_reducible refine below_drewN ?_ _) | (with_reducible refine Below.alloc ?_ ?_ _) | (with_reducible refine Below.drew ?_) | (with_reducible refine below_wext ?_ _ _ ?_) | (with_reducible refine Below.setCell ?_ ?_ _) | go_size)⟩

set_option maxRecDepth 100000 in
set_option maxHeartbeats 1600000 in
theorem enc_5 (fn rd rs1 rs2 imm size : Int) (sg : Bool) (w : World) :
    Calls Tryz.prog 43 #[Ins.val ⟨5, fn, rd, rs1, rs2, imm, size, sg⟩] w fun e w' => e = .returned (.int .u32 (bits .or .u32 (bits .or .u32 (bits .or .u32 (bits .or .u32 (bits .or .u32 (bits .or .u32 (99) (bits .or .u32 (bits .or .u32 (putOf rd 11 7) (putOf rs1 19 15)) (putOf rs2 24 20))) (putOf (Lib.idxOf [1, 2, 0, 0, 3, 4, 5, 6] fn) 14 12)) (putOf (imm / 4096) 31 31)) (putOf (imm / 2048) 7 7)) (putOf (imm / 32) 30 25)) (putOf (imm / 2) 11 8))) ∧ Below w.heap.size w w' := by
  unfold Ins.val
  go_enter Tryz.func43, Tryz.ntmps43
  go_wp2_with fail
  go_quiet ((go_at_call 64; exact quiet_l (put_any _ _ _ _ (by omega) (by omega) (by omega))))
  go_wp2_with (go_at_call 65; refine (index_blk _ _ [1, 2, 0, 0, 3, 4, 5, 6] _ _ (t := 3) (fz := (0, 0)) ?hb (by decide)).mono ?_; (case hb => first | exact heap_alloc_new _ _ | (refine heap_at_new0 _ _ _ ?_; simp; done) | (refine heap_at_new _ _ _ _ ?_; simp; done)); rintro e w' ⟨rfl, rfl⟩)
  go_quiet ((go_at_call 64; first | exact quiet_al (put_any _ _ _ _ (by omega) (by omega) (by omega)) | exact quiet_l (put_any _ _ _ _ (by omega) (by omega) (by omega))))
  go_wp2
  all_goals go_ret
  all_goals exact ⟨rfl, by repeat' (first | (with_reducible exact Below.refl _ _) | (with_reducible assumption) | (with_reducible refine below_drewN ?_ _) | (with_reducible refine Below.alloc ?_ ?_ _) | (with_reducible refine Below.drew ?_) | (with_reducible refine below_wext ?_ _ _ ?_) | (with_reducible refine Below.setCell ?_ ?_ _) | go_size)⟩

set_option maxRecDepth 100000 in
set_option maxHeartbeats 1600000 in
theorem enc_6_true (fn rd rs1 rs2 imm size : Int) (w : World) :
    Calls Tryz.prog 43 #[Ins.val ⟨6, fn, rd, rs1, rs2, imm, size, true⟩] w fun e w' => e = .returned (.int .u32 (bits .or .u32 (bits .or .u32 (bits .or .u32 (3) (bits .or .u32 (bits .or .u32 (putOf rd 11 7) (putOf rs1 19 15)) (putOf rs2 24 20))) (putOf (Lib.idxOf [1, 2, 4, 8] size) 14 12)) (putOf imm 31 20))) ∧ Below w.heap.size w w' := by
  have hi := (idxOf_bounds [1, 2, 4, 8] size).resolve_right (by simp)
  have hi2 : Lib.idxOf [1, 2, 4, 8] size < 4 := hi.2
  have hi1 := hi.1
  clear hi
  unfold Ins.val
  go_enter Tryz.func43, Tryz.ntmps43
  go_wp2_with fail
  go_quiet ((go_at_call 64; exact quiet_l (put_any _ _ _ _ (by omega) (by omega) (by omega))))
  go_wp2_with (go_at_call 65; refine (index_blk _ _ [1, 2, 4, 8] _ _ (t := 3) (fz := (0, 0)) ?hb (by decide)).mono ?_; (case hb => first | exact heap_alloc_new _ _ | (refine heap_at_new0 _ _ _ ?_; simp; done) | (refine heap_at_new _ _ _ _ ?_; simp; done)); rintro e w' ⟨rfl, rfl⟩)
  go_quiet ((go_at_call 64; first | exact quiet_al (put_any _ _ _ _ (by omega) (by omega) (by omega)) | exact quiet_l (put_any _ _ _ _ (by omega) (by omega) (by omega))))
  go_wp2
  all_goals go_ret
  all_goals exact ⟨rfl, by repeat' (first | (with_reducible exact Below.refl _ _) | (with_reducible assumption) | (with_reducible refine below_drewN ?_ _) | (with_reducible refine Below.alloc ?_ ?_ _) | (with_reducible refine Below.drew ?_) | (with_reducible refine below_wext ?_ _ _ ?_) | (with_reducible refine Below.setCell ?_ ?_ _) | go_size)⟩

set_option maxRecDepth 100000 in
set_option maxHeartbeats 1600000 in
theorem enc_6_false (fn rd rs1 rs2 imm size : Int) (w : World) :
    Calls Tryz.prog 43 #[Ins.val ⟨6, fn, rd, rs1, rs2, imm, size, false⟩] w fun e w' => e = .returned (.int .u32 (bits .or .u32 (bits .or .u32 (bits .or .u32 (3) (bits .or .u32 (bits .or .u32 (putOf rd 11 7) (putOf rs1 19 15)) (putOf rs2 24 20))) (putOf (Lib.idxOf [1, 2, 4, 8] size + 4) 14 12)) (putOf imm 31 20))) ∧ Below w.heap.size w w' := by
  have hi := (idxOf_bounds [1, 2, 4, 8] size).resolve_right (by simp)
  have hi2 : Lib.idxOf [1, 2, 4, 8] size < 4 := hi.2
  have hi1 := hi.1
  clear hi
  unfold Ins.val
  go_enter Tryz.func43, Tryz.ntmps43
  go_wp2_with fail
  go_quiet ((go_at_call 64; exact quiet_l (put_any _ _ _ _ (by omega) (by omega) (by omega))))
  go_wp2_with (go_at_call 65; refine (index_blk _ _ [1, 2, 4, 8] _ _ (t := 3) (fz := (0, 0)) ?hb (by decide)).mono ?_; (case hb => first | exact heap_alloc_new _ _ | (refine heap_at_new0 _ _ _ ?_; simp; done) | (refine heap_at_new _ _ _ _ ?_; simp; done)); rintro e w' ⟨rfl, rfl⟩)
  go_quiet ((go_at_call 64; first | exact quiet_al (put_any _ _ _ _ (by omega) (by omega) (by omega)) | exact quiet_l (put_any _ _ _ _ (by omega) (by omega) (by omega))))
  go_wp2
  all_goals go_ret
  all_goals exact ⟨rfl, by repeat' (first | (with_reducible exact Below.refl _ _) | (with_reducible assumption) | (with_reducible refine below_drewN ?_ _) | (with_reducible refine Below.alloc ?_ ?_ _) | (with_reducible refine Below.drew ?_) | (with_reducible refine below_wext ?_ _ _ ?_) | (with_reducible refine Below.setCell ?_ ?_ _) | go_size)⟩

set_option maxRecDepth 100000 in
set_option maxHeartbeats 1600000 in
theorem enc_7 (fn rd rs1 rs2 imm size : Int) (sg : Bool) (w : World) :
    Calls Tryz.prog 43 #[Ins.val ⟨7, fn, rd, rs1, rs2, imm, size, sg⟩] w fun e w' => e = .returned (.int .u32 (bits .or .u32 (bits .or .u32 (bits .or .u32 (bits .or .u32 (35) (bits .or .u32 (bits .or .u32 (putOf rd 11 7) (putOf rs1 19 15)) (putOf rs2 24 20))) (putOf (Lib.idxOf [1, 2, 4, 8] size) 14 12)) (putOf (imm / 32) 31 25)) (putOf imm 11 7))) ∧ Below w.heap.size w w' := by
  unfold Ins.val
  go_enter Tryz.func43, Tryz.ntmps43
  go_wp2_with fail
  go_quiet ((go_at_call 64; exact quiet_l (put_any _ _ _ _ (by omega) (by omega) (by omega))))
  go_wp2_with fail
  go_region_held3 (fun w' => w'.cell? ⟨w.heap.size, 5, none⟩ = some (.int .i64 imm) ∧ w'.cell? ⟨w.heap.size, 6, none⟩ = some (.int .i64 size)) (go_keep) (first
    | (go_at_call 64; refine (put_any _ _ _ _ (by omega) (by omega) (by omega)).mono ?_; rintro e w' ⟨rfl, rfl⟩)
    | (go_at_call 65; refine (index_blk _ _ [1, 2, 4, 8] _ _ (t := 3) (fz := (0, 0)) ?hb (by decide)).mono ?_; (case hb => first | exact heap_alloc_new _ _ | (refine heap_at_new0 _ _ _ ?_; simp; done) | (refine heap_at_new _ _ _ _ ?_; simp; done)); rintro e w' ⟨rfl, rfl⟩))
  all_goals go_wp2
  all_goals go_ret
  all_goals exact ⟨rfl, by repeat' (first | (with_reducible exact Below.refl _ _) | (with_reducible assumption) | (with_reducible refine below_drewN ?_ _) | (with_reducible refine Below.alloc ?_ ?_ _) | (with_reducible refine Below.drew ?_) | (with_reducible refine below_wext ?_ _ _ ?_) | (with_reducible refine Below.setCell ?_ ?_ _) | go_size)⟩

set_option maxRecDepth 100000 in
set_option maxHeartbeats 1600000 in
theorem enc_9 (fn rd rs1 rs2 imm size : Int) (sg : Bool) (w : World) :
    Calls Tryz.prog 43 #[Ins.val ⟨9, fn, rd, rs1, rs2, imm, size, sg⟩] w fun e w' => e = .returned (.int .u32 (bits .or .u32 (encImmOf ⟨9, fn, rd, rs1, rs2, imm, size, sg⟩) (bits .or .u32 (bits .or .u32 (putOf rd 11 7) (putOf rs1 19 15)) (putOf rs2 24 20)))) ∧ Below w.heap.size w w' := by
  unfold Ins.val
  go_enter Tryz.func43, Tryz.ntmps43
  go_wp2_with fail
  go_quiet ((go_at_call 64; exact quiet_l (put_any _ _ _ _ (by omega) (by omega) (by omega))))
  go_wp2_with (go_at_call 66; refine (encImm_any ⟨9, fn, rd, rs1, rs2, imm, size, sg⟩ _).mono ?_; rintro e w1 ⟨rfl, hb⟩; obtain ⟨os1, d1, rfl⟩ := wext_of_below hb; clear hb)
  all_goals go_ret
  all_goals exact ⟨rfl, by repeat' (first | (with_reducible exact Below.refl _ _) | (with_reducible assumption) | (with_reducible refine below_drewN ?_ _) | (with_reducible refine Below.alloc ?_ ?_ _) | (with_reducible refine Below.drew ?_) | (with_reducible refine below_wext ?_ _ _ ?_) | (with_reducible refine Below.setCell ?_ ?_ _) | go_size)⟩

set_option maxRecDepth 100000 in
set_option maxHeartbeats 1600000 in
theorem enc_15 (fn rd rs1 rs2 imm size : Int) (sg : Bool) (w : World) :
    Calls Tryz.prog 43 #[Ins.val ⟨15, fn, rd, rs1, rs2, imm, size, sg⟩] w fun e w' => e = .returned (.int .u32 (bits .or .u32 (bits .or .u32 (268435503) (bits .or .u32 (bits .or .u32 (putOf rd 11 7) (putOf rs1 19 15)) (putOf rs2 24 20))) (putOf (Lib.idxOf [4, 8] size + 2) 14 12))) ∧ Below w.heap.size w w' := by
  have hi := (idxOf_bounds [4, 8] size).resolve_right (by simp)
  have hi2 : Lib.idxOf [4, 8] size < 2 := hi.2
  have hi1 := hi.1
  clear hi
  unfold Ins.val
  go_enter Tryz.func43, Tryz.ntmps43
  go_wp2_with fail
  go_quiet ((go_at_call 64; exact quiet_l (put_any _ _ _ _ (by omega) (by omega) (by omega))))
  go_wp2_with (first
    | (go_at_call 64; refine (put_any _ _ _ _ (by omega) (by omega) (by omega)).mono ?_; rintro e w' ⟨rfl, rfl⟩)
    | (go_at_call 65; refine (index_blk _ _ [4, 8] _ _ (t := 3) (fz := (0, 0)) ?hb (by decide)).mono ?_; (case hb => first | exact heap_alloc_new _ _ | (refine heap_at_new0 _ _ _ ?_; simp; done) | (refine heap_at_new _ _ _ _ ?_; simp; done)); rintro e w' ⟨rfl, rfl⟩))
  all_goals go_ret
  all_goals exact ⟨rfl, by repeat' (first | (with_reducible exact Below.refl _ _) | (with_reducible assumption) | (with_reducible refine below_drewN ?_ _) | (with_reducible refine Below.alloc ?_ ?_ _) | (with_reducible refine Below.drew ?_) | (with_reducible refine below_wext ?_ _ _ ?_) | (with_reducible refine Below.setCell ?_ ?_ _) | go_size)⟩

set_option maxRecDepth 100000 in
set_option maxHeartbeats 1600000 in
theorem enc_16 (fn rd rs1 rs2 imm size : Int) (sg : Bool) (w : World) :
    Calls Tryz.prog 43 #[Ins.val ⟨16, fn, rd, rs1, rs2, imm, size, sg⟩] w fun e w' => e = .returned (.int .u32 (bits .or .u32 (bits .or .u32 (402653231) (bits .or .u32 (bits .or .u32 (putOf rd 11 7) (putOf rs1 19 15)) (putOf rs2 24 20))) (putOf (Lib.idxOf [4, 8] size + 2) 14 12))) ∧ Below w.heap.size w w' := by
  have hi := (idxOf_bounds [4, 8] size).resolve_right (by simp)
  have hi2 : Lib.idxOf [4, 8] size < 2 := hi.2
  have hi1 := hi.1
  clear hi
  unfold Ins.val
  go_enter Tryz.func43, Tryz.ntmps43
  go_wp2_with fail
  go_quiet ((go_at_call 64; exact quiet_l (put_any _ _ _ _ (by omega) (by omega) (by omega))))
  go_wp2_with (first
    | (go_at_call 64; refine (put_any _ _ _ _ (by omega) (by omega) (by omega)).mono ?_; rintro e w' ⟨rfl, rfl⟩)
    | (go_at_call 65; refine (index_blk _ _ [4, 8] _ _ (t := 3) (fz := (0, 0)) ?hb (by decide)).mono ?_; (case hb => first | exact heap_alloc_new _ _ | (refine heap_at_new0 _ _ _ ?_; simp; done) | (refine heap_at_new _ _ _ _ ?_; simp; done)); rintro e w' ⟨rfl, rfl⟩))
  all_goals go_ret
  all_goals exact ⟨rfl, by repeat' (first | (with_reducible exact Below.refl _ _) | (with_reducible assumption) | (with_reducible refine below_drewN ?_ _) | (with_reducible refine Below.alloc ?_ ?_ _) | (with_reducible refine Below.drew ?_) | (with_reducible refine below_wext ?_ _ _ ?_) | (with_reducible refine Below.setCell ?_ ?_ _) | go_size)⟩

set_option maxRecDepth 100000 in
set_option maxHeartbeats 1600000 in
theorem enc_17 (fn rd rs1 rs2 imm size : Int) (sg : Bool) (w : World) :
    Calls Tryz.prog 43 #[Ins.val ⟨17, fn, rd, rs1, rs2, imm, size, sg⟩] w fun e w' => e = .returned (.int .u32 (bits .or .u32 (bits .or .u32 (bits .or .u32 (47) (bits .or .u32 (bits .or .u32 (putOf rd 11 7) (putOf rs1 19 15)) (putOf rs2 24 20))) (putOf (Lib.idxOf [4, 8] size + 2) 14 12)) (putOf (Lib.idxOf [2, 1, 0, 0, 3, 0, 0, 0, 5, 0, 0, 0, 4, 0, 0, 0, 6, 0, 0, 0, 7, 0, 0, 0, 8, 0, 0, 0, 9] fn) 31 27))) ∧ Below w.heap.size w w' := by
  have hi := (idxOf_bounds [4, 8] size).resolve_right (by simp)
  have hi2 : Lib.idxOf [4, 8] size < 2 := hi.2
  have hi1 := hi.1
  clear hi
  unfold Ins.val
  go_enter Tryz.func43, Tryz.ntmps43
  go_wp2_with fail
  go_quiet ((go_at_call 64; exact quiet_l (put_any _ _ _ _ (by omega) (by omega) (by omega))))
  go_upto_region 48 with (first
    | (go_at_call 64; refine (put_any _ _ _ _ (by omega) (by omega) (by omega)).mono ?_; rintro e w' ⟨rfl, rfl⟩)
    | (go_at_call 65; refine (index_blk _ _ [4, 8] _ _ (t := 3) (fz := (0, 0)) ?hb (by decide)).mono ?_; (case hb => first | exact heap_alloc_new _ _ | (refine heap_at_new0 _ _ _ ?_; simp; done) | (refine heap_at_new _ _ _ _ ?_; simp; done)); rintro e w' ⟨rfl, rfl⟩))
  go_wp2_with (first
    | (go_at_call 64; refine (put_any _ _ _ _ (by omega) (by omega) (by omega)).mono ?_; rintro e w' ⟨rfl, rfl⟩)
    | (go_at_call 65; refine (index_blk _ _ [2, 1, 0, 0, 3, 0, 0, 0, 5, 0, 0, 0, 4, 0, 0, 0, 6, 0, 0, 0, 7, 0, 0, 0, 8, 0, 0, 0, 9] _ _ (t := 3) (fz := (0, 0)) ?hb (by decide)).mono ?_; (case hb => first | exact heap_alloc_new _ _ | (refine heap_at_new0 _ _ _ ?_; simp; done) | (refine heap_at_new _ _ _ _ ?_; simp; done)); rintro e w' ⟨rfl, rfl⟩))
  all_goals go_ret
  all_goals exact ⟨rfl, by repeat' (first | (with_reducible exact Below.refl _ _) | (with_reducible assumption) | (with_reducible refine below_drewN ?_ _) | (with_reducible refine Below.alloc ?_ ?_ _) | (with_reducible refine Below.drew ?_) | (with_reducible refine below_wext ?_ _ _ ?_) | (with_reducible refine Below.setCell ?_ ?_ _) | go_size)⟩

set_option maxRecDepth 100000 in
set_option maxHeartbeats 1600000 in
theorem enc_x (kind fn rd rs1 rs2 imm size : Int) (sg : Bool) (w : World) (n1 : (kind == 1) = false) (n2 : (kind == 2) = false) (n3 : (kind == 3) = false) (n4 : (kind == 4) = false) (n5 : (kind == 5) = false) (n6 : (kind == 6) = false) (n7 : (kind == 7) = false) (n9 : (kind == 9) = false) (n8 : (kind == 8) = false) (n10 : (kind == 10) = false) (n11 : (kind == 11) = false) (n12 : (kind == 12) = false) (n18 : (kind == 18) = false) (n19 : (kind == 19) = false) (n20 : (kind == 20) = false) (n13 : (kind == 13) = false) (n14 : (kind == 14) = false) (n15 : (kind == 15) = false) (n16 : (kind == 16) = false) (n17 : (kind == 17) = false) :
    Calls Tryz.prog 43 #[Ins.val ⟨kind, fn, rd, rs1, rs2, imm, size, sg⟩] w fun e w' => e = .returned (.int .u32 0) ∧ Below w.heap.size w w' := by
  have hi := (idxOf_bounds [4, 8] size).resolve_right (by simp)
  have hi2 : Lib.idxOf [4, 8] size < 2 := hi.2
  have hi1 := hi.1
  clear hi
  unfold Ins.val
  go_enter Tryz.func43, Tryz.ntmps43
  go_wp2_with fail
  go_quiet ((go_at_call 64; exact quiet_l (put_any _ _ _ _ (by omega) (by omega) (by omega))))
  go_wp2_with (first
    | (go_at_call 64; refine (put_any _ _ _ _ (by omega) (by omega) (by omega)).mono ?_; rintro e w' ⟨rfl, rfl⟩)
    | (go_at_call 65; refine (index_blk _ _ [4, 8] _ _ (t := 3) (fz := (0, 0)) ?hb (by decide)).mono ?_; (case hb => first | exact heap_alloc_new _ _ | (refine heap_at_new0 _ _ _ ?_; simp; done) | (refine heap_at_new _ _ _ _ ?_; simp; done)); rintro e w' ⟨rfl, rfl⟩))
  all_goals go_ret
  all_goals exact ⟨rfl, by repeat' (first | (with_reducible exact Below.refl _ _) | (with_reducible assumption) | (with_reducible refine below_drewN ?_ _) | (with_reducible refine Below.alloc ?_ ?_ _) | (with_reducible refine Below.drew ?_) | (with_reducible refine below_wext ?_ _ _ ?_) | (with_reducible refine Below.setCell ?_ ?_ _) | go_size)⟩
end Go.Proofs.YtmklpjelfonilaaGreatDoor
