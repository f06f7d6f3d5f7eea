/- Package inst, reading: atomic: what it returns. -/
import Derived.Test.YtmklpjelfonilaaGreatDoorA3
import Derived.Deep.RegionHeld3
import Derived.Deep.RegionWith
import Derived.Deep.DeepCutAuto
namespace Go.Proofs.YtmklpjelfonilaaGreatDoor
open Go.RowKit
attribute [local go_sem] alloc_drewN setCell_drewN wext_size wext_drewN wext_drew wext_setCell wext_cell wext_frozen

/-- `atomic(w)`. -/
def atOf (x : Int) : Option Ins :=
  if bitsOf x 14 12 = 2 ∨ bitsOf x 14 12 = 3 then
    if bitsOf x 31 27 = 2 then (if bitsOf x 24 20 = 0 then some { kind := 15, rd := bitsOf x 11 7, rs1 := bitsOf x 19 15, rs2 := bitsOf x 24 20, size := if bitsOf x 14 12 = 2 then 4 else 8 } else none)
    else if bitsOf x 31 27 = 3 then some { kind := 16, rd := bitsOf x 11 7, rs1 := bitsOf x 19 15, rs2 := bitsOf x 24 20, size := if bitsOf x 14 12 = 2 then 4 else 8 }
    else if bitsOf x 31 27 = 1 then some { kind := 17, fn := 1, rd := bitsOf x 11 7, rs1 := bitsOf x 19 15, rs2 := bitsOf x 24 20, size := if bitsOf x 14 12 = 2 then 4 else 8 }
    else if bitsOf x 31 27 % 4 = 0 then some { kind := 17, fn := pickOf [2, 3, 5, 4, 6, 7, 8, 9] (bitsOf x 31 27 / 4), rd := bitsOf x 11 7, rs1 := bitsOf x 19 15, rs2 := bitsOf x 24 20, size := if bitsOf x 14 12 = 2 then 4 else 8 }
    else none
  else none

theorem heap_at_new (w : World) (o : Obj) (m n : Nat) (h : m = w.heap.size) : ((w.alloc o).drewN n).heap[m]? = some o := by subst h; exact heap_alloc_new w o
theorem and3_mod (v : Int) (h0 : 0 ≤ v) (h1 : v < 32) : bits .and .i64 v 3 = v % 4 := bits_mask .i64 63 (by decide) wraps_i64 2 (by decide) v h0 (by omega)
theorem bne_of {a b : Int} (h : ¬ a = b) : (a != b) = true := by simpa using h

set_option maxRecDepth 100000 in
set_option maxHeartbeats 8000000 in
theorem atomic_reads (x : Int) (w : World) (h0 : 0 ≤ x) (h1 : x < 4294967296) : Reads Tryz.prog 98 #[.int .u32 x] w (atOf x) := by
  have r3 := bo3 x 14 12 rfl
  have r5 := five_cases x
  unfold Reads
  go_enter Tryz.func98, Tryz.ntmps98
  go_upto_region 1 with fail
  go_cut [4] (fun s4 wx => s4 = .pointer (some ⟨w.heap.size + 1, 0, none⟩) ∧ ∃ n, wx = ((w.alloc (.cells #[.int .i64 0, .int .i64 0, .int .i64 0, .int .i64 0, .int .i64 0, .int .i64 0, .int .i64 0, .bool false] 23)).alloc (.cells #[.int .i64 0, .int .i64 0, .int .i64 (bitsOf x 11 7), .int .i64 (bitsOf x 19 15), .int .i64 (bitsOf x 24 20), .int .i64 0, .int .i64 (IntKind.i64.wrap (2 ^ (bitsOf x 14 12).toNat)), .bool false] 23)).drewN n)
  case first =>
    go_region_held3 (fun _ => True) (exact True.intro) (first
      | (go_at_call 96; refine (f3_any _ _ h0 h1).mono ?_; rintro e w' ⟨rfl, m, rfl⟩)
      | (go_at_call 100; refine (rd_any _ _ h0 h1).mono ?_; rintro e w' ⟨rfl, m, rfl⟩)
      | (go_at_call 101; refine (rs1_any _ _ h0 h1).mono ?_; rintro e w' ⟨rfl, m, rfl⟩)
      | (go_at_call 102; refine (rs2_any _ _ h0 h1).mono ?_; rintro e w' ⟨rfl, m, rfl⟩))
    all_goals go_wp2_with fail
    all_goals go_meet
    all_goals exact ⟨rfl, _, rfl⟩
  case rest =>
    obtain ⟨rfl, n, rfl⟩ := hcut
    clear r3
    rcases f3_cases x with h | h | h | h | h | h | h | h
    · have HF := Lib.hid h
      rw [h]
      rw [show IntKind.i64.wrap (2 ^ (0 : Int).toNat) = 1 from by decide]
      have HS : Hid (atOf x = none) := by unfold atOf; rw [if_neg (by omega)]; exact rfl
      clear h
      go_wp2_with (first
    | (go_at_call 95; refine (op_any _ _ h0 h1).mono ?_; rintro e w' ⟨rfl, m, rfl⟩)
    | (go_at_call 96; refine (f3_is _ _ _ h0 h1 HF.out).mono ?_; rintro e w' ⟨rfl, m, rfl⟩)
    | (go_at_call 129; refine (f7_any _ _ h0 h1).mono ?_; rintro e w' ⟨rfl, m, rfl⟩)
    | (go_at_call 100; refine (rd_any _ _ h0 h1).mono ?_; rintro e w' ⟨rfl, m, rfl⟩)
    | (go_at_call 101; refine (rs1_any _ _ h0 h1).mono ?_; rintro e w' ⟨rfl, m, rfl⟩)
    | (go_at_call 102; refine (rs2_any _ _ h0 h1).mono ?_; rintro e w' ⟨rfl, m, rfl⟩)
    | (go_at_call 131; refine (bits_any _ _ _ _ h0 h1 (by omega) (by omega) (by omega)).mono ?_; rintro e w' ⟨rfl, m, rfl⟩))
      go_returns
      exact ⟨⟨0, 0, bitsOf x 11 7, bitsOf x 19 15, bitsOf x 24 20, 0, 1, false⟩, false, rfl, HS.out, by repeat' (first | (with_reducible exact Below.refl _ _) | (with_reducible assumption) | (with_reducible refine below_drewN ?_ _) | (with_reducible refine Below.alloc ?_ ?_ _) | (with_reducible refine Below.drew ?_) | (with_reducible refine below_wext ?_ _ _ ?_) | (with_reducible refine Below.setCell ?_ ?_ _) | go_size)⟩
    · have HF := Lib.hid h
      rw [h]
      rw [show IntKind.i64.wrap (2 ^ (1 : Int).toNat) = 2 from by decide]
      have HS : Hid (atOf x = none) := by unfold atOf; rw [if_neg (by omega)]; exact rfl
      clear h
      go_wp2_with (first
    | (go_at_call 95; refine (op_any _ _ h0 h1).mono ?_; rintro e w' ⟨rfl, m, rfl⟩)
    | (go_at_call 96; refine (f3_is _ _ _ h0 h1 HF.out).mono ?_; rintro e w' ⟨rfl, m, rfl⟩)
    | (go_at_call 129; refine (f7_any _ _ h0 h1).mono ?_; rintro e w' ⟨rfl, m, rfl⟩)
    | (go_at_call 100; refine (rd_any _ _ h0 h1).mono ?_; rintro e w' ⟨rfl, m, rfl⟩)
    | (go_at_call 101; refine (rs1_any _ _ h0 h1).mono ?_; rintro e w' ⟨rfl, m, rfl⟩)
    | (go_at_call 102; refine (rs2_any _ _ h0 h1).mono ?_; rintro e w' ⟨rfl, m, rfl⟩)
    | (go_at_call 131; refine (bits_any _ _ _ _ h0 h1 (by omega) (by omega) (by omega)).mono ?_; rintro e w' ⟨rfl, m, rfl⟩))
      go_returns
      exact ⟨⟨0, 0, bitsOf x 11 7, bitsOf x 19 15, bitsOf x 24 20, 0, 2, false⟩, false, rfl, HS.out, by repeat' (first | (with_reducible exact Below.refl _ _) | (with_reducible assumption) | (with_reducible refine below_drewN ?_ _) | (with_reducible refine Below.alloc ?_ ?_ _) | (with_reducible refine Below.drew ?_) | (with_reducible refine below_wext ?_ _ _ ?_) | (with_reducible refine Below.setCell ?_ ?_ _) | go_size)⟩
    · have HF := Lib.hid h
      rw [h]
      rw [show IntKind.i64.wrap (2 ^ (2 : Int).toNat) = 4 from by decide]
      have hz : (if bitsOf x 14 12 = 2 then (4 : Int) else 8) = 4 := by rw [if_pos h]
      by_cases c2 : bitsOf x 31 27 = 2
      · have HS : Hid (atOf x = if bitsOf x 24 20 = 0 then some { kind := 15, rd := bitsOf x 11 7, rs1 := bitsOf x 19 15, rs2 := bitsOf x 24 20, size := 4 } else none) := by unfold atOf; rw [if_pos (by omega)]; rw [if_pos c2, hz]; exact rfl
        have H5 := Lib.hid c2
        clear h hz c2
        go_wp2_with (first
    | (go_at_call 95; refine (op_any _ _ h0 h1).mono ?_; rintro e w' ⟨rfl, m, rfl⟩)
    | (go_at_call 96; refine (f3_is _ _ _ h0 h1 HF.out).mono ?_; rintro e w' ⟨rfl, m, rfl⟩)
    | (go_at_call 129; refine (f7_any _ _ h0 h1).mono ?_; rintro e w' ⟨rfl, m, rfl⟩)
    | (go_at_call 100; refine (rd_any _ _ h0 h1).mono ?_; rintro e w' ⟨rfl, m, rfl⟩)
    | (go_at_call 101; refine (rs1_any _ _ h0 h1).mono ?_; rintro e w' ⟨rfl, m, rfl⟩)
    | (go_at_call 102; refine (rs2_any _ _ h0 h1).mono ?_; rintro e w' ⟨rfl, m, rfl⟩)
    | (go_at_call 131; refine (bits_is _ _ _ _ _ h0 h1 (by omega) (by omega) (by omega) H5.out).mono ?_; rintro e w' ⟨rfl, m, rfl⟩)
    | (go_at_call 131; refine (bits_any _ _ _ _ h0 h1 (by omega) (by omega) (by omega)).mono ?_; rintro e w' ⟨rfl, m, rfl⟩))
        go_region_with (first | (go_at_call 102; refine (rs2_any _ _ h0 h1).mono ?_; rintro e w' ⟨rfl, m, rfl⟩))
        all_goals go_wp2
        all_goals go_returns
        all_goals exact ⟨⟨15, 0, bitsOf x 11 7, bitsOf x 19 15, bitsOf x 24 20, 0, 4, false⟩, (bitsOf x 24 20 == 0), rfl, by rw [HS.out]; by_cases hr : bitsOf x 24 20 = 0 <;> simp [hr], by repeat' (first | (with_reducible exact Below.refl _ _) | (with_reducible assumption) | (with_reducible refine below_drewN ?_ _) | (with_reducible refine Below.alloc ?_ ?_ _) | (with_reducible refine Below.drew ?_) | (with_reducible refine below_wext ?_ _ _ ?_) | (with_reducible refine Below.setCell ?_ ?_ _) | go_size)⟩
      by_cases c3 : bitsOf x 31 27 = 3
      · have HS : Hid (atOf x = some { kind := 16, rd := bitsOf x 11 7, rs1 := bitsOf x 19 15, rs2 := bitsOf x 24 20, size := 4 }) := by unfold atOf; rw [if_pos (by omega)]; rw [if_neg c2, if_pos c3, hz]; exact rfl
        have H5 := Lib.hid c3
        clear h hz c2 c3
        go_wp2_with (first
    | (go_at_call 95; refine (op_any _ _ h0 h1).mono ?_; rintro e w' ⟨rfl, m, rfl⟩)
    | (go_at_call 96; refine (f3_is _ _ _ h0 h1 HF.out).mono ?_; rintro e w' ⟨rfl, m, rfl⟩)
    | (go_at_call 129; refine (f7_any _ _ h0 h1).mono ?_; rintro e w' ⟨rfl, m, rfl⟩)
    | (go_at_call 100; refine (rd_any _ _ h0 h1).mono ?_; rintro e w' ⟨rfl, m, rfl⟩)
    | (go_at_call 101; refine (rs1_any _ _ h0 h1).mono ?_; rintro e w' ⟨rfl, m, rfl⟩)
    | (go_at_call 102; refine (rs2_any _ _ h0 h1).mono ?_; rintro e w' ⟨rfl, m, rfl⟩)
    | (go_at_call 131; refine (bits_is _ _ _ _ _ h0 h1 (by omega) (by omega) (by omega) H5.out).mono ?_; rintro e w' ⟨rfl, m, rfl⟩)
    | (go_at_call 131; refine (bits_any _ _ _ _ h0 h1 (by omega) (by omega) (by omega)).mono ?_; rintro e w' ⟨rfl, m, rfl⟩))
        go_returns
        exact ⟨⟨16, 0, bitsOf x 11 7, bitsOf x 19 15, bitsOf x 24 20, 0, 4, false⟩, true, rfl, HS.out, by repeat' (first | (with_reducible exact Below.refl _ _) | (with_reducible assumption) | (with_reducible refine below_drewN ?_ _) | (with_reducible refine Below.alloc ?_ ?_ _) | (with_reducible refine Below.drew ?_) | (with_reducible refine below_wext ?_ _ _ ?_) | (with_reducible refine Below.setCell ?_ ?_ _) | go_size)⟩
      by_cases c1 : bitsOf x 31 27 = 1
      · have HS : Hid (atOf x = some { kind := 17, fn := 1, rd := bitsOf x 11 7, rs1 := bitsOf x 19 15, rs2 := bitsOf x 24 20, size := 4 }) := by unfold atOf; rw [if_pos (by omega)]; rw [if_neg c2, if_neg c3, if_pos c1, hz]; exact rfl
        have H5 := Lib.hid c1
        clear h hz c1 c2 c3
        go_wp2_with (first
    | (go_at_call 95; refine (op_any _ _ h0 h1).mono ?_; rintro e w' ⟨rfl, m, rfl⟩)
    | (go_at_call 96; refine (f3_is _ _ _ h0 h1 HF.out).mono ?_; rintro e w' ⟨rfl, m, rfl⟩)
    | (go_at_call 129; refine (f7_any _ _ h0 h1).mono ?_; rintro e w' ⟨rfl, m, rfl⟩)
    | (go_at_call 100; refine (rd_any _ _ h0 h1).mono ?_; rintro e w' ⟨rfl, m, rfl⟩)
    | (go_at_call 101; refine (rs1_any _ _ h0 h1).mono ?_; rintro e w' ⟨rfl, m, rfl⟩)
    | (go_at_call 102; refine (rs2_any _ _ h0 h1).mono ?_; rintro e w' ⟨rfl, m, rfl⟩)
    | (go_at_call 131; refine (bits_is _ _ _ _ _ h0 h1 (by omega) (by omega) (by omega) H5.out).mono ?_; rintro e w' ⟨rfl, m, rfl⟩)
    | (go_at_call 131; refine (bits_any _ _ _ _ h0 h1 (by omega) (by omega) (by omega)).mono ?_; rintro e w' ⟨rfl, m, rfl⟩))
        go_returns
        exact ⟨⟨17, 1, bitsOf x 11 7, bitsOf x 19 15, bitsOf x 24 20, 0, 4, false⟩, true, rfl, HS.out, by repeat' (first | (with_reducible exact Below.refl _ _) | (with_reducible assumption) | (with_reducible refine below_drewN ?_ _) | (with_reducible refine Below.alloc ?_ ?_ _) | (with_reducible refine Below.drew ?_) | (with_reducible refine below_wext ?_ _ _ ?_) | (with_reducible refine Below.setCell ?_ ?_ _) | go_size)⟩
      have b2 := beq_false c2
      have b3 := beq_false c3
      have b1 := beq_false c1
      by_cases c4 : bitsOf x 31 27 % 4 = 0
      · have HS : Hid (atOf x = some { kind := 17, fn := pickOf [2, 3, 5, 4, 6, 7, 8, 9] (bitsOf x 31 27 / 4), rd := bitsOf x 11 7, rs1 := bitsOf x 19 15, rs2 := bitsOf x 24 20, size := 4 }) := by unfold atOf; rw [if_pos (by omega)]; rw [if_neg c2, if_neg c3, if_neg c1, if_pos c4, hz]; exact rfl
        have b4 : (bits .and .i64 (bitsOf x 31 27) 3 != 0) = false := by rw [and3_mod _ r5.1 r5.2, c4]; rfl
        clear h hz c1 c2 c3 c4
        go_wp2_with (first
    | (go_at_call 95; refine (op_any _ _ h0 h1).mono ?_; rintro e w' ⟨rfl, m, rfl⟩)
    | (go_at_call 96; refine (f3_is _ _ _ h0 h1 HF.out).mono ?_; rintro e w' ⟨rfl, m, rfl⟩)
    | (go_at_call 129; refine (f7_any _ _ h0 h1).mono ?_; rintro e w' ⟨rfl, m, rfl⟩)
    | (go_at_call 100; refine (rd_any _ _ h0 h1).mono ?_; rintro e w' ⟨rfl, m, rfl⟩)
    | (go_at_call 101; refine (rs1_any _ _ h0 h1).mono ?_; rintro e w' ⟨rfl, m, rfl⟩)
    | (go_at_call 102; refine (rs2_any _ _ h0 h1).mono ?_; rintro e w' ⟨rfl, m, rfl⟩)
    | (go_at_call 130; refine (pick_blk _ _ [2, 3, 5, 4, 6, 7, 8, 9] _ _ (t := 3) (fz := (0, 0)) ?hb).mono ?_; (case hb => refine heap_at_new _ _ _ _ ?_; simp); rintro e w' ⟨rfl, rfl⟩)
    | (go_at_call 131; refine (bits_any _ _ _ _ h0 h1 (by omega) (by omega) (by omega)).mono ?_; rintro e w' ⟨rfl, m, rfl⟩))
        go_returns
        exact ⟨⟨17, pickOf [2, 3, 5, 4, 6, 7, 8, 9] (bitsOf x 31 27 / 4), bitsOf x 11 7, bitsOf x 19 15, bitsOf x 24 20, 0, 4, false⟩, true, rfl, HS.out, by repeat' (first | (with_reducible exact Below.refl _ _) | (with_reducible assumption) | (with_reducible refine below_drewN ?_ _) | (with_reducible refine Below.alloc ?_ ?_ _) | (with_reducible refine Below.drew ?_) | (with_reducible refine below_wext ?_ _ _ ?_) | (with_reducible refine Below.setCell ?_ ?_ _) | go_size)⟩
      · have HS : Hid (atOf x = none) := by unfold atOf; rw [if_pos (by omega)]; rw [if_neg c2, if_neg c3, if_neg c1, if_neg c4]; exact rfl
        have b4 : (bits .and .i64 (bitsOf x 31 27) 3 != 0) = true := by rw [and3_mod _ r5.1 r5.2]; exact bne_of c4
        clear h hz c1 c2 c3 c4
        go_wp2_with (first
    | (go_at_call 95; refine (op_any _ _ h0 h1).mono ?_; rintro e w' ⟨rfl, m, rfl⟩)
    | (go_at_call 96; refine (f3_is _ _ _ h0 h1 HF.out).mono ?_; rintro e w' ⟨rfl, m, rfl⟩)
    | (go_at_call 129; refine (f7_any _ _ h0 h1).mono ?_; rintro e w' ⟨rfl, m, rfl⟩)
    | (go_at_call 100; refine (rd_any _ _ h0 h1).mono ?_; rintro e w' ⟨rfl, m, rfl⟩)
    | (go_at_call 101; refine (rs1_any _ _ h0 h1).mono ?_; rintro e w' ⟨rfl, m, rfl⟩)
    | (go_at_call 102; refine (rs2_any _ _ h0 h1).mono ?_; rintro e w' ⟨rfl, m, rfl⟩)
    | (go_at_call 131; refine (bits_any _ _ _ _ h0 h1 (by omega) (by omega) (by omega)).mono ?_; rintro e w' ⟨rfl, m, rfl⟩))
        go_returns
        exact ⟨⟨0, 0, bitsOf x 11 7, bitsOf x 19 15, bitsOf x 24 20, 0, 4, false⟩, false, rfl, HS.out, by repeat' (first | (with_reducible exact Below.refl _ _) | (with_reducible assumption) | (with_reducible refine below_drewN ?_ _) | (with_reducible refine Below.alloc ?_ ?_ _) | (with_reducible refine Below.drew ?_) | (with_reducible refine below_wext ?_ _ _ ?_) | (with_reducible refine Below.setCell ?_ ?_ _) | go_size)⟩
    · have HF := Lib.hid h
      rw [h]
      rw [show IntKind.i64.wrap (2 ^ (3 : Int).toNat) = 8 from by decide]
      have hz : (if bitsOf x 14 12 = 2 then (4 : Int) else 8) = 8 := by rw [if_neg (by omega)]
      by_cases c2 : bitsOf x 31 27 = 2
      · have HS : Hid (atOf x = if bitsOf x 24 20 = 0 then some { kind := 15, rd := bitsOf x 11 7, rs1 := bitsOf x 19 15, rs2 := bitsOf x 24 20, size := 8 } else none) := by unfold atOf; rw [if_pos (by omega)]; rw [if_pos c2, hz]; exact rfl
        have H5 := Lib.hid c2
        clear h hz c2
        go_wp2_with (first
    | (go_at_call 95; refine (op_any _ _ h0 h1).mono ?_; rintro e w' ⟨rfl, m, rfl⟩)
    | (go_at_call 96; refine (f3_is _ _ _ h0 h1 HF.out).mono ?_; rintro e w' ⟨rfl, m, rfl⟩)
    | (go_at_call 129; refine (f7_any _ _ h0 h1).mono ?_; rintro e w' ⟨rfl, m, rfl⟩)
    | (go_at_call 100; refine (rd_any _ _ h0 h1).mono ?_; rintro e w' ⟨rfl, m, rfl⟩)
    | (go_at_call 101; refine (rs1_any _ _ h0 h1).mono ?_; rintro e w' ⟨rfl, m, rfl⟩)
    | (go_at_call 102; refine (rs2_any _ _ h0 h1).mono ?_; rintro e w' ⟨rfl, m, rfl⟩)
    | (go_at_call 131; refine (bits_is _ _ _ _ _ h0 h1 (by omega) (by omega) (by omega) H5.out).mono ?_; rintro e w' ⟨rfl, m, rfl⟩)
    | (go_at_call 131; refine (bits_any _ _ _ _ h0 h1 (by omega) (by omega) (by omega)).mono ?_; rintro e w' ⟨rfl, m, rfl⟩))
        go_region_with (first | (go_at_call 102; refine (rs2_any _ _ h0 h1).mono ?_; rintro e w' ⟨rfl, m, rfl⟩))
        all_goals go_wp2
        all_goals go_returns
        all_goals exact ⟨⟨15, 0, bitsOf x 11 7, bitsOf x 19 15, bitsOf x 24 20, 0, 8, false⟩, (bitsOf x 24 20 == 0), rfl, by rw [HS.out]; by_cases hr : bitsOf x 24 20 = 0 <;> simp [hr], by repeat' (first | (with_reducible exact Below.refl _ _) | (with_reducible assumption) | (with_reducible refine below_drewN ?_ _) | (with_reducible refine Below.alloc ?_ ?_ _) | (with_reducible refine Below.drew ?_) | (with_reducible refine below_wext ?_ _ _ ?_) | (with_reducible refine Below.setCell ?_ ?_ _) | go_size)⟩
      by_cases c3 : bitsOf x 31 27 = 3
      · have HS : Hid (atOf x = some { kind := 16, rd := bitsOf x 11 7, rs1 := bitsOf x 19 15, rs2 := bitsOf x 24 20, size := 8 }) := by unfold atOf; rw [if_pos (by omega)]; rw [if_neg c2, if_pos c3, hz]; exact rfl
        have H5 := Lib.hid c3
        clear h hz c2 c3
        go_wp2_with (first
    | (go_at_call 95; refine (op_any _ _ h0 h1).mono ?_; rintro e w' ⟨rfl, m, rfl⟩)
    | (go_at_call 96; refine (f3_is _ _ _ h0 h1 HF.out).mono ?_; rintro e w' ⟨rfl, m, rfl⟩)
    | (go_at_call 129; refine (f7_any _ _ h0 h1).mono ?_; rintro e w' ⟨rfl, m, rfl⟩)
    | (go_at_call 100; refine (rd_any _ _ h0 h1).mono ?_; rintro e w' ⟨rfl, m, rfl⟩)
    | (go_at_call 101; refine (rs1_any _ _ h0 h1).mono ?_; rintro e w' ⟨rfl, m, rfl⟩)
    | (go_at_call 102; refine (rs2_any _ _ h0 h1).mono ?_; rintro e w' ⟨rfl, m, rfl⟩)
    | (go_at_call 131; refine (bits_is _ _ _ _ _ h0 h1 (by omega) (by omega) (by omega) H5.out).mono ?_; rintro e w' ⟨rfl, m, rfl⟩)
    | (go_at_call 131; refine (bits_any _ _ _ _ h0 h1 (by omega) (by omega) (by omega)).mono ?_; rintro e w' ⟨rfl, m, rfl⟩))
        go_returns
        exact ⟨⟨16, 0, bitsOf x 11 7, bitsOf x 19 15, bitsOf x 24 20, 0, 8, false⟩, true, rfl, HS.out, by repeat' (first | (with_reducible exact Below.refl _ _) | (with_reducible assumption) | (with_reducible refine below_drewN ?_ _) | (with_reducible refine Below.alloc ?_ ?_ _) | (with_reducible refine Below.drew ?_) | (with_reducible refine below_wext ?_ _ _ ?_) | (with_reducible refine Below.setCell ?_ ?_ _) | go_size)⟩
      by_cases c1 : bitsOf x 31 27 = 1
      · have HS : Hid (atOf x = some { kind := 17, fn := 1, rd := bitsOf x 11 7, rs1 := bitsOf x 19 15, rs2 := bitsOf x 24 20, size := 8 }) := by unfold atOf; rw [if_pos (by omega)]; rw [if_neg c2, if_neg c3, if_pos c1, hz]; exact rfl
        have H5 := Lib.hid c1
        clear h hz c1 c2 c3
        go_wp2_with (first
    | (go_at_call 95; refine (op_any _ _ h0 h1).mono ?_; rintro e w' ⟨rfl, m, rfl⟩)
    | (go_at_call 96; refine (f3_is _ _ _ h0 h1 HF.out).mono ?_; rintro e w' ⟨rfl, m, rfl⟩)
    | (go_at_call 129; refine (f7_any _ _ h0 h1).mono ?_; rintro e w' ⟨rfl, m, rfl⟩)
    | (go_at_call 100; refine (rd_any _ _ h0 h1).mono ?_; rintro e w' ⟨rfl, m, rfl⟩)
    | (go_at_call 101; refine (rs1_any _ _ h0 h1).mono ?_; rintro e w' ⟨rfl, m, rfl⟩)
    | (go_at_call 102; refine (rs2_any _ _ h0 h1).mono ?_; rintro e w' ⟨rfl, m, rfl⟩)
    | (go_at_call 131; refine (bits_is _ _ _ _ _ h0 h1 (by omega) (by omega) (by omega) H5.out).mono ?_; rintro e w' ⟨rfl, m, rfl⟩)
    | (go_at_call 131; refine (bits_any _ _ _ _ h0 h1 (by omega) (by omega) (by omega)).mono ?_; rintro e w' ⟨rfl, m, rfl⟩))
        go_returns
        exact ⟨⟨17, 1, bitsOf x 11 7, bitsOf x 19 15, bitsOf x 24 20, 0, 8, false⟩, true, rfl, HS.out, by repeat' (first | (with_reducible exact Below.refl _ _) | (with_reducible assumption) | (with_reducible refine below_drewN ?_ _) | (with_reducible refine Below.alloc ?_ ?_ _) | (with_reducible refine Below.drew ?_) | (with_reducible refine below_wext ?_ _ _ ?_) | (with_reducible refine Below.setCell ?_ ?_ _) | go_size)⟩
      have b2 := beq_false c2
      have b3 := beq_false c3
      have b1 := beq_false c1
      by_cases c4 : bitsOf x 31 27 % 4 = 0
      · have HS : Hid (atOf x = some { kind := 17, fn := pickOf [2, 3, 5, 4, 6, 7, 8, 9] (bitsOf x 31 27 / 4), rd := bitsOf x 11 7, rs1 := bitsOf x 19 15, rs2 := bitsOf x 24 20, size := 8 }) := by unfold atOf; rw [if_pos (by omega)]; rw [if_neg c2, if_neg c3, if_neg c1, if_pos c4, hz]; exact rfl
        have b4 : (bits .and .i64 (bitsOf x 31 27) 3 != 0) = false := by rw [and3_mod _ r5.1 r5.2, c4]; rfl
        clear h hz c1 c2 c3 c4
        go_wp2_with (first
    | (go_at_call 95; refine (op_any _ _ h0 h1).mono ?_; rintro e w' ⟨rfl, m, rfl⟩)
    | (go_at_call 96; refine (f3_is _ _ _ h0 h1 HF.out).mono ?_; rintro e w' ⟨rfl, m, rfl⟩)
    | (go_at_call 129; refine (f7_any _ _ h0 h1).mono ?_; rintro e w' ⟨rfl, m, rfl⟩)
    | (go_at_call 100; refine (rd_any _ _ h0 h1).mono ?_; rintro e w' ⟨rfl, m, rfl⟩)
    | (go_at_call 101; refine (rs1_any _ _ h0 h1).mono ?_; rintro e w' ⟨rfl, m, rfl⟩)
    | (go_at_call 102; refine (rs2_any _ _ h0 h1).mono ?_; rintro e w' ⟨rfl, m, rfl⟩)
    | (go_at_call 130; refine (pick_blk _ _ [2, 3, 5, 4, 6, 7, 8, 9] _ _ (t := 3) (fz := (0, 0)) ?hb).mono ?_; (case hb => refine heap_at_new _ _ _ _ ?_; simp); rintro e w' ⟨rfl, rfl⟩)
    | (go_at_call 131; refine (bits_any _ _ _ _ h0 h1 (by omega) (by omega) (by omega)).mono ?_; rintro e w' ⟨rfl, m, rfl⟩))
        go_returns
        exact ⟨⟨17, pickOf [2, 3, 5, 4, 6, 7, 8, 9] (bitsOf x 31 27 / 4), bitsOf x 11 7, bitsOf x 19 15, bitsOf x 24 20, 0, 8, false⟩, true, rfl, HS.out, by repeat' (first | (with_reducible exact Below.refl _ _) | (with_reducible assumption) | (with_reducible refine below_drewN ?_ _) | (with_reducible refine Below.alloc ?_ ?_ _) | (with_reducible refine Below.drew ?_) | (with_reducible refine below_wext ?_ _ _ ?_) | (with_reducible refine Below.setCell ?_ ?_ _) | go_size)⟩
      · have HS : Hid (atOf x = none) := by unfold atOf; rw [if_pos (by omega)]; rw [if_neg c2, if_neg c3, if_neg c1, if_neg c4]; exact rfl
        have b4 : (bits .and .i64 (bitsOf x 31 27) 3 != 0) = true := by rw [and3_mod _ r5.1 r5.2]; exact bne_of c4
        clear h hz c1 c2 c3 c4
        go_wp2_with (first
    | (go_at_call 95; refine (op_any _ _ h0 h1).mono ?_; rintro e w' ⟨rfl, m, rfl⟩)
    | (go_at_call 96; refine (f3_is _ _ _ h0 h1 HF.out).mono ?_; rintro e w' ⟨rfl, m, rfl⟩)
    | (go_at_call 129; refine (f7_any _ _ h0 h1).mono ?_; rintro e w' ⟨rfl, m, rfl⟩)
    | (go_at_call 100; refine (rd_any _ _ h0 h1).mono ?_; rintro e w' ⟨rfl, m, rfl⟩)
    | (go_at_call 101; refine (rs1_any _ _ h0 h1).mono ?_; rintro e w' ⟨rfl, m, rfl⟩)
    | (go_at_call 102; refine (rs2_any _ _ h0 h1).mono ?_; rintro e w' ⟨rfl, m, rfl⟩)
    | (go_at_call 131; refine (bits_any _ _ _ _ h0 h1 (by omega) (by omega) (by omega)).mono ?_; rintro e w' ⟨rfl, m, rfl⟩))
        go_returns
        exact ⟨⟨0, 0, bitsOf x 11 7, bitsOf x 19 15, bitsOf x 24 20, 0, 8, false⟩, false, rfl, HS.out, by repeat' (first | (with_reducible exact Below.refl _ _) | (with_reducible assumption) | (with_reducible refine below_drewN ?_ _) | (with_reducible refine Below.alloc ?_ ?_ _) | (with_reducible refine Below.drew ?_) | (with_reducible refine below_wext ?_ _ _ ?_) | (with_reducible refine Below.setCell ?_ ?_ _) | go_size)⟩
    · have HF := Lib.hid h
      rw [h]
      rw [show IntKind.i64.wrap (2 ^ (4 : Int).toNat) = 16 from by decide]
      have HS : Hid (atOf x = none) := by unfold atOf; rw [if_neg (by omega)]; exact rfl
      clear h
      go_wp2_with (first
    | (go_at_call 95; refine (op_any _ _ h0 h1).mono ?_; rintro e w' ⟨rfl, m, rfl⟩)
    | (go_at_call 96; refine (f3_is _ _ _ h0 h1 HF.out).mono ?_; rintro e w' ⟨rfl, m, rfl⟩)
    | (go_at_call 129; refine (f7_any _ _ h0 h1).mono ?_; rintro e w' ⟨rfl, m, rfl⟩)
    | (go_at_call 100; refine (rd_any _ _ h0 h1).mono ?_; rintro e w' ⟨rfl, m, rfl⟩)
    | (go_at_call 101; refine (rs1_any _ _ h0 h1).mono ?_; rintro e w' ⟨rfl, m, rfl⟩)
    | (go_at_call 102; refine (rs2_any _ _ h0 h1).mono ?_; rintro e w' ⟨rfl, m, rfl⟩)
    | (go_at_call 131; refine (bits_any _ _ _ _ h0 h1 (by omega) (by omega) (by omega)).mono ?_; rintro e w' ⟨rfl, m, rfl⟩))
      go_returns
      exact ⟨⟨0, 0, bitsOf x 11 7, bitsOf x 19 15, bitsOf x 24 20, 0, 16, false⟩, false, rfl, HS.out, by repeat' (first | (with_reducible exact Below.refl _ _) | (with_reducible assumption) | (with_reducible refine below_drewN ?_ _) | (with_reducible refine Below.alloc ?_ ?_ _) | (with_reducible refine Below.drew ?_) | (with_reducible refine below_wext ?_ _ _ ?_) | (with_reducible refine Below.setCell ?_ ?_ _) | go_size)⟩
    · have HF := Lib.hid h
      rw [h]
      rw [show IntKind.i64.wrap (2 ^ (5 : Int).toNat) = 32 from by decide]
      have HS : Hid (atOf x = none) := by unfold atOf; rw [if_neg (by omega)]; exact rfl
      clear h
      go_wp2_with (first
    | (go_at_call 95; refine (op_any _ _ h0 h1).mono ?_; rintro e w' ⟨rfl, m, rfl⟩)
    | (go_at_call 96; refine (f3_is _ _ _ h0 h1 HF.out).mono ?_; rintro e w' ⟨rfl, m, rfl⟩)
    | (go_at_call 129; refine (f7_any _ _ h0 h1).mono ?_; rintro e w' ⟨rfl, m, rfl⟩)
    | (go_at_call 100; refine (rd_any _ _ h0 h1).mono ?_; rintro e w' ⟨rfl, m, rfl⟩)
    | (go_at_call 101; refine (rs1_any _ _ h0 h1).mono ?_; rintro e w' ⟨rfl, m, rfl⟩)
    | (go_at_call 102; refine (rs2_any _ _ h0 h1).mono ?_; rintro e w' ⟨rfl, m, rfl⟩)
    | (go_at_call 131; refine (bits_any _ _ _ _ h0 h1 (by omega) (by omega) (by omega)).mono ?_; rintro e w' ⟨rfl, m, rfl⟩))
      go_returns
      exact ⟨⟨0, 0, bitsOf x 11 7, bitsOf x 19 15, bitsOf x 24 20, 0, 32, false⟩, false, rfl, HS.out, by repeat' (first | (with_reducible exact Below.refl _ _) | (with_reducible assumption) | (with_reducible refine below_drewN ?_ _) | (with_reducible refine Below.alloc ?_ ?_ _) | (with_reducible refine Below.drew ?_) | (with_reducible refine below_wext ?_ _ _ ?_) | (with_reducible refine Below.setCell ?_ ?_ _) | go_size)⟩
    · have HF := Lib.hid h
      rw [h]
      rw [show IntKind.i64.wrap (2 ^ (6 : Int).toNat) = 64 from by decide]
      have HS : Hid (atOf x = none) := by unfold atOf; rw [if_neg (by omega)]; exact rfl
      clear h
      go_wp2_with (first
    | (go_at_call 95; refine (op_any _ _ h0 h1).mono ?_; rintro e w' ⟨rfl, m, rfl⟩)
    | (go_at_call 96; refine (f3_is _ _ _ h0 h1 HF.out).mono ?_; rintro e w' ⟨rfl, m, rfl⟩)
    | (go_at_call 129; refine (f7_any _ _ h0 h1).mono ?_; rintro e w' ⟨rfl, m, rfl⟩)
    | (go_at_call 100; refine (rd_any _ _ h0 h1).mono ?_; rintro e w' ⟨rfl, m, rfl⟩)
    | (go_at_call 101; refine (rs1_any _ _ h0 h1).mono ?_; rintro e w' ⟨rfl, m, rfl⟩)
    | (go_at_call 102; refine (rs2_any _ _ h0 h1).mono ?_; rintro e w' ⟨rfl, m, rfl⟩)
    | (go_at_call 131; refine (bits_any _ _ _ _ h0 h1 (by omega) (by omega) (by omega)).mono ?_; rintro e w' ⟨rfl, m, rfl⟩))
      go_returns
      exact ⟨⟨0, 0, bitsOf x 11 7, bitsOf x 19 15, bitsOf x 24 20, 0, 64, false⟩, false, rfl, HS.out, by repeat' (first | (with_reducible exact Below.refl _ _) | (with_reducible assumption) | (with_reducible refine below_drewN ?_ _) | (with_reducible refine Below.alloc ?_ ?_ _) | (with_reducible refine Below.drew ?_) | (with_reducible refine below_wext ?_ _ _ ?_) | (with_reducible refine Below.setCell ?_ ?_ _) | go_size)⟩
    · have HF := Lib.hid h
      rw [h]
      rw [show IntKind.i64.wrap (2 ^ (7 : Int).toNat) = 128 from by decide]
      have HS : Hid (atOf x = none) := by unfold atOf; rw [if_neg (by omega)]; exact rfl
      clear h
      go_wp2_with (first
    | (go_at_call 95; refine (op_any _ _ h0 h1).mono ?_; rintro e w' ⟨rfl, m, rfl⟩)
    | (go_at_call 96; refine (f3_is _ _ _ h0 h1 HF.out).mono ?_; rintro e w' ⟨rfl, m, rfl⟩)
    | (go_at_call 129; refine (f7_any _ _ h0 h1).mono ?_; rintro e w' ⟨rfl, m, rfl⟩)
    | (go_at_call 100; refine (rd_any _ _ h0 h1).mono ?_; rintro e w' ⟨rfl, m, rfl⟩)
    | (go_at_call 101; refine (rs1_any _ _ h0 h1).mono ?_; rintro e w' ⟨rfl, m, rfl⟩)
    | (go_at_call 102; refine (rs2_any _ _ h0 h1).mono ?_; rintro e w' ⟨rfl, m, rfl⟩)
    | (go_at_call 131; refine (bits_any _ _ _ _ h0 h1 (by omega) (by omega) (by omega)).mono ?_; rintro e w' ⟨rfl, m, rfl⟩))
      go_returns
      exact ⟨⟨0, 0, bitsOf x 11 7, bitsOf x 19 15, bitsOf x 24 20, 0, 128, false⟩, false, rfl, HS.out, by repeat' (first | (with_reducible exact Below.refl _ _) | (with_reducible assumption) | (with_reducible refine below_drewN ?_ _) | (with_reducible refine Below.alloc ?_ ?_ _) | (with_reducible refine Below.drew ?_) | (with_reducible refine below_wext ?_ _ _ ?_) | (with_reducible refine Below.setCell ?_ ?_ _) | go_size)⟩
end Go.Proofs.YtmklpjelfonilaaGreatDoor
