/- Package inst, writing: encodeRegister: the first word of its table whose operation is the one that is asked for; 0: there is none. -/
import Derived.Test.YtmklpjelfonilaaGreatDoorA9
import Derived.Deep.RegionWith
import Derived.Deep.LoopGhost
namespace Go.Proofs.YtmklpjelfonilaaGreatDoor
open Go.RowKit
theorem wext_wext (W : World) (os os' : Array Obj) (d d' : Nat) : wext (wext W os d) os' d' = wext W (os ++ os') d' := by simp [wext, Array.append_assoc]
attribute [local go_sem] alloc_drewN setCell_drewN wext_size wext_drewN wext_drew wext_setCell wext_cell wext_frozen wext_wext
set_option linter.unusedVariables false
set_option linter.unusedSimpArgs false

def innerR (fn top : Int) : Nat → Nat → Option Int
  | 0, _ => none
  | f + 1, j => if regOf (bits .or .u32 top (putOf j 14 12)) = fn then some (bits .or .u32 top (putOf j 14 12)) else innerR fn top f (j + 1)
def outerR (fn : Int) : List Int → Option Int
  | [] => none
  | t :: ts => (innerR fn t 8 0).or (outerR fn ts)
def topsR : List Int := [51, 1073741875, 33554483, 59, 1073741883, 33554491]
def encRegOf (fn : Int) : Int := if fn = 0 then 0 else (outerR fn topsR).getD 0

theorem innerR_step (fn top : Int) (j : Nat) (h : j < 8) : innerR fn top (8 - j) j = if regOf (bits .or .u32 top (putOf j 14 12)) = fn then some (bits .or .u32 top (putOf j 14 12)) else innerR fn top (8 - (j + 1)) (j + 1) := by
  rw [show 8 - j = (8 - (j + 1)) + 1 from by omega, innerR]
theorem outerR_step (fn : Int) (k : Nat) (h : k < 6) : outerR fn (topsR.drop k) = (innerR fn (topsR.getD k 0) 8 0).or (outerR fn (topsR.drop (k + 1))) := by
  have : topsR.drop k = topsR.getD k 0 :: topsR.drop (k + 1) := by
    have h0 : k = 0 ∨ k = 1 ∨ k = 2 ∨ k = 3 ∨ k = 4 ∨ k = 5 := by omega
    rcases h0 with rfl | rfl | rfl | rfl | rfl | rfl <;> rfl
  rw [this, outerR]


theorem tops_at (k : Nat) (h : k < 6) : (#[.int .u32 51, .int .u32 1073741875, .int .u32 33554483, .int .u32 59, .int .u32 1073741883, .int .u32 33554491] : Array Value)[k]? = some (.int .u32 (topsR.getD k 0)) := by
  have h0 : k = 0 ∨ k = 1 ∨ k = 2 ∨ k = 3 ∨ k = 4 ∨ k = 5 := by omega
  rcases h0 with rfl | rfl | rfl | rfl | rfl | rfl <;> rfl
theorem tops_get (k : Nat) (hk : k < 6) (top : Int) (h : topsR.getD k 0 = top) : ∀ h' : k < ([Value.int .u32 51, Value.int .u32 1073741875, Value.int .u32 33554483, Value.int .u32 59, Value.int .u32 1073741883, Value.int .u32 33554491] : List Value).length, ([Value.int .u32 51, Value.int .u32 1073741875, Value.int .u32 33554483, Value.int .u32 59, Value.int .u32 1073741883, Value.int .u32 33554491] : List Value)[k]'h' = .int .u32 top := by
  intro h'
  have := tops_at k hk
  rw [h] at this
  rw [List.getElem?_toArray, List.getElem?_eq_getElem h'] at this
  exact Option.some.inj this
theorem wext_zero (W : World) : wext W #[] W.drawn = W := by simp [wext]

set_option maxRecDepth 100000 in
set_option maxHeartbeats 6400000 in
theorem encReg_some (kind fn rd rs1 rs2 imm size : Int) (sg : Bool) (w : World) (hfn : ¬ fn = 0) :
    Calls Tryz.prog 67 #[Ins.val ⟨kind, fn, rd, rs1, rs2, imm, size, sg⟩] w fun e w' => e = .returned (.int .u32 ((outerR fn topsR).getD 0)) ∧ Below w.heap.size w w' := by
  have hne : (fn != 0) = true := bne_of hfn
  clear hfn
  unfold Ins.val
  go_enter Tryz.func67, Tryz.ntmps67
  go_wp2
  go_loopw [9] (fun v9 wr => ∃ k : Nat, k ≤ 6 ∧ v9 = .int .i64 k ∧ Hid (outerR fn (topsR.drop k) = outerR fn topsR) ∧ ∃ os d, wr = wext ((w.alloc (.cells #[.int .i64 kind, .int .i64 fn, .int .i64 rd, .int .i64 rs1, .int .i64 rs2, .int .i64 imm, .int .i64 size, .bool sg] 23)).alloc (.cells #[.int .u32 51, .int .u32 1073741875, .int .u32 33554483, .int .u32 59, .int .u32 1073741883, .int .u32 33554491] 31)) os d) (fun v9 _ => 6 - (intOf v9).toNat)
  case atStart => exact ⟨0, by omega, rfl, Lib.hid rfl, #[], w.drawn, (wext_zero _).symm⟩
  case round =>
    obtain ⟨k, hk, rfl, HO, os, d, rfl⟩ := hrel
    by_cases hlt : k < 6
    · have HS := outerR_step fn k hlt
      obtain ⟨top, ht⟩ : ∃ top, topsR.getD k 0 = top := ⟨_, rfl⟩
      have hA := tops_get k hlt top ht
      rw [ht] at HS
      have HS := Lib.hid HS
      clear ht
      have hd : decide ((k : Int) < 6) = true := decide_eq_true (by omega)
      go_wp2
      go_loopw [13] (fun v13 wr => ∃ j : Nat, j ≤ 8 ∧ v13 = .int .i64 j ∧ Hid (innerR fn top (8 - j) j = innerR fn top 8 0) ∧ ∃ os d, wr = wext ((w.alloc (.cells #[.int .i64 kind, .int .i64 fn, .int .i64 rd, .int .i64 rs1, .int .i64 rs2, .int .i64 imm, .int .i64 size, .bool sg] 23)).alloc (.cells #[.int .u32 51, .int .u32 1073741875, .int .u32 33554483, .int .u32 59, .int .u32 1073741883, .int .u32 33554491] 31)) os d) (fun v13 _ => 8 - (intOf v13).toNat)
      case atStart => exact ⟨0, by omega, rfl, Lib.hid rfl, os, d, rfl⟩
      case round =>
        clear hA
        obtain ⟨j, hj, rfl, HI, os, d, rfl⟩ := hrel
        by_cases hjt : j < 8
        · have HT := Lib.hid (innerR_step fn top j hjt)
          have hx0 := bits_lo_u32 .or top (putOf j 14 12)
          have hx1 := bits_hi_u32 .or top (putOf j 14 12)
          go_wp2_with (go_at_call 64; refine (put_any _ _ _ _ (by omega) (by omega) (by omega)).mono ?_; rintro e w' ⟨rfl, rfl⟩)
          go_region_with (go_at_call 94; refine (register_any _ _ hx0 (by omega)).mono ?_; rintro e w1 ⟨rfl, hb⟩; obtain ⟨os1, d1, rfl⟩ := wext_of_below hb; clear hb)
          all_goals by_cases hr : regOf (bits .or .u32 top (putOf j 14 12)) = fn
          all_goals first
            | (have hb1 : (regOf (bits .or .u32 top (putOf j 14 12)) == fn) = true := by simpa using hr
               have HF := Lib.hid (show (outerR fn topsR).getD 0 = bits .or .u32 top (putOf j 14 12) from by rw [← HO.out, HS.out, ← HI.out, HT.out, if_pos hr]; rfl)
               clear hr HT HI HS HO
               go_wp2
               go_ret
               exact ⟨ret_int HF.out.symm, by repeat' (first | (with_reducible exact Below.refl _ _) | (with_reducible assumption) | (with_reducible refine below_drewN ?_ _) | (with_reducible refine Below.alloc ?_ ?_ _) | (with_reducible refine Below.drew ?_) | (with_reducible refine below_wext ?_ _ _ ?_) | (with_reducible refine Below.setCell ?_ ?_ _) | go_size)⟩)
            | (have hb1 : (regOf (bits .or .u32 top (putOf j 14 12)) == fn) = false := by simpa using hr
               have HN := Lib.hid (show innerR fn top (8 - (j + 1)) (j + 1) = innerR fn top 8 0 from by rw [← HI.out, HT.out, if_neg hr])
               clear hr HT HI
               go_wp2
               go_roundw
               case rel => first | exact ⟨j + 1, by omega, by go_num, HN, _, _, rfl⟩ | ((repeat apply Exists.intro); exact ⟨⟨j + 1, by omega, by go_num, HN, _, _, rfl⟩, rfl⟩)
               case measure => simp [intOf]; omega)
        · have hj8 : j = 8 := by omega
          subst hj8
          have HN := Lib.hid (show outerR fn (topsR.drop (k + 1)) = outerR fn topsR from by rw [← HO.out, HS.out, ← HI.out]; rfl)
          clear HI HO HS
          go_wp2
          go_roundw
          case rel => exact ⟨k + 1, by omega, by go_num, HN, _, _, rfl⟩
          case measure => simp [intOf]; omega
    · have hk6 : k = 6 := by omega
      subst hk6
      have HF := Lib.hid (show (outerR fn topsR).getD 0 = 0 from by rw [← HO.out]; rfl)
      clear HO
      go_wp2
      go_ret
      exact ⟨ret_int HF.out.symm, by repeat' (first | (with_reducible exact Below.refl _ _) | (with_reducible assumption) | (with_reducible refine below_drewN ?_ _) | (with_reducible refine Below.alloc ?_ ?_ _) | (with_reducible refine Below.drew ?_) | (with_reducible refine below_wext ?_ _ _ ?_) | (with_reducible refine Below.setCell ?_ ?_ _) | go_size)⟩
set_option maxRecDepth 100000 in
set_option maxHeartbeats 6400000 in
theorem encReg_zero (kind rd rs1 rs2 imm size : Int) (sg : Bool) (w : World) :
    Calls Tryz.prog 67 #[Ins.val ⟨kind, 0, rd, rs1, rs2, imm, size, sg⟩] w fun e w' => e = .returned (.int .u32 0) ∧ Below w.heap.size w w' := by
  unfold Ins.val
  go_enter Tryz.func67, Tryz.ntmps67
  go_wp2
  go_loopw [9] (fun v9 wr => ∃ k : Nat, k ≤ 6 ∧ v9 = .int .i64 k ∧ ∃ os d, wr = wext ((w.alloc (.cells #[.int .i64 kind, .int .i64 0, .int .i64 rd, .int .i64 rs1, .int .i64 rs2, .int .i64 imm, .int .i64 size, .bool sg] 23)).alloc (.cells #[.int .u32 51, .int .u32 1073741875, .int .u32 33554483, .int .u32 59, .int .u32 1073741883, .int .u32 33554491] 31)) os d) (fun v9 _ => 6 - (intOf v9).toNat)
  case atStart => exact ⟨0, by omega, rfl, #[], w.drawn, (wext_zero _).symm⟩
  case round =>
    obtain ⟨k, hk, rfl, os, d, rfl⟩ := hrel
    by_cases hlt : k < 6
    · obtain ⟨top, ht⟩ : ∃ top, topsR.getD k 0 = top := ⟨_, rfl⟩
      have hA := tops_get k hlt top ht
      clear ht
      have hd : decide ((k : Int) < 6) = true := decide_eq_true (by omega)
      go_wp2
      go_loopw [13] (fun v13 wr => ∃ j : Nat, j ≤ 8 ∧ v13 = .int .i64 j ∧ ∃ os d, wr = wext ((w.alloc (.cells #[.int .i64 kind, .int .i64 0, .int .i64 rd, .int .i64 rs1, .int .i64 rs2, .int .i64 imm, .int .i64 size, .bool sg] 23)).alloc (.cells #[.int .u32 51, .int .u32 1073741875, .int .u32 33554483, .int .u32 59, .int .u32 1073741883, .int .u32 33554491] 31)) os d) (fun v13 _ => 8 - (intOf v13).toNat)
      case atStart => exact ⟨0, by omega, rfl, os, d, rfl⟩
      case round =>
        clear hA
        obtain ⟨j, hj, rfl, os, d, rfl⟩ := hrel
        by_cases hjt : j < 8
        · go_wp2_with (go_at_call 64; refine (put_any _ _ _ _ (by omega) (by omega) (by omega)).mono ?_; rintro e w' ⟨rfl, rfl⟩)
          go_quiet (fail)
          go_wp2
          go_roundw
          case rel => first | exact ⟨j + 1, by omega, by go_num, _, _, rfl⟩ | ((repeat apply Exists.intro); exact ⟨⟨j + 1, by omega, by go_num, _, _, rfl⟩, rfl⟩)
          case measure => simp [intOf]; omega
        · have hj8 : j = 8 := by omega
          subst hj8
          go_wp2
          go_roundw
          case rel => exact ⟨k + 1, by omega, by go_num, _, _, rfl⟩
          case measure => simp [intOf]; omega
    · have hk6 : k = 6 := by omega
      subst hk6
      go_wp2
      go_ret
      exact ⟨rfl, by repeat' (first | (with_reducible exact Below.refl _ _) | (with_reducible assumption) | (with_reducible refine below_drewN ?_ _) | (with_reducible refine Below.alloc ?_ ?_ _) | (with_reducible refine Below.drew ?_) | (with_reducible refine below_wext ?_ _ _ ?_) | (with_reducible refine Below.setCell ?_ ?_ _) | go_size)⟩

theorem encReg_any (i : Ins) (w : World) : Calls Tryz.prog 67 #[i.val] w fun e w' => e = .returned (.int .u32 (encRegOf i.fn)) ∧ Below w.heap.size w w' := by
  obtain ⟨kind, fn, rd, rs1, rs2, imm, size, sg⟩ := i
  unfold encRegOf
  dsimp only
  by_cases h : fn = 0
  · subst h; rw [if_pos rfl]; exact encReg_zero kind rd rs1 rs2 imm size sg w
  · rw [if_neg h]; exact encReg_some kind fn rd rs1 rs2 imm size sg w h
end Go.Proofs.YtmklpjelfonilaaGreatDoor
