/- Package inst, writing: encode: which word it makes. -/
import Derived.Test.YtmklpjelfonilaaGreatDoorA7
import Derived.Test.YtmklpjelfonilaaGreatDoorShelf
namespace Go.Proofs.YtmklpjelfonilaaGreatDoor
open Go.RowKit
attribute [local go_sem] alloc_drewN setCell_drewN wext_size wext_drewN wext_drew wext_setCell wext_cell wext_frozen
set_option linter.unusedVariables false
set_option linter.unusedSimpArgs false
theorem quiet_al {P : Program} {f : FuncId} {args : Array Value} {w : World} {a n : Nat} {v : Value}
    (h : Calls P f args (w.drewN (a + n)) fun e w' => e = .returned v ∧ w.drewN (a + n) = w') : Calls P f args (w.drewN (a + n)) fun e w'' => e = .returned v ∧ ∃ m, w'' = w.drewN (a + m) :=
  h.mono fun _ _ ⟨he, hm⟩ => ⟨he, n, hm.symm⟩

theorem heap_at_new0 (w : World) (o : Obj) (m : Nat) (h : m = w.heap.size) : (w.alloc o).heap[m]? = some o := by subst h; exact heap_alloc_new w o
theorem index_blk (b c : Nat) (zs : List Int) (x : Int) (w : World) {t : TypeId} {fz : Nat × Nat} (h : w.heap[b]? = some (.cells (zs.map (Value.int .i64)).toArray t fz)) (hn : zs.length ≤ 1000) :
    Calls Tryz.prog 65 #[.slice (some ⟨b, 0, none⟩) zs.length c, .int .i64 x] w fun e w' => e = .returned (.int .i64 (Lib.idxOf zs x)) ∧ w = w' := by
  have := Tryz.slices_Index_int b 0 zs.length c zs x w (Nat.le_refl _) (by omega) (fun j hj => by rw [Nat.zero_add]; exact cell_of_ints h j hj)
  rw [List.take_length] at this
  exact this.mono fun _ _ ⟨he, hw⟩ => ⟨he, hw.symm⟩

def regsOf (i : Ins) : Int := bits .or .u32 (bits .or .u32 (putOf i.rd 11 7) (putOf i.rs1 19 15)) (putOf i.rs2 24 20)

/-- `encodeImmediate(i)`. -/
def encImmOf (i : Ins) : Int :=
  if i.fn = 3 then bits .or .u32 4115 (putOf i.imm 25 20)
  else if i.fn = 7 then bits .or .u32 20499 (putOf i.imm 25 20)
  else if i.fn = 8 then bits .or .u32 1073762323 (putOf i.imm 25 20)
  else if i.fn = 21 then bits .or .u32 4123 (putOf i.imm 24 20)
  else if i.fn = 22 then bits .or .u32 20507 (putOf i.imm 24 20)
  else if i.fn = 23 then bits .or .u32 1073762331 (putOf i.imm 24 20)
  else if i.fn = 19 then bits .or .u32 27 (putOf i.imm 31 20)
  else bits .or .u32 (bits .or .u32 19 (putOf i.imm 31 20)) (putOf (Lib.idxOf [1, 0, 4, 5, 6, 0, 9, 10] i.fn) 14 12)

set_option maxRecDepth 100000 in
theorem encImm_3 (kind rd rs1 rs2 imm size : Int) (sg : Bool) (w : World) :
    Calls Tryz.prog 66 #[Ins.val ⟨kind, 3, rd, rs1, rs2, imm, size, sg⟩] w fun e w' => e = .returned (.int .u32 (bits .or .u32 4115 (putOf imm 25 20))) ∧ Below w.heap.size w w' := by
  unfold Ins.val
  go_enter Tryz.func66, Tryz.ntmps66
  go_wp2_with (go_at_call 64; refine (put_any _ _ _ _ (by omega) (by omega) (by omega)).mono ?_; rintro e w' ⟨rfl, rfl⟩)
  go_ret
  exact ⟨rfl, by repeat' (first | (with_reducible exact Below.refl _ _) | (with_reducible assumption) | (with_reducible refine below_drewN ?_ _) | (with_reducible refine Below.alloc ?_ ?_ _) | (with_reducible refine Below.drew ?_) | (with_reducible refine below_wext ?_ _ _ ?_) | (with_reducible refine Below.setCell ?_ ?_ _) | go_size)⟩

set_option maxRecDepth 100000 in
theorem encImm_7 (kind rd rs1 rs2 imm size : Int) (sg : Bool) (w : World) :
    Calls Tryz.prog 66 #[Ins.val ⟨kind, 7, rd, rs1, rs2, imm, size, sg⟩] w fun e w' => e = .returned (.int .u32 (bits .or .u32 20499 (putOf imm 25 20))) ∧ Below w.heap.size w w' := by
  unfold Ins.val
  go_enter Tryz.func66, Tryz.ntmps66
  go_wp2_with (go_at_call 64; refine (put_any _ _ _ _ (by omega) (by omega) (by omega)).mono ?_; rintro e w' ⟨rfl, rfl⟩)
  go_ret
  exact ⟨rfl, by repeat' (first | (with_reducible exact Below.refl _ _) | (with_reducible assumption) | (with_reducible refine below_drewN ?_ _) | (with_reducible refine Below.alloc ?_ ?_ _) | (with_reducible refine Below.drew ?_) | (with_reducible refine below_wext ?_ _ _ ?_) | (with_reducible refine Below.setCell ?_ ?_ _) | go_size)⟩

set_option maxRecDepth 100000 in
theorem encImm_8 (kind rd rs1 rs2 imm size : Int) (sg : Bool) (w : World) :
    Calls Tryz.prog 66 #[Ins.val ⟨kind, 8, rd, rs1, rs2, imm, size, sg⟩] w fun e w' => e = .returned (.int .u32 (bits .or .u32 1073762323 (putOf imm 25 20))) ∧ Below w.heap.size w w' := by
  unfold Ins.val
  go_enter Tryz.func66, Tryz.ntmps66
  go_wp2_with (go_at_call 64; refine (put_any _ _ _ _ (by omega) (by omega) (by omega)).mono ?_; rintro e w' ⟨rfl, rfl⟩)
  go_ret
  exact ⟨rfl, by repeat' (first | (with_reducible exact Below.refl _ _) | (with_reducible assumption) | (with_reducible refine below_drewN ?_ _) | (with_reducible refine Below.alloc ?_ ?_ _) | (with_reducible refine Below.drew ?_) | (with_reducible refine below_wext ?_ _ _ ?_) | (with_reducible refine Below.setCell ?_ ?_ _) | go_size)⟩

set_option maxRecDepth 100000 in
theorem encImm_21 (kind rd rs1 rs2 imm size : Int) (sg : Bool) (w : World) :
    Calls Tryz.prog 66 #[Ins.val ⟨kind, 21, rd, rs1, rs2, imm, size, sg⟩] w fun e w' => e = .returned (.int .u32 (bits .or .u32 4123 (putOf imm 24 20))) ∧ Below w.heap.size w w' := by
  unfold Ins.val
  go_enter Tryz.func66, Tryz.ntmps66
  go_wp2_with (go_at_call 64; refine (put_any _ _ _ _ (by omega) (by omega) (by omega)).mono ?_; rintro e w' ⟨rfl, rfl⟩)
  go_ret
  exact ⟨rfl, by repeat' (first | (with_reducible exact Below.refl _ _) | (with_reducible assumption) | (with_reducible refine below_drewN ?_ _) | (with_reducible refine Below.alloc ?_ ?_ _) | (with_reducible refine Below.drew ?_) | (with_reducible refine below_wext ?_ _ _ ?_) | (with_reducible refine Below.setCell ?_ ?_ _) | go_size)⟩

set_option maxRecDepth 100000 in
theorem encImm_22 (kind rd rs1 rs2 imm size : Int) (sg : Bool) (w : World) :
    Calls Tryz.prog 66 #[Ins.val ⟨kind, 22, rd, rs1, rs2, imm, size, sg⟩] w fun e w' => e = .returned (.int .u32 (bits .or .u32 20507 (putOf imm 24 20))) ∧ Below w.heap.size w w' := by
  unfold Ins.val
  go_enter Tryz.func66, Tryz.ntmps66
  go_wp2_with (go_at_call 64; refine (put_any _ _ _ _ (by omega) (by omega) (by omega)).mono ?_; rintro e w' ⟨rfl, rfl⟩)
  go_ret
  exact ⟨rfl, by repeat' (first | (with_reducible exact Below.refl _ _) | (with_reducible assumption) | (with_reducible refine below_drewN ?_ _) | (with_reducible refine Below.alloc ?_ ?_ _) | (with_reducible refine Below.drew ?_) | (with_reducible refine below_wext ?_ _ _ ?_) | (with_reducible refine Below.setCell ?_ ?_ _) | go_size)⟩

set_option maxRecDepth 100000 in
theorem encImm_23 (kind rd rs1 rs2 imm size : Int) (sg : Bool) (w : World) :
    Calls Tryz.prog 66 #[Ins.val ⟨kind, 23, rd, rs1, rs2, imm, size, sg⟩] w fun e w' => e = .returned (.int .u32 (bits .or .u32 1073762331 (putOf imm 24 20))) ∧ Below w.heap.size w w' := by
  unfold Ins.val
  go_enter Tryz.func66, Tryz.ntmps66
  go_wp2_with (go_at_call 64; refine (put_any _ _ _ _ (by omega) (by omega) (by omega)).mono ?_; rintro e w' ⟨rfl, rfl⟩)
  go_ret
  exact ⟨rfl, by repeat' (first | (with_reducible exact Below.refl _ _) | (with_reducible assumption) | (with_reducible refine below_drewN ?_ _) | (with_reducible refine Below.alloc ?_ ?_ _) | (with_reducible refine Below.drew ?_) | (with_reducible refine below_wext ?_ _ _ ?_) | (with_reducible refine Below.setCell ?_ ?_ _) | go_size)⟩

set_option maxRecDepth 100000 in
theorem encImm_19 (kind rd rs1 rs2 imm size : Int) (sg : Bool) (w : World) :
    Calls Tryz.prog 66 #[Ins.val ⟨kind, 19, rd, rs1, rs2, imm, size, sg⟩] w fun e w' => e = .returned (.int .u32 (bits .or .u32 27 (putOf imm 31 20))) ∧ Below w.heap.size w w' := by
  unfold Ins.val
  go_enter Tryz.func66, Tryz.ntmps66
  go_wp2_with (go_at_call 64; refine (put_any _ _ _ _ (by omega) (by omega) (by omega)).mono ?_; rintro e w' ⟨rfl, rfl⟩)
  go_ret
  exact ⟨rfl, by repeat' (first | (with_reducible exact Below.refl _ _) | (with_reducible assumption) | (with_reducible refine below_drewN ?_ _) | (with_reducible refine Below.alloc ?_ ?_ _) | (with_reducible refine Below.drew ?_) | (with_reducible refine below_wext ?_ _ _ ?_) | (with_reducible refine Below.setCell ?_ ?_ _) | go_size)⟩

set_option maxRecDepth 100000 in
theorem encImm_x (kind fn rd rs1 rs2 imm size : Int) (sg : Bool) (w : World) (n3 : (fn == 3) = false) (n7 : (fn == 7) = false) (n8 : (fn == 8) = false) (n21 : (fn == 21) = false) (n22 : (fn == 22) = false) (n23 : (fn == 23) = false) (n19 : (fn == 19) = false) :
    Calls Tryz.prog 66 #[Ins.val ⟨kind, fn, rd, rs1, rs2, imm, size, sg⟩] w fun e w' => e = .returned (.int .u32 (bits .or .u32 (bits .or .u32 19 (putOf imm 31 20)) (putOf (Lib.idxOf [1, 0, 4, 5, 6, 0, 9, 10] fn) 14 12))) ∧ Below w.heap.size w w' := by
  unfold Ins.val
  go_enter Tryz.func66, Tryz.ntmps66
  go_wp2_with (first
    | (go_at_call 64; refine (put_any _ _ _ _ (by omega) (by omega) (by omega)).mono ?_; rintro e w' ⟨rfl, rfl⟩)
    | (go_at_call 65; refine (index_blk _ _ [1, 0, 4, 5, 6, 0, 9, 10] _ _ (t := 3) (fz := (0, 0)) ?hb (by decide)).mono ?_; (case hb => first | exact heap_alloc_new _ _ | (refine heap_at_new0 _ _ _ ?_; simp; done) | (refine heap_at_new _ _ _ _ ?_; simp; done)); rintro e w' ⟨rfl, rfl⟩))
  go_ret
  exact ⟨rfl, by repeat' (first | (with_reducible exact Below.refl _ _) | (with_reducible assumption) | (with_reducible refine below_drewN ?_ _) | (with_reducible refine Below.alloc ?_ ?_ _) | (with_reducible refine Below.drew ?_) | (with_reducible refine below_wext ?_ _ _ ?_) | (with_reducible refine Below.setCell ?_ ?_ _) | go_size)⟩
theorem encImm_any (i : Ins) (w : World) : Calls Tryz.prog 66 #[i.val] w fun e w' => e = .returned (.int .u32 (encImmOf i)) ∧ Below w.heap.size w w' := by
  obtain ⟨kind, fn, rd, rs1, rs2, imm, size, sg⟩ := i
  unfold encImmOf
  dsimp only
  by_cases c3 : fn = 3
  · subst c3; rw [if_pos rfl]; exact encImm_3 kind rd rs1 rs2 imm size sg w
  by_cases c7 : fn = 7
  · subst c7; rw [if_neg (by decide), if_pos rfl]; exact encImm_7 kind rd rs1 rs2 imm size sg w
  by_cases c8 : fn = 8
  · subst c8; rw [if_neg (by decide), if_neg (by decide), if_pos rfl]; exact encImm_8 kind rd rs1 rs2 imm size sg w
  by_cases c21 : fn = 21
  · subst c21; rw [if_neg (by decide), if_neg (by decide), if_neg (by decide), if_pos rfl]; exact encImm_21 kind rd rs1 rs2 imm size sg w
  by_cases c22 : fn = 22
  · subst c22; rw [if_neg (by decide), if_neg (by decide), if_neg (by decide), if_neg (by decide), if_pos rfl]; exact encImm_22 kind rd rs1 rs2 imm size sg w
  by_cases c23 : fn = 23
  · subst c23; rw [if_neg (by decide), if_neg (by decide), if_neg (by decide), if_neg (by decide), if_neg (by decide), if_pos rfl]; exact encImm_23 kind rd rs1 rs2 imm size sg w
  by_cases c19 : fn = 19
  · subst c19; rw [if_neg (by decide), if_neg (by decide), if_neg (by decide), if_neg (by decide), if_neg (by decide), if_neg (by decide), if_pos rfl]; exact encImm_19 kind rd rs1 rs2 imm size sg w
  rw [if_neg c3, if_neg c7, if_neg c8, if_neg c21, if_neg c22, if_neg c23, if_neg c19]
  exact encImm_x kind fn rd rs1 rs2 imm size sg w (beq_false c3) (beq_false c7) (beq_false c8) (beq_false c21) (beq_false c22) (beq_false c23) (beq_false c19)
end Go.Proofs.YtmklpjelfonilaaGreatDoor
