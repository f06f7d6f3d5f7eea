/- Package inst, reading: pick, register, system, atomic, immediate, plain, rows, decode, Decode: what each returns. -/
import Derived.Test.YtmklpjelfonilaaGreatDoorA1
namespace Go.Proofs.YtmklpjelfonilaaGreatDoor
open Go.RowKit
attribute [local go_sem] alloc_drewN setCell_drewN wext_size wext_drewN wext_drew wext_setCell wext_cell wext_frozen

def pickOf (zs : List Int) (i : Int) : Int := if 0 ≤ i then zs.getD i.toNat 0 else 0

set_option maxRecDepth 100000 in
theorem pick_any (b n c : Nat) (zs : List Int) (i : Int) (w : World) (hl : zs.length = n) 
    (hcell : ∀ j, j < n → w.cell? ⟨b, j, none⟩ = some (.int .i64 (zs.getD j 0))) :
    Calls Tryz.prog 130 #[.slice (some ⟨b, 0, none⟩) n c, .int .i64 i] w fun e w' => e = .returned (.int .i64 (pickOf zs i)) ∧ w = w' := by
  by_cases h0 : i < 0
  · have e : (0 : Int) = pickOf zs i := by unfold pickOf; rw [if_neg (by omega)]
    have E := Lib.hid e
    clear e hcell hl
    have hd : decide (i < 0) = true := by simpa using h0
    go_enter Tryz.func130, Tryz.ntmps130
    go_wp2
    go_ret
    exact ⟨ret_int E.out, rfl⟩
  · by_cases h1 : i < n
    · obtain ⟨k, rfl⟩ := Int.eq_ofNat_of_zero_le (show 0 ≤ i by omega)
      have e : zs.getD k 0 = pickOf zs k := by unfold pickOf; rw [if_pos (by omega)]; simp
      have E := Lib.hid e
      have hc := hcell k (by omega)
      clear e hcell hl
      go_enter Tryz.func130, Tryz.ntmps130
      go_wp2
      go_ret
      exact ⟨ret_int (by simpa using E.out), rfl⟩
    · have e : (0 : Int) = pickOf zs i := by
        unfold pickOf; rw [if_pos (by omega)]
        rw [List.getD_eq_getElem?_getD, List.getElem?_eq_none (by omega)]; rfl
      have E := Lib.hid e
      clear e hcell hl
      go_enter Tryz.func130, Tryz.ntmps130
      go_wp2
      go_ret
      exact ⟨ret_int E.out, rfl⟩

theorem cell_of_ints {w : World} {b : Nat} {zs : List Int} {t : TypeId} {fz : Nat × Nat} (h : w.heap[b]? = some (.cells (zs.map (Value.int .i64)).toArray t fz)) (j : Nat) (hj : j < zs.length) :
    w.cell? ⟨b, j, none⟩ = some (.int .i64 (zs.getD j 0)) := by
  simp [World.cell?, h, hj]

theorem pick_blk (b c : Nat) (zs : List Int) (i : Int) (w : World) {t : TypeId} {fz : Nat × Nat} (h : w.heap[b]? = some (.cells (zs.map (Value.int .i64)).toArray t fz)) :
    Calls Tryz.prog 130 #[.slice (some ⟨b, 0, none⟩) zs.length c, .int .i64 i] w fun e w' => e = .returned (.int .i64 (pickOf zs i)) ∧ w = w' :=
  pick_any b zs.length c zs i w rfl fun j hj => cell_of_ints h j hj

theorem op_is (x v : Int) (w : World) (h0 : 0 ≤ x) (h1 : x < 4294967296) (h : bitsOf x 6 0 = v) :
    Calls Tryz.prog 95 #[.int .u32 x] w fun e w' => e = .returned (.int .i64 v) ∧ ∃ m, w.drewN m = w' := h ▸ op_any x w h0 h1
theorem f3_is (x v : Int) (w : World) (h0 : 0 ≤ x) (h1 : x < 4294967296) (h : bitsOf x 14 12 = v) :
    Calls Tryz.prog 96 #[.int .u32 x] w fun e w' => e = .returned (.int .i64 v) ∧ ∃ m, w.drewN m = w' := h ▸ f3_any x w h0 h1
theorem f7_is (x v : Int) (w : World) (h0 : 0 ≤ x) (h1 : x < 4294967296) (h : bitsOf x 31 25 = v) :
    Calls Tryz.prog 129 #[.int .u32 x] w fun e w' => e = .returned (.int .i64 v) ∧ ∃ m, w.drewN m = w' := h ▸ f7_any x w h0 h1

def regWide (f7 f3 : Int) : Int :=
  if f7 = 0 then pickOf [1, 3, 4, 5, 6, 7, 9, 10] f3 else if f7 = 32 then pickOf [2, 0, 0, 0, 0, 8] f3 else if f7 = 1 then pickOf [11, 12, 13, 14, 15, 16, 17, 18] f3 else 0
def regNarrow (f7 f3 : Int) : Int :=
  if f7 = 0 then pickOf [19, 21, 0, 0, 0, 22] f3 else if f7 = 32 then pickOf [20, 0, 0, 0, 0, 23] f3 else if f7 = 1 then pickOf [24, 0, 0, 0, 25, 26, 27, 28] f3 else 0
/-- `register(w)`. -/
def regOf (x : Int) : Int := if bitsOf x 6 0 = 51 then regWide (bitsOf x 31 25) (bitsOf x 14 12) else regNarrow (bitsOf x 31 25) (bitsOf x 14 12)

theorem heap_new_d (w : World) (a n : Nat) (o : Obj) : (((w.drewN a).alloc o).drewN n).heap[w.heap.size]? = some o := heap_alloc_new (w.drewN a) o
theorem below_drewN {B : Nat} {a w : World} (h : Below B a w) (n : Nat) : Below B a (w.drewN n) := ⟨h.os, h.tape, h.output, h.size, h.block⟩

set_option maxRecDepth 100000 in
theorem reg_w_0 (x : Int) (w : World) (h0 : 0 ≤ x) (h1 : x < 4294967296) (ho : bitsOf x 6 0 = 51) (hf : bitsOf x 31 25 = 0) :
    Calls Tryz.prog 94 #[.int .u32 x] w fun e w' => e = .returned (.int .i64 (pickOf [1, 3, 4, 5, 6, 7, 9, 10] (bitsOf x 14 12))) ∧ Below w.heap.size w w' := by
  have HO := Lib.hid ho
  clear ho
  have HF := Lib.hid hf
  clear hf
  go_enter Tryz.func94, Tryz.ntmps94
  go_wp2_with (first
    | (go_at_call 95; refine (op_is _ _ _ h0 h1 HO.out).mono ?_; rintro e w' ⟨rfl, m, rfl⟩)
    | (go_at_call 129; refine (f7_is _ _ _ h0 h1 HF.out).mono ?_; rintro e w' ⟨rfl, m, rfl⟩)
    | (go_at_call 96; refine (f3_any _ _ h0 h1).mono ?_; rintro e w' ⟨rfl, m, rfl⟩)
    | (go_at_call 130; refine (pick_blk _ _ [1, 3, 4, 5, 6, 7, 9, 10] _ _ (t := 3) (fz := (0, 0)) ?hb).mono ?_; (case hb => first | exact heap_alloc_new _ _ | exact heap_new_d _ _ _ _); rintro e w' ⟨rfl, rfl⟩))
  go_ret
  exact ⟨rfl, by repeat' (first | (with_reducible exact Below.refl _ _) | (with_reducible assumption) | (with_reducible refine below_drewN ?_ _) | (with_reducible refine Below.alloc ?_ ?_ _) | (with_reducible refine Below.drew ?_) | (with_reducible refine below_wext ?_ _ _ ?_) | (with_reducible refine Below.setCell ?_ ?_ _) | go_size)⟩

set_option maxRecDepth 100000 in
theorem reg_w_32 (x : Int) (w : World) (h0 : 0 ≤ x) (h1 : x < 4294967296) (ho : bitsOf x 6 0 = 51) (hf : bitsOf x 31 25 = 32) :
    Calls Tryz.prog 94 #[.int .u32 x] w fun e w' => e = .returned (.int .i64 (pickOf [2, 0, 0, 0, 0, 8] (bitsOf x 14 12))) ∧ Below w.heap.size w w' := by
  have HO := Lib.hid ho
  clear ho
  have HF := Lib.hid hf
  clear hf
  go_enter Tryz.func94, Tryz.ntmps94
  go_wp2_with (first
    | (go_at_call 95; refine (op_is _ _ _ h0 h1 HO.out).mono ?_; rintro e w' ⟨rfl, m, rfl⟩)
    | (go_at_call 129; refine (f7_is _ _ _ h0 h1 HF.out).mono ?_; rintro e w' ⟨rfl, m, rfl⟩)
    | (go_at_call 96; refine (f3_any _ _ h0 h1).mono ?_; rintro e w' ⟨rfl, m, rfl⟩)
    | (go_at_call 130; refine (pick_blk _ _ [2, 0, 0, 0, 0, 8] _ _ (t := 3) (fz := (0, 0)) ?hb).mono ?_; (case hb => first | exact heap_alloc_new _ _ | exact heap_new_d _ _ _ _); rintro e w' ⟨rfl, rfl⟩))
  go_ret
  exact ⟨rfl, by repeat' (first | (with_reducible exact Below.refl _ _) | (with_reducible assumption) | (with_reducible refine below_drewN ?_ _) | (with_reducible refine Below.alloc ?_ ?_ _) | (with_reducible refine Below.drew ?_) | (with_reducible refine below_wext ?_ _ _ ?_) | (with_reducible refine Below.setCell ?_ ?_ _) | go_size)⟩

set_option maxRecDepth 100000 in
theorem reg_w_1 (x : Int) (w : World) (h0 : 0 ≤ x) (h1 : x < 4294967296) (ho : bitsOf x 6 0 = 51) (hf : bitsOf x 31 25 = 1) :
    Calls Tryz.prog 94 #[.int .u32 x] w fun e w' => e = .returned (.int .i64 (pickOf [11, 12, 13, 14, 15, 16, 17, 18] (bitsOf x 14 12))) ∧ Below w.heap.size w w' := by
  have HO := Lib.hid ho
  clear ho
  have HF := Lib.hid hf
  clear hf
  go_enter Tryz.func94, Tryz.ntmps94
  go_wp2_with (first
    | (go_at_call 95; refine (op_is _ _ _ h0 h1 HO.out).mono ?_; rintro e w' ⟨rfl, m, rfl⟩)
    | (go_at_call 129; refine (f7_is _ _ _ h0 h1 HF.out).mono ?_; rintro e w' ⟨rfl, m, rfl⟩)
    | (go_at_call 96; refine (f3_any _ _ h0 h1).mono ?_; rintro e w' ⟨rfl, m, rfl⟩)
    | (go_at_call 130; refine (pick_blk _ _ [11, 12, 13, 14, 15, 16, 17, 18] _ _ (t := 3) (fz := (0, 0)) ?hb).mono ?_; (case hb => first | exact heap_alloc_new _ _ | exact heap_new_d _ _ _ _); rintro e w' ⟨rfl, rfl⟩))
  go_ret
  exact ⟨rfl, by repeat' (first | (with_reducible exact Below.refl _ _) | (with_reducible assumption) | (with_reducible refine below_drewN ?_ _) | (with_reducible refine Below.alloc ?_ ?_ _) | (with_reducible refine Below.drew ?_) | (with_reducible refine below_wext ?_ _ _ ?_) | (with_reducible refine Below.setCell ?_ ?_ _) | go_size)⟩

set_option maxRecDepth 100000 in
theorem reg_w_x (x : Int) (w : World) (h0 : 0 ≤ x) (h1 : x < 4294967296) (ho : bitsOf x 6 0 = 51) (hf : ¬ bitsOf x 31 25 = 0) (hf1 : ¬ bitsOf x 31 25 = 32) (hf2 : ¬ bitsOf x 31 25 = 1) :
    Calls Tryz.prog 94 #[.int .u32 x] w fun e w' => e = .returned (.int .i64 (0)) ∧ Below w.heap.size w w' := by
  have HO := Lib.hid ho
  clear ho
  have a0 : (bitsOf x 31 25 == 0) = false := by simpa using hf
  have a1 : (bitsOf x 31 25 == 32) = false := by simpa using hf1
  have a2 : (bitsOf x 31 25 == 1) = false := by simpa using hf2
  clear hf hf1 hf2
  go_enter Tryz.func94, Tryz.ntmps94
  go_wp2_with (first
    | (go_at_call 95; refine (op_is _ _ _ h0 h1 HO.out).mono ?_; rintro e w' ⟨rfl, m, rfl⟩)
    | (go_at_call 129; refine (f7_any _ _ h0 h1).mono ?_; rintro e w' ⟨rfl, m, rfl⟩)
    | (go_at_call 96; refine (f3_any _ _ h0 h1).mono ?_; rintro e w' ⟨rfl, m, rfl⟩))
  go_ret
  exact ⟨rfl, by repeat' (first | (with_reducible exact Below.refl _ _) | (with_reducible assumption) | (with_reducible refine below_drewN ?_ _) | (with_reducible refine Below.alloc ?_ ?_ _) | (with_reducible refine Below.drew ?_) | (with_reducible refine below_wext ?_ _ _ ?_) | (with_reducible refine Below.setCell ?_ ?_ _) | go_size)⟩

set_option maxRecDepth 100000 in
theorem reg_n_0 (x : Int) (w : World) (h0 : 0 ≤ x) (h1 : x < 4294967296) (ho : ¬ bitsOf x 6 0 = 51) (hf : bitsOf x 31 25 = 0) :
    Calls Tryz.prog 94 #[.int .u32 x] w fun e w' => e = .returned (.int .i64 (pickOf [19, 21, 0, 0, 0, 22] (bitsOf x 14 12))) ∧ Below w.heap.size w w' := by
  have ho' : (bitsOf x 6 0 == 51) = false := by simpa using ho
  clear ho
  have HF := Lib.hid hf
  clear hf
  go_enter Tryz.func94, Tryz.ntmps94
  go_wp2_with (first
    | (go_at_call 95; refine (op_any _ _ h0 h1).mono ?_; rintro e w' ⟨rfl, m, rfl⟩)
    | (go_at_call 129; refine (f7_is _ _ _ h0 h1 HF.out).mono ?_; rintro e w' ⟨rfl, m, rfl⟩)
    | (go_at_call 96; refine (f3_any _ _ h0 h1).mono ?_; rintro e w' ⟨rfl, m, rfl⟩)
    | (go_at_call 130; refine (pick_blk _ _ [19, 21, 0, 0, 0, 22] _ _ (t := 3) (fz := (0, 0)) ?hb).mono ?_; (case hb => first | exact heap_alloc_new _ _ | exact heap_new_d _ _ _ _); rintro e w' ⟨rfl, rfl⟩))
  go_ret
  exact ⟨rfl, by repeat' (first | (with_reducible exact Below.refl _ _) | (with_reducible assumption) | (with_reducible refine below_drewN ?_ _) | (with_reducible refine Below.alloc ?_ ?_ _) | (with_reducible refine Below.drew ?_) | (with_reducible refine below_wext ?_ _ _ ?_) | (with_reducible refine Below.setCell ?_ ?_ _) | go_size)⟩

set_option maxRecDepth 100000 in
theorem reg_n_32 (x : Int) (w : World) (h0 : 0 ≤ x) (h1 : x < 4294967296) (ho : ¬ bitsOf x 6 0 = 51) (hf : bitsOf x 31 25 = 32) :
    Calls Tryz.prog 94 #[.int .u32 x] w fun e w' => e = .returned (.int .i64 (pickOf [20, 0, 0, 0, 0, 23] (bitsOf x 14 12))) ∧ Below w.heap.size w w' := by
  have ho' : (bitsOf x 6 0 == 51) = false := by simpa using ho
  clear ho
  have HF := Lib.hid hf
  clear hf
  go_enter Tryz.func94, Tryz.ntmps94
  go_wp2_with (first
    | (go_at_call 95; refine (op_any _ _ h0 h1).mono ?_; rintro e w' ⟨rfl, m, rfl⟩)
    | (go_at_call 129; refine (f7_is _ _ _ h0 h1 HF.out).mono ?_; rintro e w' ⟨rfl, m, rfl⟩)
    | (go_at_call 96; refine (f3_any _ _ h0 h1).mono ?_; rintro e w' ⟨rfl, m, rfl⟩)
    | (go_at_call 130; refine (pick_blk _ _ [20, 0, 0, 0, 0, 23] _ _ (t := 3) (fz := (0, 0)) ?hb).mono ?_; (case hb => first | exact heap_alloc_new _ _ | exact heap_new_d _ _ _ _); rintro e w' ⟨rfl, rfl⟩))
  go_ret
  exact ⟨rfl, by repeat' (first | (with_reducible exact Below.refl _ _) | (with_reducible assumption) | (with_reducible refine below_drewN ?_ _) | (with_reducible refine Below.alloc ?_ ?_ _) | (with_reducible refine Below.drew ?_) | (with_reducible refine below_wext ?_ _ _ ?_) | (with_reducible refine Below.setCell ?_ ?_ _) | go_size)⟩

set_option maxRecDepth 100000 in
theorem reg_n_1 (x : Int) (w : World) (h0 : 0 ≤ x) (h1 : x < 4294967296) (ho : ¬ bitsOf x 6 0 = 51) (hf : bitsOf x 31 25 = 1) :
    Calls Tryz.prog 94 #[.int .u32 x] w fun e w' => e = .returned (.int .i64 (pickOf [24, 0, 0, 0, 25, 26, 27, 28] (bitsOf x 14 12))) ∧ Below w.heap.size w w' := by
  have ho' : (bitsOf x 6 0 == 51) = false := by simpa using ho
  clear ho
  have HF := Lib.hid hf
  clear hf
  go_enter Tryz.func94, Tryz.ntmps94
  go_wp2_with (first
    | (go_at_call 95; refine (op_any _ _ h0 h1).mono ?_; rintro e w' ⟨rfl, m, rfl⟩)
    | (go_at_call 129; refine (f7_is _ _ _ h0 h1 HF.out).mono ?_; rintro e w' ⟨rfl, m, rfl⟩)
    | (go_at_call 96; refine (f3_any _ _ h0 h1).mono ?_; rintro e w' ⟨rfl, m, rfl⟩)
    | (go_at_call 130; refine (pick_blk _ _ [24, 0, 0, 0, 25, 26, 27, 28] _ _ (t := 3) (fz := (0, 0)) ?hb).mono ?_; (case hb => first | exact heap_alloc_new _ _ | exact heap_new_d _ _ _ _); rintro e w' ⟨rfl, rfl⟩))
  go_ret
  exact ⟨rfl, by repeat' (first | (with_reducible exact Below.refl _ _) | (with_reducible assumption) | (with_reducible refine below_drewN ?_ _) | (with_reducible refine Below.alloc ?_ ?_ _) | (with_reducible refine Below.drew ?_) | (with_reducible refine below_wext ?_ _ _ ?_) | (with_reducible refine Below.setCell ?_ ?_ _) | go_size)⟩

set_option maxRecDepth 100000 in
theorem reg_n_x (x : Int) (w : World) (h0 : 0 ≤ x) (h1 : x < 4294967296) (ho : ¬ bitsOf x 6 0 = 51) (hf : ¬ bitsOf x 31 25 = 0) (hf1 : ¬ bitsOf x 31 25 = 32) (hf2 : ¬ bitsOf x 31 25 = 1) :
    Calls Tryz.prog 94 #[.int .u32 x] w fun e w' => e = .returned (.int .i64 (0)) ∧ Below w.heap.size w w' := by
  have ho' : (bitsOf x 6 0 == 51) = false := by simpa using ho
  clear ho
  have a0 : (bitsOf x 31 25 == 0) = false := by simpa using hf
  have a1 : (bitsOf x 31 25 == 32) = false := by simpa using hf1
  have a2 : (bitsOf x 31 25 == 1) = false := by simpa using hf2
  clear hf hf1 hf2
  go_enter Tryz.func94, Tryz.ntmps94
  go_wp2_with (first
    | (go_at_call 95; refine (op_any _ _ h0 h1).mono ?_; rintro e w' ⟨rfl, m, rfl⟩)
    | (go_at_call 129; refine (f7_any _ _ h0 h1).mono ?_; rintro e w' ⟨rfl, m, rfl⟩)
    | (go_at_call 96; refine (f3_any _ _ h0 h1).mono ?_; rintro e w' ⟨rfl, m, rfl⟩))
  go_ret
  exact ⟨rfl, by repeat' (first | (with_reducible exact Below.refl _ _) | (with_reducible assumption) | (with_reducible refine below_drewN ?_ _) | (with_reducible refine Below.alloc ?_ ?_ _) | (with_reducible refine Below.drew ?_) | (with_reducible refine below_wext ?_ _ _ ?_) | (with_reducible refine Below.setCell ?_ ?_ _) | go_size)⟩

theorem register_any (x : Int) (w : World) (h0 : 0 ≤ x) (h1 : x < 4294967296) :
    Calls Tryz.prog 94 #[.int .u32 x] w fun e w' => e = .returned (.int .i64 (regOf x)) ∧ Below w.heap.size w w' := by
  unfold regOf regWide regNarrow
  by_cases ho : bitsOf x 6 0 = 51
  · rw [if_pos ho]
    by_cases a : bitsOf x 31 25 = 0
    · rw [if_pos a]; exact reg_w_0 x w h0 h1 ho a
    rw [if_neg a]
    by_cases b : bitsOf x 31 25 = 32
    · rw [if_pos b]; exact reg_w_32 x w h0 h1 ho b
    rw [if_neg b]
    by_cases c : bitsOf x 31 25 = 1
    · rw [if_pos c]; exact reg_w_1 x w h0 h1 ho c
    rw [if_neg c]; exact reg_w_x x w h0 h1 ho a b c
  · rw [if_neg ho]
    by_cases a : bitsOf x 31 25 = 0
    · rw [if_pos a]; exact reg_n_0 x w h0 h1 ho a
    rw [if_neg a]
    by_cases b : bitsOf x 31 25 = 32
    · rw [if_pos b]; exact reg_n_32 x w h0 h1 ho b
    rw [if_neg b]
    by_cases c : bitsOf x 31 25 = 1
    · rw [if_pos c]; exact reg_n_1 x w h0 h1 ho c
    rw [if_neg c]; exact reg_n_x x w h0 h1 ho a b c
end Go.Proofs.YtmklpjelfonilaaGreatDoor
