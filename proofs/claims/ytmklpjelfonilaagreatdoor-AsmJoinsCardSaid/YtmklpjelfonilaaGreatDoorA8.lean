/- Package inst, reading: decode, Decode: what they return. -/
import Derived.Test.YtmklpjelfonilaaGreatDoorA5
import Derived.Test.YtmklpjelfonilaaGreatDoorA7
namespace Go.Proofs.YtmklpjelfonilaaGreatDoor
open Go.RowKit
attribute [local go_sem] alloc_drewN setCell_drewN wext_size wext_drewN wext_drew wext_setCell wext_cell wext_frozen
set_option linter.unusedVariables false
set_option linter.unusedSimpArgs false

/-- `plain(w, i)`. -/
def plainOf (x : Int) (i : Ins) : Option Ins :=
  if i.kind = 1 ∨ i.kind = 2 ∨ i.kind = 3 then some i
  else if i.kind = 4 then (if bitsOf x 14 12 = 0 then some i else none)
  else if i.kind = 5 then (if pickOf [1, 2, 0, 0, 3, 4, 5, 6] (bitsOf x 14 12) = 0 then none else some { i with fn := pickOf [1, 2, 0, 0, 3, 4, 5, 6] (bitsOf x 14 12) })
  else if i.kind = 6 then (if bitsOf x 14 12 < 7 then some { i with size := 2 ^ (bitsOf x 14 12 % 4).toNat, signed := decide (bitsOf x 14 12 < 4) } else none)
  else if i.kind = 7 then (if bitsOf x 14 12 < 4 then some { i with size := 2 ^ (bitsOf x 14 12).toNat } else none)
  else if i.kind = 9 then immOf x i
  else (if regOf x = 0 then none else some { i with fn := regOf x })

/-- What the rows' ops read as, ahead of plain. -/
def rowOf (x : Int) : Option Ins :=
  if bitsOf x 6 0 = 55 then some { kind := 1, rd := bitsOf x 11 7, imm := immUOf x }
  else if bitsOf x 6 0 = 23 then some { kind := 2, rd := bitsOf x 11 7, imm := immUOf x }
  else if bitsOf x 6 0 = 111 then some { kind := 3, rd := bitsOf x 11 7, imm := immJOf x }
  else if bitsOf x 6 0 = 103 then some { kind := 4, rd := bitsOf x 11 7, rs1 := bitsOf x 19 15, imm := immIOf x }
  else if bitsOf x 6 0 = 99 then some { kind := 5, rs1 := bitsOf x 19 15, rs2 := bitsOf x 24 20, imm := immBOf x }
  else if bitsOf x 6 0 = 3 then some { kind := 6, rd := bitsOf x 11 7, rs1 := bitsOf x 19 15, imm := immIOf x }
  else if bitsOf x 6 0 = 35 then some { kind := 7, rs1 := bitsOf x 19 15, rs2 := bitsOf x 24 20, imm := immSOf x }
  else if bitsOf x 6 0 = 19 then some { kind := 9, rd := bitsOf x 11 7, rs1 := bitsOf x 19 15, imm := immIOf x }
  else if bitsOf x 6 0 = 27 then some { kind := 9, rd := bitsOf x 11 7, rs1 := bitsOf x 19 15, imm := immIOf x }
  else if bitsOf x 6 0 = 51 then some { kind := 8, rd := bitsOf x 11 7, rs1 := bitsOf x 19 15, rs2 := bitsOf x 24 20 }
  else if bitsOf x 6 0 = 59 then some { kind := 8, rd := bitsOf x 11 7, rs1 := bitsOf x 19 15, rs2 := bitsOf x 24 20 }
  else none

def fenceOf (x : Int) : Option Ins := if bitsOf x 14 12 < 2 then some { kind := 10 } else none
/-- `Decode(w)`. -/
def decOf (x : Int) : Option Ins :=
  if bitsOf x 6 0 = 15 then fenceOf x
  else if bitsOf x 6 0 = 115 then sysOf x
  else if bitsOf x 6 0 = 47 then atOf x
  else (rowOf x).bind (plainOf x)

set_option maxRecDepth 100000 in
set_option maxHeartbeats 800000 in
theorem plain_9 (x fn rd rs1 rs2 imm size : Int) (sg : Bool) (w : World) (h0 : 0 ≤ x) (h1 : x < 4294967296) (ho : bitsOf x 6 0 = 27 ∨ bitsOf x 6 0 = 19) :
    Reads Tryz.prog 103 #[.int .u32 x, Ins.val ⟨9, fn, rd, rs1, rs2, imm, size, sg⟩] w (immOf x ⟨9, fn, rd, rs1, rs2, imm, size, sg⟩) := by
  have HI := Lib.hid (fun w => immediate_reads x ⟨9, fn, rd, rs1, rs2, imm, size, sg⟩ w h0 h1 ho)
  unfold Reads
  clear ho
  unfold Ins.val
  go_enter Tryz.func103, Tryz.ntmps103
  go_wp2_with (go_at_call 138; refine (HI.out _).mono ?_; rintro e w1 ⟨i', b, rfl, hr, hb⟩; obtain ⟨os1, d1, rfl⟩ := wext_of_below hb; have HR := Lib.hid hr; clear hb hr; obtain ⟨k', fn', rd', rs1', rs2', imm', size', sg'⟩ := i'; simp only [Ins.val])
  go_returns
  exact ⟨⟨k', fn', rd', rs1', rs2', imm', size', sg'⟩, b, rfl, HR.out, by repeat' (first | (with_reducible exact Below.refl _ _) | (with_reducible assumption) | (with_reducible refine below_drewN ?_ _) | (with_reducible refine Below.alloc ?_ ?_ _) | (with_reducible refine Below.drew ?_) | (with_reducible refine below_wext ?_ _ _ ?_) | (with_reducible refine Below.setCell ?_ ?_ _) | go_size)⟩

theorem plain_reads (x : Int) (i : Ins) (w : World) (h0 : 0 ≤ x) (h1 : x < 4294967296) (hk : 1 ≤ i.kind ∧ i.kind ≤ 9) (ho : i.kind = 9 → bitsOf x 6 0 = 27 ∨ bitsOf x 6 0 = 19) :
    Reads Tryz.prog 103 #[.int .u32 x, i.val] w (plainOf x i) := by
  have r3 := bo3 x 14 12 rfl
  obtain ⟨k, fn, rd, rs1, rs2, imm, size, sg⟩ := i
  dsimp only at hk ho
  have : k = 1 ∨ k = 2 ∨ k = 3 ∨ k = 4 ∨ k = 5 ∨ k = 6 ∨ k = 7 ∨ k = 8 ∨ k = 9 := by omega
  rcases this with rfl | rfl | rfl | rfl | rfl | rfl | rfl | rfl | rfl
  · exact Reads.of (plain_1 x fn rd rs1 rs2 imm size sg w h0 h1) (by simp [plainOf])
  · exact Reads.of (plain_2 x fn rd rs1 rs2 imm size sg w h0 h1) (by simp [plainOf])
  · exact Reads.of (plain_3 x fn rd rs1 rs2 imm size sg w h0 h1) (by simp [plainOf])
  · exact Reads.of (plain_4 x fn rd rs1 rs2 imm size sg w h0 h1) (by by_cases h : bitsOf x 14 12 = 0 <;> simp [plainOf, h])
  · exact Reads.of (plain_5 x fn rd rs1 rs2 imm size sg w h0 h1) (by by_cases h : pickOf [1, 2, 0, 0, 3, 4, 5, 6] (bitsOf x 14 12) = 0 <;> simp [plainOf, h])
  · exact Reads.of (plain_6 x fn rd rs1 rs2 imm size sg w h0 h1) (by rw [sz_and _ r3.1 r3.2]; by_cases h : bitsOf x 14 12 < 7 <;> simp [plainOf, h])
  · exact Reads.of (plain_7 x fn rd rs1 rs2 imm size sg w h0 h1) (by rw [sz_plain _ r3.1 r3.2]; by_cases h : bitsOf x 14 12 < 4 <;> simp [plainOf, h])
  · exact Reads.of (plain_8 x fn rd rs1 rs2 imm size sg w h0 h1) (by by_cases h : regOf x = 0 <;> simp [plainOf, h])
  · have := plain_9 x fn rd rs1 rs2 imm size sg w h0 h1 (ho rfl)
    rwa [show immOf x ⟨9, fn, rd, rs1, rs2, imm, size, sg⟩ = plainOf x ⟨9, fn, rd, rs1, rs2, imm, size, sg⟩ from by simp [plainOf]] at this

set_option maxRecDepth 100000 in
set_option maxHeartbeats 800000 in
theorem dec_15 (x : Int) (w : World) (h0 : 0 ≤ x) (h1 : x < 4294967296) (ho : bitsOf x 6 0 = 15) : Reads Tryz.prog 68 #[.int .u32 x] w (fenceOf x) := by
  have HO := Lib.hid ho
  clear ho
  unfold Reads
  go_enter Tryz.func68, Tryz.ntmps68
  go_wp2_with (first
    | (go_at_call 95; refine (op_is _ _ _ h0 h1 HO.out).mono ?_; rintro e w' ⟨rfl, m, rfl⟩)
    | (go_at_call 96; refine (f3_any _ _ h0 h1).mono ?_; rintro e w' ⟨rfl, m, rfl⟩)
    | (go_at_call 129; refine (f7_any _ _ h0 h1).mono ?_; rintro e w' ⟨rfl, m, rfl⟩)
    | (go_at_call 100; refine (rd_any _ _ h0 h1).mono ?_; rintro e w' ⟨rfl, m, rfl⟩)
    | (go_at_call 101; refine (rs1_any _ _ h0 h1).mono ?_; rintro e w' ⟨rfl, m, rfl⟩)
    | (go_at_call 102; refine (rs2_any _ _ h0 h1).mono ?_; rintro e w' ⟨rfl, m, rfl⟩)
    | (go_at_call 131; refine (bits_any _ _ _ _ h0 h1 (by omega) (by omega) (by omega)).mono ?_; rintro e w' ⟨rfl, m, rfl⟩))
  go_returns
  exact ⟨⟨10, 0, 0, 0, 0, 0, 0, false⟩, decide (bitsOf x 14 12 < 2), rfl, by simp [fenceOf], by repeat' (first | (with_reducible exact Below.refl _ _) | (with_reducible assumption) | (with_reducible refine below_drewN ?_ _) | (with_reducible refine Below.alloc ?_ ?_ _) | (with_reducible refine Below.drew ?_) | (with_reducible refine below_wext ?_ _ _ ?_) | (with_reducible refine Below.setCell ?_ ?_ _) | go_size)⟩

set_option maxRecDepth 100000 in
set_option maxHeartbeats 800000 in
theorem dec_115 (x : Int) (w : World) (h0 : 0 ≤ x) (h1 : x < 4294967296) (ho : bitsOf x 6 0 = 115) : Reads Tryz.prog 68 #[.int .u32 x] w (sysOf x) := by
  have HO := Lib.hid ho
  clear ho
  unfold Reads
  go_enter Tryz.func68, Tryz.ntmps68
  go_wp2_with (first
    | (go_at_call 95; refine (op_is _ _ _ h0 h1 HO.out).mono ?_; rintro e w' ⟨rfl, m, rfl⟩)
    | (go_at_call 97; refine (system_reads x _ h0 h1).mono ?_; rintro e w1 ⟨i', b, rfl, hr, hb⟩; obtain ⟨os1, d1, rfl⟩ := wext_of_below hb; have HR := Lib.hid hr; clear hb hr; obtain ⟨k', fn', rd', rs1', rs2', imm', size', sg'⟩ := i'; simp only [Ins.val]))
  go_returns
  exact ⟨⟨k', fn', rd', rs1', rs2', imm', size', sg'⟩, b, rfl, HR.out, by repeat' (first | (with_reducible exact Below.refl _ _) | (with_reducible assumption) | (with_reducible refine below_drewN ?_ _) | (with_reducible refine Below.alloc ?_ ?_ _) | (with_reducible refine Below.drew ?_) | (with_reducible refine below_wext ?_ _ _ ?_) | (with_reducible refine Below.setCell ?_ ?_ _) | go_size)⟩

set_option maxRecDepth 100000 in
set_option maxHeartbeats 800000 in
theorem dec_47 (x : Int) (w : World) (h0 : 0 ≤ x) (h1 : x < 4294967296) (ho : bitsOf x 6 0 = 47) : Reads Tryz.prog 68 #[.int .u32 x] w (atOf x) := by
  have HO := Lib.hid ho
  clear ho
  unfold Reads
  go_enter Tryz.func68, Tryz.ntmps68
  go_wp2_with (first
    | (go_at_call 95; refine (op_is _ _ _ h0 h1 HO.out).mono ?_; rintro e w' ⟨rfl, m, rfl⟩)
    | (go_at_call 98; refine (atomic_reads x _ h0 h1).mono ?_; rintro e w1 ⟨i', b, rfl, hr, hb⟩; obtain ⟨os1, d1, rfl⟩ := wext_of_below hb; have HR := Lib.hid hr; clear hb hr; obtain ⟨k', fn', rd', rs1', rs2', imm', size', sg'⟩ := i'; simp only [Ins.val]))
  go_returns
  exact ⟨⟨k', fn', rd', rs1', rs2', imm', size', sg'⟩, b, rfl, HR.out, by repeat' (first | (with_reducible exact Below.refl _ _) | (with_reducible assumption) | (with_reducible refine below_drewN ?_ _) | (with_reducible refine Below.alloc ?_ ?_ _) | (with_reducible refine Below.drew ?_) | (with_reducible refine below_wext ?_ _ _ ?_) | (with_reducible refine Below.setCell ?_ ?_ _) | go_size)⟩

end Go.Proofs.YtmklpjelfonilaaGreatDoor
