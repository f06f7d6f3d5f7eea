/- Package asm: the world's own facts; form and told. -/
import Derived.Test.YtmklpjelfonilaaGreatDoorC1
import Derived.Lib.ItoaLen
import Derived.Deep.RegionWith
import Derived.Deep.DeepCutAuto
namespace Go.Proofs.YtmklpjelfonilaaGreatDoor
open Go.RowKit
attribute [local go_sem] alloc_drewN setCell_drewN wext_size wext_drewN wext_drew wext_setCell wext_cell wext_frozen wext_wext lt_e1 lt_e2 lt_e3 lt_e4 lt_e5 lt_e6
set_option linter.unusedVariables false
set_option linter.unusedSimpArgs false

/-- What the world's own variables hold, and stay at. -/
structure Env (w : World) : Prop where
  tab : Lib.TabIs Tryz.prog w "internal/strconv.uint64pow10" .u64 Lib.pow10Tab
  syn : ∃ tp p, w.var? Tryz.prog "strconv.ErrSyntax" = some #[.iface tp p]
  rng : ∃ tp p, w.var? Tryz.prog "strconv.ErrRange" = some #[.iface tp p]
  size : 4 ≤ w.heap.size

theorem var_keep {P : Program} {w w' : World} {n : String} {g : Nat} {cs : Array Value} (hg : P.globalNamed n = some g) (h : w.var? P n = some cs) (hb : Below w.heap.size w w') : w'.var? P n = some cs := by
  simp only [World.var?, hg, Option.bind_some] at h ⊢
  have hlt : g < w.heap.size := by
    rcases Nat.lt_or_ge g w.heap.size with h' | h'
    · exact h'
    · simp [Array.getElem?_eq_none h'] at h
  rw [hb.block g hlt]
  exact h

theorem Env.below {w w' : World} (h : Env w) (hb : Below w.heap.size w w') : Env w' := by
  obtain ⟨a, ⟨tp, p, b⟩, ⟨tq, q, c⟩, d⟩ := h
  exact ⟨var_keep (g := 1) (by kernel_rfl) a hb, ⟨tp, p, var_keep (g := 2) (by kernel_rfl) b hb⟩, ⟨tq, q, var_keep (g := 3) (by kernel_rfl) c hb⟩, Nat.le_trans d hb.size⟩

theorem Itoa_any (n : Int) (h0 : -9223372036854775808 ≤ n) (h1 : n ≤ 9223372036854775807) (w : World) (hw : Env w) :
    Calls Tryz.prog 60 #[.int .i64 n] w fun e w' => e = .returned (.string ⟨(Lib.itoa n).toArray⟩) ∧ Below w.heap.size w w' := by
  refine (Tryz.strconv_Itoa n h0 h1 w hw.tab).mono ?_
  rintro e w' ⟨rfl, k, os, rfl⟩
  exact ⟨rfl, below_wext (below_drewN (Below.refl _ _) k) os _ (Nat.le_refl _)⟩

/-- `form(kind)`: how a kind's arguments stand, and which they are. -/
def shapeOf (kind : Int) : ByteArray :=
  if kind = 1 ∨ kind = 2 then ⟨#[32, 37, 44, 32, 37]⟩
  else if kind = 3 then ⟨#[32, 37, 44, 32, 37]⟩
  else if kind = 4 ∨ kind = 6 then ⟨#[32, 37, 44, 32, 37, 40, 37, 41]⟩
  else if kind = 5 then ⟨#[32, 37, 44, 32, 37, 44, 32, 37]⟩
  else if kind = 7 then ⟨#[32, 37, 44, 32, 37, 40, 37, 41]⟩
  else if kind = 8 then ⟨#[32, 37, 44, 32, 37, 44, 32, 37]⟩
  else if kind = 9 then ⟨#[32, 37, 44, 32, 37, 44, 32, 37]⟩
  else if kind = 13 then ⟨#[32, 37, 44, 32, 37, 44, 32, 37]⟩
  else if kind = 14 then ⟨#[32, 37, 44, 32, 37, 44, 32, 37]⟩
  else if kind = 15 then ⟨#[32, 37, 44, 32, 40, 37, 41]⟩
  else if kind = 16 ∨ kind = 17 then ⟨#[32, 37, 44, 32, 37, 44, 32, 40, 37, 41]⟩
  else if kind = 20 then ⟨#[32, 37, 44, 32, 37]⟩
  else ⟨#[]⟩
def argsOf (kind : Int) : List Int :=
  if kind = 1 ∨ kind = 2 then [0, 4]
  else if kind = 3 then [0, 3]
  else if kind = 4 ∨ kind = 6 then [0, 3, 1]
  else if kind = 5 then [1, 2, 3]
  else if kind = 7 then [2, 3, 1]
  else if kind = 8 then [0, 1, 2]
  else if kind = 9 then [0, 1, 3]
  else if kind = 13 then [0, 3, 1]
  else if kind = 14 then [0, 3, 5]
  else if kind = 15 then [0, 1]
  else if kind = 16 ∨ kind = 17 then [0, 2, 1]
  else if kind = 20 then [1, 2]
  else []

/-- The fields are whole numbers of the machine. -/
def Ins.wf (i : Ins) : Prop := (-9223372036854775808 ≤ i.rd ∧ i.rd ≤ 9223372036854775807) ∧ (-9223372036854775808 ≤ i.rs1 ∧ i.rs1 ≤ 9223372036854775807) ∧ (-9223372036854775808 ≤ i.rs2 ∧ i.rs2 ≤ 9223372036854775807) ∧ (-9223372036854775808 ≤ i.imm ∧ i.imm ≤ 9223372036854775807)

/-- `told(i, what)`. -/
def toldL (i : Ins) (what : Int) : List UInt8 :=
  if what = 0 then 120 :: Lib.itoa i.rd
  else if what = 1 then 120 :: Lib.itoa i.rs1
  else if what = 2 then 120 :: Lib.itoa i.rs2
  else if what = 4 then Lib.itoa (i.imm.tdiv 4096)
  else if what = 5 then Lib.itoa i.rs1
  else Lib.itoa i.imm

theorem cons_str (l : List UInt8) : (⟨#[120]⟩ : ByteArray) ++ ⟨l.toArray⟩ = ⟨(120 :: l).toArray⟩ := by
  apply ByteArray.ext
  simp

set_option maxRecDepth 100000 in
set_option maxHeartbeats 1600000 in
theorem told_0 (kind fn rd rs1 rs2 imm size : Int) (sg : Bool) (w : World) (hw : Env w) (h0 : -9223372036854775808 ≤ rd) (h1 : rd ≤ 9223372036854775807) :
    Calls Tryz.prog 29 #[Ins.val ⟨kind, fn, rd, rs1, rs2, imm, size, sg⟩, .int .i64 0] w fun e w' => e = .returned (.string ⟨(120 :: Lib.itoa rd).toArray⟩) ∧ Below w.heap.size w w' := by
  have hl := Lib.itoa_length_le (rd) h0 h1
  have hz : (⟨(Lib.itoa (rd)).toArray⟩ : ByteArray).size ≤ 21 := hl
  unfold Ins.val
  go_enter Tryz.func29, Tryz.ntmps29
  go_wp2_with (go_at_call 60; refine (Itoa_any _ (by omega) (by omega) _ (hw.below (by first | exact (Below.refl _ _).alloc (Nat.le_refl _) _))).mono ?_; rintro e w1 ⟨rfl, hb⟩; obtain ⟨os1, d1, rfl⟩ := wext_of_below hb; clear hb)
  go_ret
  exact ⟨by show Ending.returned (.string (⟨#[120]⟩ ++ _)) = _; rw [cons_str], by repeat' (first | (with_reducible exact Below.refl _ _) | (with_reducible assumption) | (with_reducible refine below_drewN ?_ _) | (with_reducible refine Below.alloc ?_ ?_ _) | (with_reducible refine Below.drew ?_) | (with_reducible refine below_wext ?_ _ _ ?_) | (with_reducible refine Below.setCell ?_ ?_ _) | (simp only [World.size_alloc, World.size_setCell, World.size_drew, wext_size]; omega) | go_size)⟩

set_option maxRecDepth 100000 in
set_option maxHeartbeats 1600000 in
theorem told_1 (kind fn rd rs1 rs2 imm size : Int) (sg : Bool) (w : World) (hw : Env w) (h0 : -9223372036854775808 ≤ rs1) (h1 : rs1 ≤ 9223372036854775807) :
    Calls Tryz.prog 29 #[Ins.val ⟨kind, fn, rd, rs1, rs2, imm, size, sg⟩, .int .i64 1] w fun e w' => e = .returned (.string ⟨(120 :: Lib.itoa rs1).toArray⟩) ∧ Below w.heap.size w w' := by
  have hl := Lib.itoa_length_le (rs1) h0 h1
  have hz : (⟨(Lib.itoa (rs1)).toArray⟩ : ByteArray).size ≤ 21 := hl
  unfold Ins.val
  go_enter Tryz.func29, Tryz.ntmps29
  go_wp2_with (go_at_call 60; refine (Itoa_any _ (by omega) (by omega) _ (hw.below (by first | exact (Below.refl _ _).alloc (Nat.le_refl _) _))).mono ?_; rintro e w1 ⟨rfl, hb⟩; obtain ⟨os1, d1, rfl⟩ := wext_of_below hb; clear hb)
  go_ret
  exact ⟨by show Ending.returned (.string (⟨#[120]⟩ ++ _)) = _; rw [cons_str], by repeat' (first | (with_reducible exact Below.refl _ _) | (with_reducible assumption) | (with_reducible refine below_drewN ?_ _) | (with_reducible refine Below.alloc ?_ ?_ _) | (with_reducible refine Below.drew ?_) | (with_reducible refine below_wext ?_ _ _ ?_) | (with_reducible refine Below.setCell ?_ ?_ _) | (simp only [World.size_alloc, World.size_setCell, World.size_drew, wext_size]; omega) | go_size)⟩

set_option maxRecDepth 100000 in
set_option maxHeartbeats 1600000 in
theorem told_2 (kind fn rd rs1 rs2 imm size : Int) (sg : Bool) (w : World) (hw : Env w) (h0 : -9223372036854775808 ≤ rs2) (h1 : rs2 ≤ 9223372036854775807) :
    Calls Tryz.prog 29 #[Ins.val ⟨kind, fn, rd, rs1, rs2, imm, size, sg⟩, .int .i64 2] w fun e w' => e = .returned (.string ⟨(120 :: Lib.itoa rs2).toArray⟩) ∧ Below w.heap.size w w' := by
  have hl := Lib.itoa_length_le (rs2) h0 h1
  have hz : (⟨(Lib.itoa (rs2)).toArray⟩ : ByteArray).size ≤ 21 := hl
  unfold Ins.val
  go_enter Tryz.func29, Tryz.ntmps29
  go_wp2_with (go_at_call 60; refine (Itoa_any _ (by omega) (by omega) _ (hw.below (by first | exact (Below.refl _ _).alloc (Nat.le_refl _) _))).mono ?_; rintro e w1 ⟨rfl, hb⟩; obtain ⟨os1, d1, rfl⟩ := wext_of_below hb; clear hb)
  go_ret
  exact ⟨by show Ending.returned (.string (⟨#[120]⟩ ++ _)) = _; rw [cons_str], by repeat' (first | (with_reducible exact Below.refl _ _) | (with_reducible assumption) | (with_reducible refine below_drewN ?_ _) | (with_reducible refine Below.alloc ?_ ?_ _) | (with_reducible refine Below.drew ?_) | (with_reducible refine below_wext ?_ _ _ ?_) | (with_reducible refine Below.setCell ?_ ?_ _) | (simp only [World.size_alloc, World.size_setCell, World.size_drew, wext_size]; omega) | go_size)⟩

set_option maxRecDepth 100000 in
set_option maxHeartbeats 1600000 in
theorem told_4 (kind fn rd rs1 rs2 imm size : Int) (sg : Bool) (w : World) (hw : Env w) (h0 : -9223372036854775808 ≤ imm.tdiv 4096) (h1 : imm.tdiv 4096 ≤ 9223372036854775807) :
    Calls Tryz.prog 29 #[Ins.val ⟨kind, fn, rd, rs1, rs2, imm, size, sg⟩, .int .i64 4] w fun e w' => e = .returned (.string ⟨(Lib.itoa (imm.tdiv 4096)).toArray⟩) ∧ Below w.heap.size w w' := by
  have hl := Lib.itoa_length_le (imm.tdiv 4096) h0 h1
  have hz : (⟨(Lib.itoa (imm.tdiv 4096)).toArray⟩ : ByteArray).size ≤ 21 := hl
  unfold Ins.val
  go_enter Tryz.func29, Tryz.ntmps29
  go_wp2_with (go_at_call 60; refine (Itoa_any _ (by omega) (by omega) _ (hw.below (by first | exact (Below.refl _ _).alloc (Nat.le_refl _) _))).mono ?_; rintro e w1 ⟨rfl, hb⟩; obtain ⟨os1, d1, rfl⟩ := wext_of_below hb; clear hb)
  go_ret
  exact ⟨rfl, by repeat' (first | (with_reducible exact Below.refl _ _) | (with_reducible assumption) | (with_reducible refine below_drewN ?_ _) | (with_reducible refine Below.alloc ?_ ?_ _) | (with_reducible refine Below.drew ?_) | (with_reducible refine below_wext ?_ _ _ ?_) | (with_reducible refine Below.setCell ?_ ?_ _) | (simp only [World.size_alloc, World.size_setCell, World.size_drew, wext_size]; omega) | go_size)⟩

set_option maxRecDepth 100000 in
set_option maxHeartbeats 1600000 in
theorem told_5 (kind fn rd rs1 rs2 imm size : Int) (sg : Bool) (w : World) (hw : Env w) (h0 : -9223372036854775808 ≤ rs1) (h1 : rs1 ≤ 9223372036854775807) :
    Calls Tryz.prog 29 #[Ins.val ⟨kind, fn, rd, rs1, rs2, imm, size, sg⟩, .int .i64 5] w fun e w' => e = .returned (.string ⟨(Lib.itoa rs1).toArray⟩) ∧ Below w.heap.size w w' := by
  have hl := Lib.itoa_length_le (rs1) h0 h1
  have hz : (⟨(Lib.itoa (rs1)).toArray⟩ : ByteArray).size ≤ 21 := hl
  unfold Ins.val
  go_enter Tryz.func29, Tryz.ntmps29
  go_wp2_with (go_at_call 60; refine (Itoa_any _ (by omega) (by omega) _ (hw.below (by first | exact (Below.refl _ _).alloc (Nat.le_refl _) _))).mono ?_; rintro e w1 ⟨rfl, hb⟩; obtain ⟨os1, d1, rfl⟩ := wext_of_below hb; clear hb)
  go_ret
  exact ⟨rfl, by repeat' (first | (with_reducible exact Below.refl _ _) | (with_reducible assumption) | (with_reducible refine below_drewN ?_ _) | (with_reducible refine Below.alloc ?_ ?_ _) | (with_reducible refine Below.drew ?_) | (with_reducible refine below_wext ?_ _ _ ?_) | (with_reducible refine Below.setCell ?_ ?_ _) | (simp only [World.size_alloc, World.size_setCell, World.size_drew, wext_size]; omega) | go_size)⟩

set_option maxRecDepth 100000 in
set_option maxHeartbeats 1600000 in
theorem told_x (kind fn rd rs1 rs2 imm size what : Int) (sg : Bool) (w : World) (hw : Env w) (h0 : -9223372036854775808 ≤ imm) (h1 : imm ≤ 9223372036854775807) (n0 : (what == 0) = false) (n1 : (what == 1) = false) (n2 : (what == 2) = false) (n4 : (what == 4) = false) (n5 : (what == 5) = false) :
    Calls Tryz.prog 29 #[Ins.val ⟨kind, fn, rd, rs1, rs2, imm, size, sg⟩, .int .i64 what] w fun e w' => e = .returned (.string ⟨(Lib.itoa imm).toArray⟩) ∧ Below w.heap.size w w' := by
  have hl := Lib.itoa_length_le (imm) h0 h1
  have hz : (⟨(Lib.itoa (imm)).toArray⟩ : ByteArray).size ≤ 21 := hl
  unfold Ins.val
  go_enter Tryz.func29, Tryz.ntmps29
  go_wp2_with (go_at_call 60; refine (Itoa_any _ (by omega) (by omega) _ (hw.below (by first | exact (Below.refl _ _).alloc (Nat.le_refl _) _))).mono ?_; rintro e w1 ⟨rfl, hb⟩; obtain ⟨os1, d1, rfl⟩ := wext_of_below hb; clear hb)
  go_ret
  exact ⟨rfl, by repeat' (first | (with_reducible exact Below.refl _ _) | (with_reducible assumption) | (with_reducible refine below_drewN ?_ _) | (with_reducible refine Below.alloc ?_ ?_ _) | (with_reducible refine Below.drew ?_) | (with_reducible refine below_wext ?_ _ _ ?_) | (with_reducible refine Below.setCell ?_ ?_ _) | (simp only [World.size_alloc, World.size_setCell, World.size_drew, wext_size]; omega) | go_size)⟩

theorem tdiv_range (x : Int) (h0 : -9223372036854775808 ≤ x) (h1 : x ≤ 9223372036854775807) : -9223372036854775808 ≤ x.tdiv 4096 ∧ x.tdiv 4096 ≤ 9223372036854775807 := by
  rw [Int.tdiv_eq_ediv]
  split <;> (try simp only [Int.sign]) <;> omega

theorem told_any (i : Ins) (hi : i.wf) (what : Int) (w : World) (hw : Env w) : Calls Tryz.prog 29 #[i.val, .int .i64 what] w fun e w' => e = .returned (.string ⟨(toldL i what).toArray⟩) ∧ Below w.heap.size w w' := by
  obtain ⟨kind, fn, rd, rs1, rs2, imm, size, sg⟩ := i
  obtain ⟨⟨a0, a1⟩, ⟨b0, b1⟩, ⟨c0, c1⟩, ⟨d0, d1⟩⟩ := hi
  unfold toldL
  dsimp only at a0 a1 b0 b1 c0 c1 d0 d1 ⊢
  by_cases c0' : what = 0
  · subst c0'; rw [if_pos rfl]; exact told_0 kind fn rd rs1 rs2 imm size sg w hw a0 a1
  by_cases c1' : what = 1
  · subst c1'; rw [if_neg (by decide), if_pos rfl]; exact told_1 kind fn rd rs1 rs2 imm size sg w hw b0 b1
  by_cases c2' : what = 2
  · subst c2'; rw [if_neg (by decide), if_neg (by decide), if_pos rfl]; exact told_2 kind fn rd rs1 rs2 imm size sg w hw c0 c1
  by_cases c4' : what = 4
  · subst c4'; rw [if_neg (by decide), if_neg (by decide), if_neg (by decide), if_pos rfl]; exact told_4 kind fn rd rs1 rs2 imm size sg w hw (tdiv_range imm d0 d1).1 (tdiv_range imm d0 d1).2
  by_cases c5' : what = 5
  · subst c5'; rw [if_neg (by decide), if_neg (by decide), if_neg (by decide), if_neg (by decide), if_pos rfl]; exact told_5 kind fn rd rs1 rs2 imm size sg w hw b0 b1
  rw [if_neg c0', if_neg c1', if_neg c2', if_neg c4', if_neg c5']
  exact told_x kind fn rd rs1 rs2 imm size what sg w hw d0 d1 (beq_false c0') (beq_false c1') (beq_false c2') (beq_false c4') (beq_false c5')

theorem toldL_length (i : Ins) (hi : i.wf) (what : Int) : (toldL i what).length ≤ 22 := by
  obtain ⟨⟨a0, a1⟩, ⟨b0, b1⟩, ⟨c0, c1⟩, ⟨d0, d1⟩⟩ := hi
  have := Lib.itoa_length_le _ a0 a1
  have := Lib.itoa_length_le _ b0 b1
  have := Lib.itoa_length_le _ c0 c1
  have := Lib.itoa_length_le _ d0 d1
  have := Lib.itoa_length_le _ (tdiv_range _ d0 d1).1 (tdiv_range _ d0 d1).2
  unfold toldL
  repeat' split
  all_goals first | omega | (simp only [List.length_cons]; omega)

/-- A row of arguments, as form hands it back. -/
def ArgSl (l : List Int) (B : Nat) (ao : Option Addr) (w : World) : Prop := l = [] ∧ ao = none ∨ ∃ b, ao = some ⟨b, 0, none⟩ ∧ B ≤ b ∧ w.heap[b]? = some (.cells (l.map (Value.int .i64)).toArray 3 (0, 0))

set_option maxRecDepth 100000 in
theorem form_1 (w : World) : Calls Tryz.prog 25 #[.int .i64 1] w fun e w' => e = .returned (.tuple #[.string ⟨#[32, 37, 44, 32, 37]⟩, .slice (some ⟨w.heap.size, 0, none⟩) 2 2]) ∧ w' = w.alloc (.cells #[.int .i64 0, .int .i64 4] 3) := by
  go_enter Tryz.func25, Tryz.ntmps25
  go_wp2
  go_ret2
  exact ⟨rfl, rfl⟩

set_option maxRecDepth 100000 in
theorem form_2 (w : World) : Calls Tryz.prog 25 #[.int .i64 2] w fun e w' => e = .returned (.tuple #[.string ⟨#[32, 37, 44, 32, 37]⟩, .slice (some ⟨w.heap.size, 0, none⟩) 2 2]) ∧ w' = w.alloc (.cells #[.int .i64 0, .int .i64 4] 3) := by
  go_enter Tryz.func25, Tryz.ntmps25
  go_wp2
  go_ret2
  exact ⟨rfl, rfl⟩

set_option maxRecDepth 100000 in
theorem form_3 (w : World) : Calls Tryz.prog 25 #[.int .i64 3] w fun e w' => e = .returned (.tuple #[.string ⟨#[32, 37, 44, 32, 37]⟩, .slice (some ⟨w.heap.size, 0, none⟩) 2 2]) ∧ w' = w.alloc (.cells #[.int .i64 0, .int .i64 3] 3) := by
  go_enter Tryz.func25, Tryz.ntmps25
  go_wp2
  go_ret2
  exact ⟨rfl, rfl⟩

set_option maxRecDepth 100000 in
theorem form_4 (w : World) : Calls Tryz.prog 25 #[.int .i64 4] w fun e w' => e = .returned (.tuple #[.string ⟨#[32, 37, 44, 32, 37, 40, 37, 41]⟩, .slice (some ⟨w.heap.size, 0, none⟩) 3 3]) ∧ w' = w.alloc (.cells #[.int .i64 0, .int .i64 3, .int .i64 1] 3) := by
  go_enter Tryz.func25, Tryz.ntmps25
  go_wp2
  go_ret2
  exact ⟨rfl, rfl⟩

set_option maxRecDepth 100000 in
theorem form_6 (w : World) : Calls Tryz.prog 25 #[.int .i64 6] w fun e w' => e = .returned (.tuple #[.string ⟨#[32, 37, 44, 32, 37, 40, 37, 41]⟩, .slice (some ⟨w.heap.size, 0, none⟩) 3 3]) ∧ w' = w.alloc (.cells #[.int .i64 0, .int .i64 3, .int .i64 1] 3) := by
  go_enter Tryz.func25, Tryz.ntmps25
  go_wp2
  go_ret2
  exact ⟨rfl, rfl⟩

set_option maxRecDepth 100000 in
theorem form_5 (w : World) : Calls Tryz.prog 25 #[.int .i64 5] w fun e w' => e = .returned (.tuple #[.string ⟨#[32, 37, 44, 32, 37, 44, 32, 37]⟩, .slice (some ⟨w.heap.size, 0, none⟩) 3 3]) ∧ w' = w.alloc (.cells #[.int .i64 1, .int .i64 2, .int .i64 3] 3) := by
  go_enter Tryz.func25, Tryz.ntmps25
  go_wp2
  go_ret2
  exact ⟨rfl, rfl⟩

set_option maxRecDepth 100000 in
theorem form_7 (w : World) : Calls Tryz.prog 25 #[.int .i64 7] w fun e w' => e = .returned (.tuple #[.string ⟨#[32, 37, 44, 32, 37, 40, 37, 41]⟩, .slice (some ⟨w.heap.size, 0, none⟩) 3 3]) ∧ w' = w.alloc (.cells #[.int .i64 2, .int .i64 3, .int .i64 1] 3) := by
  go_enter Tryz.func25, Tryz.ntmps25
  go_wp2
  go_ret2
  exact ⟨rfl, rfl⟩

set_option maxRecDepth 100000 in
theorem form_8 (w : World) : Calls Tryz.prog 25 #[.int .i64 8] w fun e w' => e = .returned (.tuple #[.string ⟨#[32, 37, 44, 32, 37, 44, 32, 37]⟩, .slice (some ⟨w.heap.size, 0, none⟩) 3 3]) ∧ w' = w.alloc (.cells #[.int .i64 0, .int .i64 1, .int .i64 2] 3) := by
  go_enter Tryz.func25, Tryz.ntmps25
  go_wp2
  go_ret2
  exact ⟨rfl, rfl⟩

set_option maxRecDepth 100000 in
theorem form_9 (w : World) : Calls Tryz.prog 25 #[.int .i64 9] w fun e w' => e = .returned (.tuple #[.string ⟨#[32, 37, 44, 32, 37, 44, 32, 37]⟩, .slice (some ⟨w.heap.size, 0, none⟩) 3 3]) ∧ w' = w.alloc (.cells #[.int .i64 0, .int .i64 1, .int .i64 3] 3) := by
  go_enter Tryz.func25, Tryz.ntmps25
  go_wp2
  go_ret2
  exact ⟨rfl, rfl⟩

set_option maxRecDepth 100000 in
theorem form_13 (w : World) : Calls Tryz.prog 25 #[.int .i64 13] w fun e w' => e = .returned (.tuple #[.string ⟨#[32, 37, 44, 32, 37, 44, 32, 37]⟩, .slice (some ⟨w.heap.size, 0, none⟩) 3 3]) ∧ w' = w.alloc (.cells #[.int .i64 0, .int .i64 3, .int .i64 1] 3) := by
  go_enter Tryz.func25, Tryz.ntmps25
  go_wp2
  go_ret2
  exact ⟨rfl, rfl⟩

set_option maxRecDepth 100000 in
theorem form_14 (w : World) : Calls Tryz.prog 25 #[.int .i64 14] w fun e w' => e = .returned (.tuple #[.string ⟨#[32, 37, 44, 32, 37, 44, 32, 37]⟩, .slice (some ⟨w.heap.size, 0, none⟩) 3 3]) ∧ w' = w.alloc (.cells #[.int .i64 0, .int .i64 3, .int .i64 5] 3) := by
  go_enter Tryz.func25, Tryz.ntmps25
  go_wp2
  go_ret2
  exact ⟨rfl, rfl⟩

set_option maxRecDepth 100000 in
theorem form_15 (w : World) : Calls Tryz.prog 25 #[.int .i64 15] w fun e w' => e = .returned (.tuple #[.string ⟨#[32, 37, 44, 32, 40, 37, 41]⟩, .slice (some ⟨w.heap.size, 0, none⟩) 2 2]) ∧ w' = w.alloc (.cells #[.int .i64 0, .int .i64 1] 3) := by
  go_enter Tryz.func25, Tryz.ntmps25
  go_wp2
  go_ret2
  exact ⟨rfl, rfl⟩

set_option maxRecDepth 100000 in
theorem form_16 (w : World) : Calls Tryz.prog 25 #[.int .i64 16] w fun e w' => e = .returned (.tuple #[.string ⟨#[32, 37, 44, 32, 37, 44, 32, 40, 37, 41]⟩, .slice (some ⟨w.heap.size, 0, none⟩) 3 3]) ∧ w' = w.alloc (.cells #[.int .i64 0, .int .i64 2, .int .i64 1] 3) := by
  go_enter Tryz.func25, Tryz.ntmps25
  go_wp2
  go_ret2
  exact ⟨rfl, rfl⟩

set_option maxRecDepth 100000 in
theorem form_17 (w : World) : Calls Tryz.prog 25 #[.int .i64 17] w fun e w' => e = .returned (.tuple #[.string ⟨#[32, 37, 44, 32, 37, 44, 32, 40, 37, 41]⟩, .slice (some ⟨w.heap.size, 0, none⟩) 3 3]) ∧ w' = w.alloc (.cells #[.int .i64 0, .int .i64 2, .int .i64 1] 3) := by
  go_enter Tryz.func25, Tryz.ntmps25
  go_wp2
  go_ret2
  exact ⟨rfl, rfl⟩

set_option maxRecDepth 100000 in
theorem form_20 (w : World) : Calls Tryz.prog 25 #[.int .i64 20] w fun e w' => e = .returned (.tuple #[.string ⟨#[32, 37, 44, 32, 37]⟩, .slice (some ⟨w.heap.size, 0, none⟩) 2 2]) ∧ w' = w.alloc (.cells #[.int .i64 1, .int .i64 2] 3) := by
  go_enter Tryz.func25, Tryz.ntmps25
  go_wp2
  go_ret2
  exact ⟨rfl, rfl⟩

set_option maxRecDepth 100000 in
theorem form_x (kind : Int) (w : World) (n1 : (kind == 1) = false) (n2 : (kind == 2) = false) (n3 : (kind == 3) = false) (n4 : (kind == 4) = false) (n6 : (kind == 6) = false) (n5 : (kind == 5) = false) (n7 : (kind == 7) = false) (n8 : (kind == 8) = false) (n9 : (kind == 9) = false) (n13 : (kind == 13) = false) (n14 : (kind == 14) = false) (n15 : (kind == 15) = false) (n16 : (kind == 16) = false) (n17 : (kind == 17) = false) (n20 : (kind == 20) = false) : Calls Tryz.prog 25 #[.int .i64 kind] w fun e w' => e = .returned (.tuple #[.string ⟨#[]⟩, .slice none 0 0]) ∧ w' = w := by
  go_enter Tryz.func25, Tryz.ntmps25
  go_wp2
  go_ret2
  exact ⟨rfl, rfl⟩

theorem form_any (kind : Int) (w : World) : Calls Tryz.prog 25 #[.int .i64 kind] w fun e w' => ∃ ao, e = .returned (.tuple #[.string (shapeOf kind), .slice ao (argsOf kind).length (argsOf kind).length]) ∧ ArgSl (argsOf kind) w.heap.size ao w' ∧ Below w.heap.size w w' := by
  by_cases c1 : kind = 1
  · subst c1
    refine (form_1 w).mono ?_
    rintro e w' ⟨rfl, rfl⟩
    exact ⟨_, rfl, .inr ⟨_, rfl, Nat.le_refl _, heap_alloc_new _ _⟩, (Below.refl _ _).alloc (Nat.le_refl _) _⟩
  by_cases c2 : kind = 2
  · subst c2
    refine (form_2 w).mono ?_
    rintro e w' ⟨rfl, rfl⟩
    exact ⟨_, rfl, .inr ⟨_, rfl, Nat.le_refl _, heap_alloc_new _ _⟩, (Below.refl _ _).alloc (Nat.le_refl _) _⟩
  by_cases c3 : kind = 3
  · subst c3
    refine (form_3 w).mono ?_
    rintro e w' ⟨rfl, rfl⟩
    exact ⟨_, rfl, .inr ⟨_, rfl, Nat.le_refl _, heap_alloc_new _ _⟩, (Below.refl _ _).alloc (Nat.le_refl _) _⟩
  by_cases c4 : kind = 4
  · subst c4
    refine (form_4 w).mono ?_
    rintro e w' ⟨rfl, rfl⟩
    exact ⟨_, rfl, .inr ⟨_, rfl, Nat.le_refl _, heap_alloc_new _ _⟩, (Below.refl _ _).alloc (Nat.le_refl _) _⟩
  by_cases c6 : kind = 6
  · subst c6
    refine (form_6 w).mono ?_
    rintro e w' ⟨rfl, rfl⟩
    exact ⟨_, rfl, .inr ⟨_, rfl, Nat.le_refl _, heap_alloc_new _ _⟩, (Below.refl _ _).alloc (Nat.le_refl _) _⟩
  by_cases c5 : kind = 5
  · subst c5
    refine (form_5 w).mono ?_
    rintro e w' ⟨rfl, rfl⟩
    exact ⟨_, rfl, .inr ⟨_, rfl, Nat.le_refl _, heap_alloc_new _ _⟩, (Below.refl _ _).alloc (Nat.le_refl _) _⟩
  by_cases c7 : kind = 7
  · subst c7
    refine (form_7 w).mono ?_
    rintro e w' ⟨rfl, rfl⟩
    exact ⟨_, rfl, .inr ⟨_, rfl, Nat.le_refl _, heap_alloc_new _ _⟩, (Below.refl _ _).alloc (Nat.le_refl _) _⟩
  by_cases c8 : kind = 8
  · subst c8
    refine (form_8 w).mono ?_
    rintro e w' ⟨rfl, rfl⟩
    exact ⟨_, rfl, .inr ⟨_, rfl, Nat.le_refl _, heap_alloc_new _ _⟩, (Below.refl _ _).alloc (Nat.le_refl _) _⟩
  by_cases c9 : kind = 9
  · subst c9
    refine (form_9 w).mono ?_
    rintro e w' ⟨rfl, rfl⟩
    exact ⟨_, rfl, .inr ⟨_, rfl, Nat.le_refl _, heap_alloc_new _ _⟩, (Below.refl _ _).alloc (Nat.le_refl _) _⟩
  by_cases c13 : kind = 13
  · subst c13
    refine (form_13 w).mono ?_
    rintro e w' ⟨rfl, rfl⟩
    exact ⟨_, rfl, .inr ⟨_, rfl, Nat.le_refl _, heap_alloc_new _ _⟩, (Below.refl _ _).alloc (Nat.le_refl _) _⟩
  by_cases c14 : kind = 14
  · subst c14
    refine (form_14 w).mono ?_
    rintro e w' ⟨rfl, rfl⟩
    exact ⟨_, rfl, .inr ⟨_, rfl, Nat.le_refl _, heap_alloc_new _ _⟩, (Below.refl _ _).alloc (Nat.le_refl _) _⟩
  by_cases c15 : kind = 15
  · subst c15
    refine (form_15 w).mono ?_
    rintro e w' ⟨rfl, rfl⟩
    exact ⟨_, rfl, .inr ⟨_, rfl, Nat.le_refl _, heap_alloc_new _ _⟩, (Below.refl _ _).alloc (Nat.le_refl _) _⟩
  by_cases c16 : kind = 16
  · subst c16
    refine (form_16 w).mono ?_
    rintro e w' ⟨rfl, rfl⟩
    exact ⟨_, rfl, .inr ⟨_, rfl, Nat.le_refl _, heap_alloc_new _ _⟩, (Below.refl _ _).alloc (Nat.le_refl _) _⟩
  by_cases c17 : kind = 17
  · subst c17
    refine (form_17 w).mono ?_
    rintro e w' ⟨rfl, rfl⟩
    exact ⟨_, rfl, .inr ⟨_, rfl, Nat.le_refl _, heap_alloc_new _ _⟩, (Below.refl _ _).alloc (Nat.le_refl _) _⟩
  by_cases c20 : kind = 20
  · subst c20
    refine (form_20 w).mono ?_
    rintro e w' ⟨rfl, rfl⟩
    exact ⟨_, rfl, .inr ⟨_, rfl, Nat.le_refl _, heap_alloc_new _ _⟩, (Below.refl _ _).alloc (Nat.le_refl _) _⟩
  refine (form_x kind w (beq_false c1) (beq_false c2) (beq_false c3) (beq_false c4) (beq_false c6) (beq_false c5) (beq_false c7) (beq_false c8) (beq_false c9) (beq_false c13) (beq_false c14) (beq_false c15) (beq_false c16) (beq_false c17) (beq_false c20)).mono ?_
  rintro e w' ⟨rfl, rfl⟩
  have e1 : shapeOf kind = ⟨#[]⟩ := by unfold shapeOf; simp only [c1, c2, c3, c4, c6, c5, c7, c8, c9, c13, c14, c15, c16, c17, c20, or_self, if_false]
  have e2 : argsOf kind = [] := by unfold argsOf; simp only [c1, c2, c3, c4, c6, c5, c7, c8, c9, c13, c14, c15, c16, c17, c20, or_self, if_false]
  rw [e1, e2]
  exact ⟨none, rfl, .inl ⟨rfl, rfl⟩, Below.refl _ _⟩

end Go.Proofs.YtmklpjelfonilaaGreatDoor
