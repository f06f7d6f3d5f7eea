/- Package asm: Line: an instruction's line. -/
import Derived.Test.YtmklpjelfonilaaGreatDoorC2z
import Derived.Test.YtmklpjelfonilaaGreatDoorD1
import Derived.Laws.RangeAny
namespace Go.Proofs.YtmklpjelfonilaaGreatDoor
open Go.RowKit
attribute [local go_sem] alloc_drewN setCell_drewN wext_size wext_drewN wext_drew wext_setCell wext_cell wext_frozen wext_wext lt_e1 lt_e2 lt_e3 lt_e4 lt_e5 lt_e6
set_option linter.unusedVariables false
set_option linter.unusedSimpArgs false

/-- A shape with its arguments put in: each % is one. -/
def renderL (tell : Int → List UInt8) : List UInt8 → List Int → List UInt8
  | [], _ => []
  | c :: cs, l => if c = 37 then tell (l.headD 3) ++ renderL tell cs l.tail else c :: renderL tell cs l

/-- An instruction's line. -/
def lineL (i : Ins) : List UInt8 := (nameOf i).data.toList ++ renderL (toldL i) (shapeOf i.kind).data.toList (argsOf i.kind)

/-- A shape is short, ASCII, and asks for as many arguments as there are. -/
def ShapeOk (s : List UInt8) (l : List Int) : Prop := s.length ≤ 10 ∧ (∀ c ∈ s, c.toNat < 128) ∧ (s.filter (· = 37)).length = l.length ∧ l.length ≤ 3

theorem shape_ok (kind : Int) : ShapeOk (shapeOf kind).data.toList (argsOf kind) := by
  by_cases c1 : kind = 1
  · subst c1; unfold ShapeOk; decide
  by_cases c2 : kind = 2
  · subst c2; unfold ShapeOk; decide
  by_cases c3 : kind = 3
  · subst c3; unfold ShapeOk; decide
  by_cases c4 : kind = 4
  · subst c4; unfold ShapeOk; decide
  by_cases c6 : kind = 6
  · subst c6; unfold ShapeOk; decide
  by_cases c5 : kind = 5
  · subst c5; unfold ShapeOk; decide
  by_cases c7 : kind = 7
  · subst c7; unfold ShapeOk; decide
  by_cases c8 : kind = 8
  · subst c8; unfold ShapeOk; decide
  by_cases c9 : kind = 9
  · subst c9; unfold ShapeOk; decide
  by_cases c13 : kind = 13
  · subst c13; unfold ShapeOk; decide
  by_cases c14 : kind = 14
  · subst c14; unfold ShapeOk; decide
  by_cases c15 : kind = 15
  · subst c15; unfold ShapeOk; decide
  by_cases c16 : kind = 16
  · subst c16; unfold ShapeOk; decide
  by_cases c17 : kind = 17
  · subst c17; unfold ShapeOk; decide
  by_cases c20 : kind = 20
  · subst c20; unfold ShapeOk; decide
  have e1 : shapeOf kind = ⟨#[]⟩ := by unfold shapeOf; simp only [c1, c2, c3, c4, c6, c5, c7, c8, c9, c13, c14, c15, c16, c17, c20, or_self, if_false]
  have e2 : argsOf kind = [] := by unfold argsOf; simp only [c1, c2, c3, c4, c6, c5, c7, c8, c9, c13, c14, c15, c16, c17, c20, or_self, if_false]
  rw [e1, e2]; unfold ShapeOk; decide

theorem ite_size {c : Prop} [Decidable c] {a b : ByteArray} {n : Nat} (ha : a.size ≤ n) (hb : b.size ≤ n) : (if c then a else b).size ≤ n := by split <;> assumption
theorem app_size {a b : ByteArray} {m n : Nat} (ha : a.size ≤ m) (hb : b.size ≤ n) : (a ++ b).size ≤ m + n := by rw [ByteArray.size_append]; omega
theorem wideOf_size (x : Int) : (wideOf x).size ≤ 2 := by unfold wideOf; repeat' (first | refine ite_size ?_ ?_ | decide)
theorem immOpOf_size (op : ByteArray) (h : op.size ≤ 1000) : (immOpOf op).size ≤ 1001 := by
  unfold immOpOf
  repeat' (first | refine ite_size ?_ ?_ | with_reducible exact Nat.le_trans (app_size (n := 1) h (by decide)) (by decide) | decide)
theorem nameOf_size (i : Ins) : (nameOf i).size ≤ 3000 := by
  unfold nameOf nameP
  repeat' (first | with_reducible refine ite_size ?_ ?_ | with_reducible exact Nat.le_trans (nameAt_size _ _ (by decide)) (by decide) | with_reducible exact Nat.le_trans (immOpOf_size _ (nameAt_size _ _ (by decide))) (by decide) | with_reducible exact Nat.le_trans (app_size (nameAt_size _ _ (by decide)) (wideOf_size _)) (by decide) | with_reducible exact Nat.le_trans (app_size (m := 2) (by decide) (wideOf_size _)) (by decide))

theorem builderAt_below {T e : TypeId} {B b : Nat} {p : Value} {bs : List Value} {W W' : World} (h : Lib.BuilderAtF T e B b p bs W) (hb : Below W.heap.size W W') : Lib.BuilderAtF T e B b p bs W' := by
  have hlt := h.lt
  obtain ⟨hB, v, hv, hown, hne⟩ := h
  exact ⟨hB, v, (hb.block b hlt).trans hv, hown.kept (row := none) ⟨hb.os, hb.tape, hb.output, hb.size, fun k hk _ => hb.block k hk⟩ (Classical.em _), hne⟩
theorem builder_below {T e : TypeId} {B b : Nat} {bs : List Value} {W W' : World} (h : Lib.IsBuilderF T e B b bs W) (hb : Below W.heap.size W W') : Lib.IsBuilderF T e B b bs W' :=
  h.elim (fun x => .inl (builderAt_below x hb)) (fun x => .inr (builderAt_below x hb))

theorem below_mono {B B' : Nat} {w w' : World} (hb : Below B w w') (h : B' ≤ B) : Below B' w w' := ⟨hb.os, hb.tape, hb.output, hb.size, fun k hk => hb.block k (by omega)⟩

theorem box8 {w : World} {b : Nat} {kind fn rd rs1 rs2 imm size : Int} {sg : Bool} (h : w.heap[b]? = some (.cells #[.int .i64 kind, .int .i64 fn, .int .i64 rd, .int .i64 rs1, .int .i64 rs2, .int .i64 imm, .int .i64 size, .bool sg] 23 (0, 0))) :
    w.cell? ⟨b, 0, none⟩ = some (.int .i64 kind) ∧ w.cell? ⟨b, 1, none⟩ = some (.int .i64 fn) ∧ w.cell? ⟨b, 2, none⟩ = some (.int .i64 rd) ∧ w.cell? ⟨b, 3, none⟩ = some (.int .i64 rs1) ∧ w.cell? ⟨b, 4, none⟩ = some (.int .i64 rs2) ∧ w.cell? ⟨b, 5, none⟩ = some (.int .i64 imm) ∧ w.cell? ⟨b, 6, none⟩ = some (.int .i64 size) ∧ w.cell? ⟨b, 7, none⟩ = some (.bool sg) := by
  refine ⟨?_, ?_, ?_, ?_, ?_, ?_, ?_, ?_⟩ <;> rw [Lib.cell_of_heap h] <;> rfl

set_option maxRecDepth 100000 in
theorem Line_no (i : Ins) (w : World) (h : encodeOf i = none) : Calls Tryz.prog 10 #[i.val] w fun e w' => e = .returned (.tuple #[.string ⟨#[]⟩, .bool false]) ∧ Below w.heap.size w w' := by
  obtain ⟨kind, fn, rd, rs1, rs2, imm, size, sg⟩ := i
  unfold Ins.val
  go_enter Tryz.func10, Tryz.ntmps10
  go_wp2_with (go_at_call 15; refine (Encode_any ⟨kind, fn, rd, rs1, rs2, imm, size, sg⟩ _).mono ?_; rintro e w1 ⟨rfl, hb⟩; rw [h]; obtain ⟨os1, d1, rfl⟩ := wext_of_below hb; clear hb)
  go_ret2
  exact ⟨rfl, by repeat' (first | (with_reducible exact Below.refl _ _) | (with_reducible assumption) | (with_reducible refine below_drewN ?_ _) | (with_reducible refine Below.alloc ?_ ?_ _) | (with_reducible refine Below.drew ?_) | (with_reducible refine below_wext ?_ _ _ ?_) | (with_reducible refine Below.setCell ?_ ?_ _) | (simp only [World.size_alloc, World.size_setCell, World.size_drew, wext_size]; omega) | go_size)⟩

theorem strCells_byte (s : ByteArray) : Lib.strCells s = Lib.byteCells s.data.toList := by
  simp [Lib.strCells, Lib.byteCells]

def slAt : Option Addr → Nat → Option Addr
  | none, _ => none
  | some a, k => some ⟨a.block, k, none⟩

theorem form_at {kind : Int} {s : ByteArray} {l : List Int} (hs : shapeOf kind = s) (hl : argsOf kind = l) (w : World) : Calls Tryz.prog 25 #[.int .i64 kind] w fun e w' => ∃ ao, e = .returned (.tuple #[.string s, .slice ao l.length l.length]) ∧ ArgSl l w.heap.size ao w' ∧ Below w.heap.size w w' := by
  rw [← hs, ← hl]; exact form_any kind w

theorem drop_step (s : ByteArray) (pos : Nat) (h : pos < s.size) : s.data.toList.drop pos = s[pos]'h :: s.data.toList.drop (pos + 1) := by
  rw [List.drop_eq_getElem_cons (by simpa using h)]
  rfl
theorem renderL_pct (tell : Int → List UInt8) (cs : List UInt8) (x : Int) (l : List Int) : renderL tell (37 :: cs) (x :: l) = tell x ++ renderL tell cs l := by simp [renderL]
theorem renderL_sign (tell : Int → List UInt8) (c : UInt8) (cs : List UInt8) (l : List Int) (h : ¬ c = 37) : renderL tell (c :: cs) l = c :: renderL tell cs l := by simp [renderL, h]
theorem lcell {w : World} {b : Nat} {l : List Int} (h : w.heap[b]? = some (.cells (l.map (Value.int .i64)).toArray 3 (0, 0))) (k : Nat) (x : Int) (hx : l[k]? = some x) : w.cell? ⟨b, k, none⟩ = some (.int .i64 x) := by
  rw [Lib.cell_of_heap h]
  simp [hx]

set_option maxRecDepth 100000 in
set_option maxHeartbeats 6400000 in
theorem Line_yes (kind fn rd rs1 rs2 imm size : Int) (sg : Bool) (x : Int) (w : World) (hw : Env w) (hi : Ins.wf ⟨kind, fn, rd, rs1, rs2, imm, size, sg⟩) (h : encodeOf ⟨kind, fn, rd, rs1, rs2, imm, size, sg⟩ = some x) :
    Calls Tryz.prog 10 #[Ins.val ⟨kind, fn, rd, rs1, rs2, imm, size, sg⟩] w fun e w' => e = .returned (.tuple #[.string ⟨(lineL ⟨kind, fn, rd, rs1, rs2, imm, size, sg⟩).toArray⟩, .bool true]) ∧ Below w.heap.size w w' := by
  obtain ⟨s, hs⟩ : ∃ s, shapeOf kind = s := ⟨_, rfl⟩
  obtain ⟨l, hl⟩ : ∃ l, argsOf kind = l := ⟨_, rfl⟩
  obtain ⟨tl, htl⟩ : ∃ tl, toldL ⟨kind, fn, rd, rs1, rs2, imm, size, sg⟩ = tl := ⟨_, rfl⟩
  obtain ⟨nm, hnm⟩ : ∃ nm, nameOf ⟨kind, fn, rd, rs1, rs2, imm, size, sg⟩ = nm := ⟨_, rfl⟩
  obtain ⟨ln, hln⟩ : ∃ ln, lineL ⟨kind, fn, rd, rs1, rs2, imm, size, sg⟩ = ln := ⟨_, rfl⟩
  have hok : ShapeOk s.data.toList l := by rw [← hs, ← hl]; exact shape_ok kind
  have HL : Hid (nm.data.toList ++ renderL tl s.data.toList l = ln) := Lib.hid (by rw [← hln, ← hnm, ← htl, ← hs, ← hl]; rfl)
  have hT := told_any ⟨kind, fn, rd, rs1, rs2, imm, size, sg⟩ hi
  have hTl := toldL_length ⟨kind, fn, rd, rs1, rs2, imm, size, sg⟩ hi
  have hN := name_any ⟨kind, fn, rd, rs1, rs2, imm, size, sg⟩
  have hNs := nameOf_size ⟨kind, fn, rd, rs1, rs2, imm, size, sg⟩
  have hE := Encode_any ⟨kind, fn, rd, rs1, rs2, imm, size, sg⟩
  rw [h] at hE
  rw [htl] at hT hTl
  rw [hnm] at hN hNs
  rw [hln]
  have hF := form_at hs hl
  clear h hs hl htl hnm hln hi
  obtain ⟨hs10, hasc, hcnt, hl3⟩ := hok
  have HC := Lib.hid hcnt
  have HA := Lib.hid hasc
  clear hcnt hasc
  have hsz : s.size ≤ 10 := hs10
  clear hs10
  have hT' := Lib.hid hT
  have hN' := Lib.hid hN
  have hE' := Lib.hid hE
  have hF' := Lib.hid hF
  clear hT hN hE hF
  unfold Ins.val
  go_enter Tryz.func10, Tryz.ntmps10
  go_upto_region 4 with (go_at_call 15; refine (hE'.out _).mono ?_; rintro e w1 ⟨rfl, hb1⟩)
  have hx1 : w1.heap[w.heap.size]? = some (.cells #[.int .i64 kind, .int .i64 fn, .int .i64 rd, .int .i64 rs1, .int .i64 rs2, .int .i64 imm, .int .i64 size, .bool sg] 23 (0, 0)) := (hb1.block _ (by simp)).trans (heap_alloc_new w _)
  have hbw1 : Below w.heap.size w w1 := ((Below.refl _ w).alloc (Nat.le_refl _) _).trans (below_mono hb1 (by simp))
  clear hb1
  have hlt1 : w.heap.size < w1.heap.size := (Array.getElem?_eq_some_iff.1 hx1).1
  obtain ⟨g0, g1, g2, g3, g4, g5, g6, g7⟩ := box8 hx1
  go_upto_region 5 with (go_at_call 25; refine (hF'.out _).mono ?_; rintro e w2 ⟨ao, rfl, hA2, hb2⟩)
  have hx2 : w2.heap[w.heap.size]? = some (.cells #[.int .i64 kind, .int .i64 fn, .int .i64 rd, .int .i64 rs1, .int .i64 rs2, .int .i64 imm, .int .i64 size, .bool sg] 23 (0, 0)) := (hb2.block _ hlt1).trans hx1
  have hbw2 : Below w.heap.size w w2 := hbw1.trans (below_mono hb2 (by omega))
  have hlt2 : w.heap.size < w2.heap.size := (Array.getElem?_eq_some_iff.1 hx2).1
  clear g0 g1 g2 g3 g4 g5 g6 g7 hb2 hx1 hbw1
  obtain ⟨g0, g1, g2, g3, g4, g5, g6, g7⟩ := box8 hx2
  go_upto_region 7 with (first
    | (go_at_call 27; refine (hN'.out _).mono ?_; rintro e w3 ⟨rfl, hb3⟩)
    | (go_at_call 26; refine (WriteString_k w2.heap.size w2.heap.size [] nm w3 (builder_below (Lib.IsBuilderF.of (Lib.fresh_isBuilder 55 5 w2)) hb3) (by simp; omega) (Nat.le_trans (by simp) hb3.size)).mono ?_; rintro e w4 ⟨rfl, hB4, hb4, hk4⟩))
  obtain ⟨b, hb⟩ : ∃ b, w2.heap.size = b := ⟨_, rfl⟩
  have hfz : (w2.alloc (Obj.cells #[Value.pointer none, Value.slice none 0 0] 55)).heap.size = b + 1 := by simp [hb]
  have hbw4 : Below w.heap.size w w4 := ((hbw2.alloc (by omega) _).trans (below_mono hb3 (by omega))).trans (below_mono hb4 (by omega))
  have hx3 : w3.heap[w.heap.size]? = some (.cells #[.int .i64 kind, .int .i64 fn, .int .i64 rd, .int .i64 rs1, .int .i64 rs2, .int .i64 imm, .int .i64 size, .bool sg] 23 (0, 0)) := (hb3.block _ (by omega)).trans ((Lib.alloc_old w2 _ _ (by omega)).trans hx2)
  have hx4 : w4.heap[w.heap.size]? = some (.cells #[.int .i64 kind, .int .i64 fn, .int .i64 rd, .int .i64 rs1, .int .i64 rs2, .int .i64 imm, .int .i64 size, .bool sg] 23 (0, 0)) := hk4 _ _ hx3 (by simp; omega) (by intro c fz e; injection e with e1 e2 e3; exact absurd e2 (by decide))
  have hA4 : l = [] ∧ ao = none ∨ ∃ lb, ao = some ⟨lb, 0, none⟩ ∧ lb < b ∧ w4.heap[lb]? = some (.cells (l.map (Value.int .i64)).toArray 3 (0, 0)) := by
    rcases hA2 with hA2 | ⟨lb, rfl, hlb, hlc⟩
    · exact .inl hA2
    · have hlt : lb < b := by rw [← hb]; exact (Array.getElem?_eq_some_iff.1 hlc).1
      refine .inr ⟨lb, rfl, hlt, ?_⟩
      refine hk4 _ _ ((hb3.block _ (by omega)).trans ((Lib.alloc_old w2 _ _ (by omega)).trans hlc)) (by simp; omega) (by intro c fz e; injection e with e1 e2 e3; exact absurd e2 (by decide))
  rw [hb] at hB4 hlt2
  clear hA2 hb3 hb4 hk4 hbw2 hx2 g0 g1 g2 g3 g4 g5 g6 g7 hx3 hfz
  rw [hb]
  clear hb
  rw [List.nil_append, show Lib.strCells nm = Lib.byteCells nm.data.toList from strCells_byte nm] at hB4
  have hbl4 : b < w4.heap.size := hB4.lt
  have hnl : nm.data.toList.length ≤ 3000 := hNs
  go_wp2
  go_loopw [7] (fun v7 wr => ∃ (pos k : Nat) (acc : List UInt8) (ap : Option Addr), pos ≤ s.size ∧ k ≤ l.length ∧ v7 = .slice ap (l.length - k) (l.length - k) ∧ (k < l.length → ap = slAt ao k) ∧ IsB b b (Lib.byteCells acc) wr ∧ wr.heap[w4.heap.size]? = some (.stringIter s pos) ∧ wr.heap[w.heap.size]? = some (.cells #[.int .i64 kind, .int .i64 fn, .int .i64 rd, .int .i64 rs1, .int .i64 rs2, .int .i64 imm, .int .i64 size, .bool sg] 23 (0, 0)) ∧ (l = [] ∧ ao = none ∨ ∃ lb, ao = some ⟨lb, 0, none⟩ ∧ lb < b ∧ wr.heap[lb]? = some (.cells (l.map (Value.int .i64)).toArray 3 (0, 0))) ∧ Below w.heap.size w wr ∧ Hid (acc ++ renderL tl (s.data.toList.drop pos) (l.drop k) = ln) ∧ Hid (((s.data.toList.drop pos).filter (· = 37)).length = l.length - k) ∧ acc.length ≤ 3000 + 30 * pos) (fun v7 wr => s.size - wr.iterPos w4.heap.size)
  case atStart =>
    have hs0 : slAt ao 0 = ao := by
      rcases hA4 with ⟨_, rfl⟩ | ⟨lb, rfl, _, _⟩ <;> rfl
    refine ⟨0, 0, nm.data.toList, ao, by omega, by omega, rfl, fun _ => hs0.symm, (Lib.IsBuilderF.alloc (Or.inr hB4) _), World.iter_heap _ _ _, ?_, ?_, hbw4.alloc (by omega) _, HL, HC, by omega⟩
    · exact (Lib.alloc_old w4 _ _ (by omega)).trans hx4
    · rcases hA4 with hA4 | ⟨lb, rfl, hlt, hlc⟩
      · exact .inl hA4
      · exact .inr ⟨lb, rfl, hlt, (Lib.alloc_old w4 _ _ (by omega)).trans hlc⟩
  case round =>
    obtain ⟨pos, k, acc, ap, hp, hk, rfl, hap, hI, hit, hx, hA, hbw, HR, HK, hal⟩ := hrel
    have hsz0 : w4.heap.size < wr.heap.size := (Array.getElem?_eq_some_iff.1 hit).1
    by_cases hpl : pos < s.size
    · have hmem : s[pos]'hpl ∈ s.data.toList := by
        have : s.data.toList[pos]'(by simpa using hpl) ∈ s.data.toList := List.getElem_mem _
        exact this
      have hc128 : (s[pos]'hpl).toNat < 128 := HA.out _ hmem
      have hnx : ∀ ty, (Instr.next (.pointer (some ⟨w4.heap.size, 0, none⟩)) true ty).run Tryz.prog wr = .ok (.tuple #[.bool true, .int .i64 pos, .int .i32 (s[pos]'hpl).toNat]) (wr.iterAt w4.heap.size s (pos + 1)) := fun ty => by
        have := Lib.run_next_any_at (P := Tryz.prog) wr w4.heap.size s pos ty hit hpl
        rw [decode_ascii s pos hpl hc128] at this
        exact this
      have hds := drop_step s pos hpl
      obtain ⟨c, hc⟩ : ∃ c, s[pos]'hpl = c := ⟨_, rfl⟩
      rw [hc] at hnx hc128 hds
      clear hmem hc
      have hI2 := Lib.IsBuilderF.iterAt hI hit (pos + 1)
      have hit2 := Lib.iterAt_heap wr w4.heap.size s pos (pos + 1) hit
      have hx2 : (wr.iterAt w4.heap.size s (pos + 1)).heap[w.heap.size]? = some (.cells #[.int .i64 kind, .int .i64 fn, .int .i64 rd, .int .i64 rs1, .int .i64 rs2, .int .i64 imm, .int .i64 size, .bool sg] 23 (0, 0)) := (Lib.iterAt_other wr _ _ s _ (by omega)).trans hx
      have hbw2 := Lib.below_iterAt hbw (k := w4.heap.size) (by omega) s (pos + 1)
      have hsz2 : b ≤ (wr.iterAt w4.heap.size s (pos + 1)).heap.size := by rw [Lib.iterAt_size]; omega
      by_cases h37 : c = 37
      · subst h37
        have HK1 : (List.filter (fun x => decide (x = 37)) (List.drop (pos + 1) s.data.toList)).length + 1 = l.length - k := by
          have := HK.out; rw [hds] at this; simpa using this
        have hkl : k < l.length := by omega
        obtain ⟨y, hy⟩ : ∃ y, l[k]'hkl = y := ⟨_, rfl⟩
        have hdl : l.drop k = y :: l.drop (k + 1) := by rw [List.drop_eq_getElem_cons hkl, hy]
        have hgy : l[k]? = some y := by rw [List.getElem?_eq_getElem hkl, hy]
        clear hy
        have HR1 := Lib.hid (show (acc ++ tl y) ++ renderL tl (s.data.toList.drop (pos + 1)) (l.drop (k + 1)) = ln by rw [← HR.out, hds, hdl, renderL_pct, List.append_assoc])
        have HK2 := Lib.hid (show (List.filter (fun x => decide (x = 37)) (List.drop (pos + 1) s.data.toList)).length = l.length - (k + 1) by omega)
        have hTy := hTl y
        clear HK1 HK HR hds hdl
        rcases hA with ⟨rfl, _⟩ | ⟨lb, rfl, hlb, hlc⟩
        · simp at hkl
        have hlc2 : (wr.iterAt w4.heap.size s (pos + 1)).heap[lb]? = some (.cells (l.map (Value.int .i64)).toArray 3 (0, 0)) := (Lib.iterAt_other wr _ _ s _ (by omega)).trans hlc
        have gl := lcell hlc2 k y hgy
        obtain ⟨g0, g1, g2, g3, g4, g5, g6, g7⟩ := box8 hx2
        have hd1 : decide (0 < l.length - k) = true := decide_eq_true (by omega)
        obtain rfl := hap hkl
        rw [show slAt (some ⟨lb, 0, none⟩) k = some ⟨lb, k, none⟩ from rfl]
        go_upto_region 12 with fail
        go_region_with (first
          | (go_at_call 29; refine (hT'.out y _ (hw.below ?he)).mono ?_; (case he => repeat' (first | exact hbw2 | refine Below.drew ?_ | refine below_drewN ?_ _)); rintro e w5 ⟨rfl, hb5⟩)
          | (go_at_call 26; refine (WriteString_k b b (Lib.byteCells acc) ⟨(tl y).toArray⟩ _ (builder_below (by exact hI2) hb5) (by rw [Lib.byteCells_length]; show acc.length + (tl y).length ≤ _; omega) (Nat.le_trans hsz2 hb5.size)).mono ?_; rintro e w6 ⟨rfl, h6, hb6, hk6⟩))
        all_goals
          have hz5 : (wr.iterAt w4.heap.size s (pos + 1)).heap.size ≤ w5.heap.size := hb5.size
          have hz0 := Lib.iterAt_size wr w4.heap.size s (pos + 1)
          have hx6 : w6.heap[w.heap.size]? = some (.cells #[.int .i64 kind, .int .i64 fn, .int .i64 rd, .int .i64 rs1, .int .i64 rs2, .int .i64 imm, .int .i64 size, .bool sg] 23 (0, 0)) := hk6 _ _ ((hb5.block _ (show w.heap.size < (wr.iterAt w4.heap.size s (pos + 1)).heap.size by omega)).trans hx2) (by simp; omega) (by intro c fz e; injection e with e1 e2 e3; exact absurd e2 (by decide))
          have hlc6 : w6.heap[lb]? = some (.cells (l.map (Value.int .i64)).toArray 3 (0, 0)) := hk6 _ _ ((hb5.block _ (show lb < (wr.iterAt w4.heap.size s (pos + 1)).heap.size by omega)).trans hlc2) (by simp; omega) (by intro c fz e; injection e with e1 e2 e3; exact absurd e2 (by decide))
          have hit6 : w6.heap[w4.heap.size]? = some (.stringIter s (pos + 1)) := hk6.iter ((hb5.block _ (show w4.heap.size < (wr.iterAt w4.heap.size s (pos + 1)).heap.size by omega)).trans hit2) (by omega)
          have hbw6 : Below w.heap.size w w6 := ((show Below w.heap.size w w5 from Below.trans (by repeat' (first | exact hbw2 | refine Below.drew ?_)) (below_mono hb5 (show w.heap.size ≤ (wr.iterAt w4.heap.size s (pos + 1)).heap.size by omega)))).trans (below_mono hb6 (by omega))
          have hlk : l.length - k - 1 = l.length - (k + 1) := by omega
          go_wp2
          go_roundw
          case rel =>
            refine ⟨pos + 1, k + 1, acc ++ tl y, _, by omega, by omega, rfl, ?_, ?_, hit6, hx6, .inr ⟨lb, rfl, hlb, hlc6⟩, hbw6, HR1, HK2, by simp; omega⟩
            · intro hlt
              rw [if_neg (by omega)]
              rfl
            · rw [Lib.byteCells_append]; exact Or.inr h6
          case measure =>
            simp only [World.iterPos, hit6, hit]
            omega
      · have hne : ((c.toNat : Int) != 37) = true := by
          rw [bne_iff_ne]; intro e; apply h37
          exact UInt8.toNat_inj.1 (by simp; omega)
        have HR1 := Lib.hid (show (acc ++ [c]) ++ renderL tl (s.data.toList.drop (pos + 1)) (l.drop k) = ln by rw [← HR.out, hds, renderL_sign _ _ _ _ h37]; simp)
        have HK2 := Lib.hid (show (List.filter (fun x => decide (x = 37)) (List.drop (pos + 1) s.data.toList)).length = l.length - k by have := HK.out; rw [hds] at this; simpa [h37] using this)
        clear HK HR hds h37
        go_wp2_with (go_at_call 28; refine (WriteRune_k b b _ c.toNat (by omega) (by omega) _ hI2 (by rw [Lib.byteCells_length]; omega) hsz2).mono ?_)
        rintro e W1 ⟨rfl, h1, b1, k1⟩
        go_wp2
        go_roundw
        case rel =>
          refine ⟨pos + 1, k, acc ++ [c], ap, by omega, hk, rfl, hap, ?_, k1.iter hit2 (by omega), ?_, ?_, hbw2.trans (below_mono b1 (by omega)), HR1, HK2, by simp; omega⟩
          · rw [Lib.byteCells_append]; exact Or.inr h1
          · exact k1 _ _ hx2 (by simp; omega) (by intro c fz e; injection e with e1 e2 e3; exact absurd e2 (by decide))
          · rcases hA with hA | ⟨lb, rfl, hlt, hlc⟩
            · exact .inl hA
            · exact .inr ⟨lb, rfl, hlt, k1 _ _ ((Lib.iterAt_other wr _ _ s _ (by omega)).trans hlc) (by simp; omega) (by intro c fz e; injection e with e1 e2 e3; exact absurd e2 (by decide))⟩
        case measure =>
          simp only [World.iterPos, k1.iter hit2 (by omega), hit]
          omega
    · have hnx : ∀ ty, (Instr.next (.pointer (some ⟨w4.heap.size, 0, none⟩)) true ty).run Tryz.prog wr = _ := fun ty => Lib.run_next_end_at wr w4.heap.size s pos ty hit hpl
      have hfin : acc = ln := by
        have := HR.out
        rw [List.drop_eq_nil_of_le (by simpa using (show s.size ≤ pos by omega))] at this
        simpa [renderL] using this
      subst hfin
      go_wp2_with (go_at_call 30; refine (Tryz.Builder_String_any_k b b acc _ hI (by omega)).mono ?_)
      rintro e W1 ⟨rfl, _, b1, _⟩
      go_wp2
      go_ret2
      exact ⟨rfl, hbw.trans (below_mono b1 (by omega))⟩

/-- `Line(i)`'s text. -/
def lineB (i : Ins) : ByteArray := if (encodeOf i).isSome then ⟨(lineL i).toArray⟩ else ⟨#[]⟩

theorem Line_any (i : Ins) (hi : i.wf) (w : World) (hw : Env w) : Calls Tryz.prog 10 #[i.val] w fun e w' => e = .returned (.tuple #[.string (lineB i), .bool (encodeOf i).isSome]) ∧ Below w.heap.size w w' := by
  unfold lineB
  cases h : encodeOf i with
  | none => exact Line_no i w h
  | some x =>
    obtain ⟨kind, fn, rd, rs1, rs2, imm, size, sg⟩ := i
    exact Line_yes kind fn rd rs1 rs2 imm size sg x w hw hi h
end Go.Proofs.YtmklpjelfonilaaGreatDoor
