/- AsmJoins: the walk. -/
import Derived.Test.YtmklpjelfonilaaGreatDoorJ1
import Derived.Deep.CutBlock
namespace Go.Proofs.YtmklpjelfonilaaGreatDoor
open Go.RowKit
attribute [local go_sem] alloc_drewN setCell_drewN wext_size wext_drewN wext_drew wext_setCell wext_cell wext_frozen wext_wext lt_e1 lt_e2 lt_e3 lt_e4 lt_e5 lt_e6
set_option linter.unusedVariables false
set_option linter.unusedSimpArgs false

theorem wpList_unguard {P : Program} {ops : Array Oper} {rest : List Oper} {o : Oper} {a : Act} {Q : Exit → Act → World → Prop} {w : World} (hw : Region.wanted o (yielded ops a.tmps) = true)
    (h : wpList P ops Q ({ o with guard := none } :: rest) a w) : wpList P ops Q (o :: rest) a w := by
  unfold wpList at h ⊢
  rw [if_pos hw]
  rw [if_pos (by simp [Region.wanted])] at h
  exact h

theorem run_append_noneF {w : World} (base t ty e : Nat) (i : TypeInfo) (size : Nat) (ht : Tryz.prog.underlying t = some (.slice e)) (hi : Tryz.prog.info? e = some i)
    (v : Value) (n : Nat) (xs : List Value) (hown : w.ownsRowF base e size v n xs) :
    (Builtin.append_ #[t, t] ty #[v, .slice none 0 0]).run Tryz.prog w = .ok v w := by
  rcases hown.2 with ⟨rfl, rfl⟩ | ⟨g, cap, cur, fz, rfl, _, _, _, hnc, _⟩
  · simp [Builtin.append_, run_underlying ht, sizeOf, typeInfo, hi, Builtin.lenOf, Builtin.firstCells]
  · simp [Builtin.append_, run_underlying ht, sizeOf, typeInfo, hi, Builtin.lenOf, Builtin.firstCells, hnc, storeCells]

/-- 'append(v, y...)' of two own slices of bytes. -/
theorem wpAppB {ops : Array Oper} {rest : List Oper} {o : Oper} {a : Act} {Q : Exit → Act → World → Prop} {w : World} (hw : Region.wanted o (yielded ops a.tmps) = true) (s x : Operand)
    (ho : o.op = .call { callee := .builtin .append, args := #[s, x], argTypes := #[38, 38] }) (B : Nat) (v : Value) (acc xs : List Int) (hs : a.eval s = v) (hown : w.ownsRowF B 5 1 v acc.length (acc.map (Value.int .u8)))
    (y : Value) (B2 : Nat) (hx : a.eval x = y) (hy : w.ownsRowF B2 5 1 y xs.length (xs.map (Value.int .u8))) (hlen : acc.length + xs.length ≤ 1099511627776) (hB : B ≤ w.heap.size)
    (h : ∀ v' w', w'.ownsRowF B 5 1 v' (acc ++ xs).length ((acc ++ xs).map (Value.int .u8)) → w.grownBy w' v.ownBlock → wpList Tryz.prog ops Q rest (a.put o.dst v') w') :
    wpList Tryz.prog ops Q (o :: rest) a w := by
  refine wpList_unguard hw ?_
  obtain ⟨i0, hi, hz0, hz1, hz2⟩ := info_parts infoByte
  rcases row_viewB hy with ⟨rfl, h0⟩ | ⟨g, cap, rfl, _, h1, hc⟩
  · have hxs : xs = [] := List.eq_nil_of_length_eq_zero h0
    subst hxs
    refine wpList_plain rfl fun K hK => ?_
    have hrun := run_append_noneF (w := w) B 38 o.type 5 i0 1 Tryz.underlying38 hi v acc.length _ hown
    unfold Oper.wp
    simp [execOp, ho, resolve, invoke, builtin, hs, hx, hrun, Result.andThen]
    refine hK _ _ (h v w (by simpa using hown) ?_)
    exact ⟨rfl, rfl, rfl, Nat.le_refl _, fun k hk _ => rfl⟩
  · refine wpList_append_ownF _ rfl s x 38 ho B 5 i0 (.int .u8 0) 1 1 Tryz.underlying38 hi hz0 hz1 hz2 rfl (by decide) v acc.length _ hs hown ⟨g, 0, none⟩ xs.length cap (xs.map (Value.int .u8)) hx (by simp) ?c1 ?c2 ?c3 ?c4 hB ?c6
    case c1 =>
      intro k u hk
      rw [show (⟨g, 0, none⟩ : Addr).add k = ⟨g, k, none⟩ from by unfold Addr.add; split <;> simp_all]
      exact hc k u hk
    case c2 => intro u hu; obtain ⟨b, _, rfl⟩ := List.mem_map.1 hu; rfl
    case c3 => unfold maxLen; omega
    case c4 => omega
    case c6 =>
      intro v' w2 h1 h2 _
      exact h v' w2 (by simpa using h1) h2

/-- One text's slice of instructions: its k-th. -/
theorem insl_at {w : World} {ao : Option Addr} {is : List Ins} (h : is = [] ∨ ∃ g o, ao = some ⟨g, o, none⟩ ∧ g < w.heap.size ∧ ∀ j u, (is.flatMap Ins.cells)[j]? = some u → w.cell? ⟨g, o + j, none⟩ = some u) {k : Nat} (hk : k < is.length) :
    ∃ g o, ao = some ⟨g, o, none⟩ ∧ g < w.heap.size ∧ ∀ j u, (is.flatMap Ins.cells)[j]? = some u → w.cell? ⟨g, o + j, none⟩ = some u := by
  rcases h with rfl | h
  · simp at hk
  · exact h

def lineEnd : ByteArray := ⟨#[10]⟩
theorem lineB_text {i : Ins} (h : (encodeOf i).isSome = true) : (lineB i).data.toList = lineL i := by rw [lineB_some h]; simp [mkB]
theorem toList_add (a b : ByteArray) : (a ++ b).data.toList = a.data.toList ++ b.data.toList := by simp [ByteArray.data_append]

set_option maxHeartbeats 6400000 in
set_option maxRecDepth 1000000 in
theorem AsmJoins_any (va vb : Value) (is js : List Ins) (wrong : Bool) (w : World) (ha : InsSl w va is) (hb : InsSl w vb js) (haw : ∀ i ∈ is, i.wf) (hbw : ∀ i ∈ js, i.wf) (hla : is.length ≤ 9223372036854775807) (hlb : js.length ≤ 9223372036854775807) (hw : Env w) (hm : MaxL w) :
    Calls Tryz.prog 7 #[va, vb, .bool wrong] w fun e w' => e = .returned (.bool true) ∧ Below w.heap.size w w' := by
  obtain ⟨ao, ca, rfl, ha⟩ := ha
  obtain ⟨bo, cb, rfl, hb⟩ := hb
  have HA := Lib.hid ha
  have HB := Lib.hid hb
  have HAW := Lib.hid haw
  have HBW := Lib.hid hbw
  have hE := Lib.hid (fun w' (h : Below w.heap.size w w') => hw.below h)
  have hM := Lib.hid (fun w' (h : Below w.heap.size w w') => hm.below h)
  clear ha hb haw hbw
  go_enter Tryz.func7, Tryz.ntmps7
  go_upto_block 0 with fail
  go_cut [7, 8] (fun v7 v8 wx => ∃ (s : ByteArray) (n : Int), v7 = .string s ∧ s.size ≤ 16004000 ∧ v8 = .int .i64 n ∧ 0 ≤ n ∧ n ≤ 4000 ∧ Below w.heap.size w wx ∧ Hid (s.data.toList = srcL (is.take 4000) ∧ n = ((okOf (is.take 4000)).length : Int)))
  case first =>
    go_wp2_with fail
    go_loopw [7, 8, 9] (fun v7 v8 v9 wr => ∃ (k : Nat) (s : ByteArray) (n : Int), k ≤ is.length ∧ k ≤ 4000 ∧ v7 = .string s ∧ v8 = .int .i64 n ∧ v9 = .int .i64 (k : Int) ∧ 0 ≤ n ∧ n ≤ (k : Int) ∧ Below w.heap.size w wr ∧ s.size ≤ 4001 * k ∧ Hid (s.data.toList = srcL (is.take k) ∧ n = ((okOf (is.take k)).length : Int))) (fun v7 v8 v9 wr => 4000 - (intOf v9).toNat)
    case atStart => exact ⟨0, _, _, by omega, by omega, rfl, rfl, rfl, by omega, by omega, Below.refl _ _, by decide, Lib.hid ⟨by simp [srcL, okOf, joinL], by simp [okOf]⟩⟩
    case round =>
      obtain ⟨k, s, n, hk, hk4, rfl, rfl, rfl, hn0, hn1, hbr, hss, HT⟩ := hrel
      have hzr := hbr.size
      have hexit : ¬ (k < is.length ∧ k < 4000) → is.take k = is.take 4000 := by
        intro h
        by_cases h1 : k < is.length
        · rw [show k = 4000 from by omega]
        · rw [List.take_of_length_le (by omega), List.take_of_length_le (by omega)]
      by_cases hkl : k < is.length
      · have hd : decide ((k : Int) < (is.length : Int)) = true := decide_eq_true (by omega)
        have hd1 : decide (k < is.length) = true := decide_eq_true hkl
        by_cases hk4l : k < 4000
        · have hd2 : decide ((k : Int) < 4000) = true := decide_eq_true (by omega)
          obtain ⟨g, o, rfl, hg, hc⟩ := insl_at HA.out hkl
          obtain ⟨i, hi⟩ : ∃ i, is[k]? = some i := ⟨_, List.getElem?_eq_getElem hkl⟩
          have hiw := HAW.out i (List.mem_of_getElem? hi)
          have hL := fun w hw => Line_any i hiw w hw
          have hsr := src_step hi
          have hok := ok_step hi
          have hlz := lineB_size i hiw
          have hlt := fun h => lineB_text (i := i) h
          obtain ⟨kind, fn, rd, rs1, rs2, imm, size, sg⟩ := i
          obtain ⟨c0, c1, c2, c3, c4, c5, c6, c7⟩ := ins_cells_at (fun j u h => (hbr.cell (p := ⟨g, o + j, none⟩) hg).trans (hc j u h)) hi
          unfold Ins.val at hL
          generalize lineB ⟨kind, fn, rd, rs1, rs2, imm, size, sg⟩ = lb at hL hlz hlt
          generalize lineL ⟨kind, fn, rd, rs1, rs2, imm, size, sg⟩ = ll at hsr hlt
          generalize encodeOf ⟨kind, fn, rd, rs1, rs2, imm, size, sg⟩ = en at hL hsr hok hlt
          have hL2 := Lib.hid hL
          clear hi hc hL hexit
          cases en with
          | none =>
            have HT2 := Lib.hid (show s.data.toList = srcL (is.take (k + 1)) ∧ n = ((okOf (is.take (k + 1))).length : Int) by rw [hsr.1 rfl, hok.1 rfl]; exact HT.out)
            clear hsr hok hlt HT
            go_wp2_with (go_at_call 10; refine (hL2.out _ (hE.out _ hbr)).mono ?_; rintro e w1 ⟨rfl, hb1⟩)
            go_roundw
            case rel => exact ⟨k + 1, s, n, by omega, by omega, rfl, rfl, by go_num, hn0, by omega, hbr.trans (below_mono hb1 hzr), by omega, HT2⟩
            case measure => simp [intOf]; omega
          | some x =>
            obtain ⟨s1, hs1⟩ : ∃ s1, s ++ lb = s1 := ⟨_, rfl⟩
            obtain ⟨s2, hs2⟩ : ∃ s2, s1 ++ lineEnd = s2 := ⟨_, rfl⟩
            have hz1 : s1.size = s.size + lb.size := by rw [← hs1]; exact ByteArray.size_append
            have hz2 : s2.size = s1.size + 1 := by rw [← hs2]; exact ByteArray.size_append
            have hadd1 : ∀ W, (Op.stringOp .add s lb).run Tryz.prog W = .ok (.string s1) W := fun W => by rw [run_string_add_sum W _ _ (by omega), hs1]
            have hadd2 : ∀ W, (Op.stringOp .add s1 ⟨#[10]⟩).run Tryz.prog W = .ok (.string s2) W := fun W => by rw [run_string_add_sum W _ _ (by show s1.size + 1 ≤ _; omega), ← hs2]; rfl
            have HT2 := Lib.hid (show s2.data.toList = srcL (is.take (k + 1)) ∧ n + 1 = ((okOf (is.take (k + 1))).length : Int) by
              rw [hsr.2 rfl, hok.2 rfl, ← hs2, ← hs1, toList_add, toList_add, HT.out.1, hlt rfl, HT.out.2]
              exact ⟨rfl, by simp⟩)
            clear hsr hok hlt HT hs1 hs2
            go_wp2_with (go_at_call 10; refine (hL2.out _ (hE.out _ hbr)).mono ?_; rintro e w1 ⟨rfl, hb1⟩)
            go_roundw
            case rel => exact ⟨k + 1, s2, n + 1, by omega, by omega, rfl, by go_num, by go_num, by omega, by omega, hbr.trans (below_mono hb1 hzr), by omega, HT2⟩
            case measure => simp [intOf]; omega
        · have hd2 : decide ((k : Int) < 4000) = false := decide_eq_false (by omega)
          rw [hexit (by omega)] at HT
          clear hexit
          go_wp2
          go_meet
          exact ⟨s, n, rfl, by omega, rfl, hn0, by omega, hbr, HT⟩
      · have hd : decide ((k : Int) < (is.length : Int)) = false := decide_eq_false (by omega)
        rw [hexit (by omega)] at HT
        clear hexit
        go_wp2
        go_meet
        exact ⟨s, n, rfl, by omega, rfl, hn0, by omega, hbr, HT⟩
  case rest =>
    obtain ⟨s, n, rfl, hss, rfl, hn0, hn4, hbr, HS⟩ := hcut
    clear HA HAW
    go_upto_block 2 with fail
    go_cut [12] (fun v12 wx => ∃ (u : ByteArray), v12 = .string u ∧ u.size ≤ 16004000 ∧ Below w.heap.size w wx ∧ Hid (u.data.toList = srcL (js.take 4000)))
    case first =>
      go_wp2_with fail
      go_loopw [12, 13] (fun v12 v13 wr => ∃ (k : Nat) (u : ByteArray), k ≤ js.length ∧ k ≤ 4000 ∧ v12 = .string u ∧ v13 = .int .i64 (k : Int) ∧ Below w.heap.size w wr ∧ u.size ≤ 4001 * k ∧ Hid (u.data.toList = srcL (js.take k))) (fun v12 v13 wr => 4000 - (intOf v13).toNat)
      case atStart => exact ⟨0, _, by omega, by omega, rfl, rfl, hbr, by decide, Lib.hid (by simp [srcL, okOf, joinL])⟩
      case round =>
        clear hbr
        obtain ⟨k, u, hk, hk4, rfl, rfl, hbr, hus, HT⟩ := hrel
        have hzr := hbr.size
        have hexit : ¬ (k < js.length ∧ k < 4000) → js.take k = js.take 4000 := by
          intro h
          by_cases h1 : k < js.length
          · rw [show k = 4000 from by omega]
          · rw [List.take_of_length_le (by omega), List.take_of_length_le (by omega)]
        by_cases hkl : k < js.length
        · have hd : decide ((k : Int) < (js.length : Int)) = true := decide_eq_true (by omega)
          have hd1 : decide (k < js.length) = true := decide_eq_true hkl
          by_cases hk4l : k < 4000
          · have hd2 : decide ((k : Int) < 4000) = true := decide_eq_true (by omega)
            obtain ⟨g, o, rfl, hg, hc⟩ := insl_at HB.out hkl
            obtain ⟨i, hi⟩ : ∃ i, js[k]? = some i := ⟨_, List.getElem?_eq_getElem hkl⟩
            have hiw := HBW.out i (List.mem_of_getElem? hi)
            have hL := fun w hw => Line_any i hiw w hw
            have hsr := src_step hi
            have hok := ok_step hi
            have hlz := lineB_size i hiw
            have hlt := fun h => lineB_text (i := i) h
            obtain ⟨kind, fn, rd, rs1, rs2, imm, size, sg⟩ := i
            obtain ⟨c0, c1, c2, c3, c4, c5, c6, c7⟩ := ins_cells_at (fun j u h => (hbr.cell (p := ⟨g, o + j, none⟩) hg).trans (hc j u h)) hi
            unfold Ins.val at hL
            generalize lineB ⟨kind, fn, rd, rs1, rs2, imm, size, sg⟩ = lb at hL hlz hlt
            generalize lineL ⟨kind, fn, rd, rs1, rs2, imm, size, sg⟩ = ll at hsr hlt
            generalize encodeOf ⟨kind, fn, rd, rs1, rs2, imm, size, sg⟩ = en at hL hsr hok hlt
            have hL2 := Lib.hid hL
            clear hi hc hL hexit
            cases en with
            | none =>
              have HT2 := Lib.hid (show u.data.toList = srcL (js.take (k + 1)) by rw [hsr.1 rfl]; exact HT.out)
              clear hsr hok hlt HT
              go_wp2_with (go_at_call 10; refine (hL2.out _ (hE.out _ hbr)).mono ?_; rintro e w1 ⟨rfl, hb1⟩)
              go_roundw
              case rel => exact ⟨k + 1, u, by omega, by omega, rfl, by go_num, hbr.trans (below_mono hb1 hzr), by omega, HT2⟩
              case measure => simp [intOf]; omega
            | some x =>
              obtain ⟨s1, hs1⟩ : ∃ s1, u ++ lb = s1 := ⟨_, rfl⟩
              obtain ⟨s2, hs2⟩ : ∃ s2, s1 ++ lineEnd = s2 := ⟨_, rfl⟩
              have hz1 : s1.size = u.size + lb.size := by rw [← hs1]; exact ByteArray.size_append
              have hz2 : s2.size = s1.size + 1 := by rw [← hs2]; exact ByteArray.size_append
              have hadd1 : ∀ W, (Op.stringOp .add u lb).run Tryz.prog W = .ok (.string s1) W := fun W => by rw [run_string_add_sum W _ _ (by omega), hs1]
              have hadd2 : ∀ W, (Op.stringOp .add s1 ⟨#[10]⟩).run Tryz.prog W = .ok (.string s2) W := fun W => by rw [run_string_add_sum W _ _ (by show s1.size + 1 ≤ _; omega), ← hs2]; rfl
              have HT2 := Lib.hid (show s2.data.toList = srcL (js.take (k + 1)) by
                rw [hsr.2 rfl, ← hs2, ← hs1, toList_add, toList_add, HT.out, hlt rfl]; rfl)
              clear hsr hok hlt HT hs1 hs2
              go_wp2_with (go_at_call 10; refine (hL2.out _ (hE.out _ hbr)).mono ?_; rintro e w1 ⟨rfl, hb1⟩)
              go_roundw
              case rel => exact ⟨k + 1, s2, by omega, by omega, rfl, by go_num, hbr.trans (below_mono hb1 hzr), by omega, HT2⟩
              case measure => simp [intOf]; omega
          · have hd2 : decide ((k : Int) < 4000) = false := decide_eq_false (by omega)
            rw [hexit (by omega)] at HT
            clear hexit
            go_wp2
            go_meet
            exact ⟨u, rfl, by omega, hbr, HT⟩
        · have hd : decide ((k : Int) < (js.length : Int)) = false := decide_eq_false (by omega)
          rw [hexit (by omega)] at HT
          clear hexit
          go_wp2
          go_meet
          exact ⟨u, rfl, by omega, hbr, HT⟩
    case rest =>
      clear hbr HB HBW
      obtain ⟨u, rfl, hus, hbr, HU⟩ := hcut
      obtain ⟨A, hA⟩ : ∃ A, is.take 4000 = A := ⟨_, rfl⟩
      obtain ⟨B, hB⟩ : ∃ B, js.take 4000 = B := ⟨_, rfl⟩
      have hAl : A.length ≤ 4000 := by rw [← hA]; simp; omega
      have hBl : B.length ≤ 4000 := by rw [← hB]; simp; omega
      rw [hA] at HS
      rw [hB] at HU
      clear hA hB hla hlb
      have hsA := HS.out.1
      have hn := HS.out.2
      have hsB := HU.out
      obtain ⟨z, hz⟩ : ∃ z, s ++ u = z := ⟨_, rfl⟩
      have hsz : z.data.toList = srcL (A ++ B) := by rw [← hz, toList_add, hsA, hsB, src_append]
      have hzz : z.size ≤ 32008000 := by rw [← hz, ByteArray.size_append]; omega
      have hadd1 : ∀ W, (Op.stringOp .add s u).run Tryz.prog W = .ok (.string z) W := fun W => by rw [run_string_add_sum W _ _ (by omega), hz]
      have hA1 := fun w hw hm => Assemble_any s w (by omega) (by rw [hsA]; exact src_short A (by omega)) hw hm
      have hA2 := fun w hw hm => Assemble_any u w (by omega) (by rw [hsB]; exact src_short B (by omega)) hw hm
      have hA3 := fun w hw hm => Assemble_any z w (by omega) (by rw [hsz]; exact src_short (A ++ B) (by simp; omega)) hw hm
      rw [hsA, src_asmB A (by omega), src_asmW A (by omega)] at hA1
      rw [hsB, src_asmB B (by omega), src_asmW B (by omega)] at hA2
      rw [hsz, src_asmB (A ++ B) (by simp; omega), src_asmW (A ++ B) (by simp; omega), bin_append] at hA3
      have hxl := bin_length A
      have hyl := bin_length B
      have hokA := okOf_length A
      have hokB := okOf_length B
      obtain ⟨na, hna⟩ : ∃ na, (okOf A).length = na := ⟨_, rfl⟩
      rw [hna] at hn hxl hokA
      obtain ⟨s1, hs1⟩ : ∃ s1, s ++ (⟨#[97, 100, 100, 105, 32, 120, 49, 44, 120, 50, 44, 51, 10]⟩ : ByteArray) = s1 := ⟨_, rfl⟩
      obtain ⟨s2, hs2⟩ : ∃ s2, s1 ++ u = s2 := ⟨_, rfl⟩
      have hz1 : s1.size = s.size + 13 := by rw [← hs1]; exact ByteArray.size_append
      have hz2 : s2.size = s1.size + u.size := by rw [← hs2]; exact ByteArray.size_append
      have hadd2 : ∀ W, (Op.stringOp .add s ⟨#[97, 100, 100, 105, 32, 120, 49, 44, 120, 50, 44, 51, 10]⟩).run Tryz.prog W = .ok (.string s1) W := fun W => by rw [run_string_add_sum W _ _ (by show s.size + 13 ≤ _; omega), hs1]
      have hadd3 : ∀ W, (Op.stringOp .add s1 u).run Tryz.prog W = .ok (.string s2) W := fun W => by rw [run_string_add_sum W _ _ (by omega), hs2]
      have hsw : s2.data.toList = srcL A ++ (wrongLine ++ [10]) ++ srcL B := by rw [← hs2, ← hs1, toList_add, toList_add, hsA, hsB]; rfl
      have hA4 := fun w hw hm => Assemble_any s2 w (by omega) (by rw [hsw]; exact wrong_short A B) hw hm
      rw [hsw, wrong_asmB A B (by omega), wrong_asmW A B (by omega), hna, ← hn] at hA4
      generalize binL A = xA at hA1 hA3 hxl
      generalize binL B = xB at hA2 hA3 hyl
      have hxA : xA.length ≤ 16000 := by omega
      have hxB : xB.length ≤ 16000 := by omega
      have hA1 := Lib.hid hA1
      have hA2 := Lib.hid hA2
      have hA3 := Lib.hid hA3
      have hA4 := Lib.hid hA4
      have hAw := Lib.hid (fun w' (h : Below w.heap.size w w') => awake_any w' (hw.below h) (hm.below h))
      clear HS HU hsA hn hsB hz hsz hs1 hs2 hsw hna hxl hyl hokA hokB
      go_upto_region 20 with (first
        | (go_at_call 18; refine (hA1.out _ (hE.out _ hbr) (hM.out _ hbr)).mono ?_; rintro e w1 ⟨v1, rfl, hO1, hb1⟩; have hbr1 := hbr.trans (below_mono hb1 hbr.size); clear hA1)
        | (go_at_call 18; refine (hA2.out _ (hE.out _ hbr1) (hM.out _ hbr1)).mono ?_; rintro e w2 ⟨v2, rfl, hO2, hb2⟩; have hbr2 := hbr1.trans (below_mono hb2 hbr1.size); clear hA2)
        | (go_at_call 18; refine (hA3.out _ (hE.out _ hbr2) (hM.out _ hbr2)).mono ?_; rintro e w3 ⟨v3, rfl, hO3, hb3⟩; have hbr3 := hbr2.trans (below_mono hb3 hbr2.size); clear hA3))
      have hP1 := own_below (own_below hO1 hb2) hb3
      have hP2 := own_below hO2 hb3
      obtain ⟨a1, c1, rfl, _⟩ := row_slice hP1
      obtain ⟨a2, c2, rfl, _⟩ := row_slice hP2
      obtain ⟨a3, c3, rfl, _⟩ := row_slice hO3
      clear hO1 hO2 hb1 hb2 hb3
      go_upto_region 22 with (first
        | (at_builtin; refine wpAppB (by rfl) _ _ rfl w3.heap.size _ [] xA rfl ⟨rfl, .inl ⟨rfl, rfl⟩⟩ _ _ rfl hP1 (by simp; omega) (Nat.le_refl _) ?_; intro v4 w4 hO4 hg4; have hb4 := Lib.hid ((Below.refl w3.heap.size w3).grown hg4 (Nat.le_refl _) (fun k hk => by cases hk)))
        | (at_builtin; refine wpAppB (by rfl) _ _ rfl w3.heap.size _ xA xB rfl hO4 _ _ rfl (own_below hP2 hb4.out) (by omega) hb4.out.size ?_; intro v5 w5 hO5 hg5; have hb5 := Lib.hid (hb4.out.grown hg5 hb4.out.size (fun j hj => (hO4.lt j hj).1)); have hz5 := Lib.hid (show BytSl w5 (.slice a3 (xA.length + xB.length) c3) (xA ++ xB) by (rw [← List.length_append]; exact (BytSl.of_own hO3).below hb5.out)); have hv5 := Lib.hid (BytSl.of_own hO5); have HBR := Lib.hid (hbr3.trans (below_mono hb5.out hbr3.size)))
        | (go_at_call 20; (with_reducible refine (SameBytes_any _ _ _ _ _ hz5.out hv5.out (by simp; omega) (by simp; omega)).mono ?_); rintro e w6 ⟨rfl, hb6⟩; have HB6 := Lib.hid (HBR.out.trans (below_mono hb6 HBR.out.size))))
      clear hP1 hP2 hO3 hO4 hg4 hO5 hg5 hb4 hb5 hz5 hv5 HBR hb6
      cases wrong with
      | false =>
        go_wp2_with (go_at_call 12; refine (hAw.out _ HB6.out).mono ?_; rintro e w7 ⟨rfl, hb7⟩)
        go_ret
        exact ⟨rfl, HB6.out.trans (below_mono hb7 HB6.out.size)⟩
      | true =>
        have hn1 : (n + 1 == n + 1) = true := by simp
        go_upto_region 24 with (go_at_call 18; (with_reducible refine (hA4.out _ (hE.out _ HB6.out) (hM.out _ HB6.out)).mono ?_); rintro e w7 ⟨v7, rfl, hO7, hb7⟩; have HB7 := Lib.hid (HB6.out.trans (below_mono hb7 HB6.out.size)))
        obtain ⟨a7, c7, rfl, _⟩ := row_slice hO7
        clear hO7 hb7
        go_wp2_with (go_at_call 12; refine (hAw.out _ HB7.out).mono ?_; rintro e w8 ⟨rfl, hb8⟩)
        go_ret
        exact ⟨rfl, HB7.out.trans (below_mono hb8 HB7.out.size)⟩
end Go.Proofs.YtmklpjelfonilaaGreatDoor
