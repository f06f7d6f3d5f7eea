/- Package inst, writing: encode and Encode: what they return, for every instruction. -/
import Derived.Test.YtmklpjelfonilaaGreatDoorA10
import Derived.Test.YtmklpjelfonilaaGreatDoorA11
import Derived.Test.YtmklpjelfonilaaGreatDoorA8z
namespace Go.Proofs.YtmklpjelfonilaaGreatDoor
open Go.RowKit
attribute [local go_sem] alloc_drewN setCell_drewN wext_size wext_drewN wext_drew wext_setCell wext_cell wext_frozen wext_wext
set_option linter.unusedVariables false
set_option linter.unusedSimpArgs false

set_option maxRecDepth 100000 in
set_option maxHeartbeats 1600000 in
theorem enc_8 (fn rd rs1 rs2 imm size : Int) (sg : Bool) (w : World) :
    Calls Tryz.prog 43 #[Ins.val ⟨8, fn, rd, rs1, rs2, imm, size, sg⟩] w fun e w' => e = .returned (.int .u32 (bits .or .u32 (encRegOf fn) (bits .or .u32 (bits .or .u32 (putOf rd 11 7) (putOf rs1 19 15)) (putOf rs2 24 20)))) ∧ Below w.heap.size w w' := by
  unfold Ins.val
  go_enter Tryz.func43, Tryz.ntmps43
  go_wp2_with fail
  go_quiet ((go_at_call 64; exact quiet_l (put_any _ _ _ _ (by omega) (by omega) (by omega))))
  go_wp2_with (go_at_call 67; refine (encReg_any ⟨8, fn, rd, rs1, rs2, imm, size, sg⟩ _).mono ?_; rintro e w1 ⟨rfl, hb⟩; obtain ⟨os1, d1, rfl⟩ := wext_of_below hb; clear hb)
  go_ret
  exact ⟨rfl, by repeat' (first | (with_reducible exact Below.refl _ _) | (with_reducible assumption) | (with_reducible refine below_drewN ?_ _) | (with_reducible refine Below.alloc ?_ ?_ _) | (with_reducible refine Below.drew ?_) | (with_reducible refine below_wext ?_ _ _ ?_) | (with_reducible refine Below.setCell ?_ ?_ _) | (simp only [World.size_alloc, World.size_setCell, World.size_drew, wext_size]; omega) | go_size)⟩

/-- `encode(i)`. -/
def encP (kind fn rd rs1 rs2 imm size : Int) (sg : Bool) : Int :=
    if kind = 1 then bits .or .u32 (bits .or .u32 (55) (bits .or .u32 (bits .or .u32 (putOf rd 11 7) (putOf rs1 19 15)) (putOf rs2 24 20))) (putOf (imm / 4096) 31 12)
    else if kind = 2 then bits .or .u32 (bits .or .u32 (23) (bits .or .u32 (bits .or .u32 (putOf rd 11 7) (putOf rs1 19 15)) (putOf rs2 24 20))) (putOf (imm / 4096) 31 12)
    else if kind = 3 then bits .or .u32 (bits .or .u32 (bits .or .u32 (bits .or .u32 (bits .or .u32 (111) (bits .or .u32 (bits .or .u32 (putOf rd 11 7) (putOf rs1 19 15)) (putOf rs2 24 20))) (putOf (imm / 1048576) 31 31)) (putOf (imm / 4096) 19 12)) (putOf (imm / 2048) 20 20)) (putOf (imm / 2) 30 21)
    else if kind = 4 then bits .or .u32 (bits .or .u32 (103) (bits .or .u32 (bits .or .u32 (putOf rd 11 7) (putOf rs1 19 15)) (putOf rs2 24 20))) (putOf imm 31 20)
    else if kind = 5 then bits .or .u32 (bits .or .u32 (bits .or .u32 (bits .or .u32 (bits .or .u32 (bits .or .u32 (99) (bits .or .u32 (bits .or .u32 (putOf rd 11 7) (putOf rs1 19 15)) (putOf rs2 24 20))) (putOf (Lib.idxOf [1, 2, 0, 0, 3, 4, 5, 6] fn) 14 12)) (putOf (imm / 4096) 31 31)) (putOf (imm / 2048) 7 7)) (putOf (imm / 32) 30 25)) (putOf (imm / 2) 11 8)
    else if kind = 6 then bits .or .u32 (bits .or .u32 (bits .or .u32 (3) (bits .or .u32 (bits .or .u32 (putOf rd 11 7) (putOf rs1 19 15)) (putOf rs2 24 20))) (putOf (if sg then Lib.idxOf [1, 2, 4, 8] size else Lib.idxOf [1, 2, 4, 8] size + 4) 14 12)) (putOf imm 31 20)
    else if kind = 7 then bits .or .u32 (bits .or .u32 (bits .or .u32 (bits .or .u32 (35) (bits .or .u32 (bits .or .u32 (putOf rd 11 7) (putOf rs1 19 15)) (putOf rs2 24 20))) (putOf (Lib.idxOf [1, 2, 4, 8] size) 14 12)) (putOf (imm / 32) 31 25)) (putOf imm 11 7)
    else if kind = 9 then bits .or .u32 (encImmOf ⟨9, fn, rd, rs1, rs2, imm, size, sg⟩) (bits .or .u32 (bits .or .u32 (putOf rd 11 7) (putOf rs1 19 15)) (putOf rs2 24 20))
    else if kind = 8 then bits .or .u32 (encRegOf fn) (bits .or .u32 (bits .or .u32 (putOf rd 11 7) (putOf rs1 19 15)) (putOf rs2 24 20))
    else if kind = 10 then 15
    else if kind = 11 then 115
    else if kind = 12 then 1048691
    else if kind = 18 then 270532723
    else if kind = 19 then 273678451
    else if kind = 20 then bits .or .u32 (301990003) (bits .or .u32 (bits .or .u32 (putOf rd 11 7) (putOf rs1 19 15)) (putOf rs2 24 20))
    else if kind = 13 then bits .or .u32 (bits .or .u32 (bits .or .u32 (115) (bits .and .u32 (bits .or .u32 (bits .or .u32 (putOf rd 11 7) (putOf rs1 19 15)) (putOf rs2 24 20)) 1048575)) (putOf fn 13 12)) (putOf imm 31 20)
    else if kind = 14 then bits .or .u32 (bits .or .u32 (bits .or .u32 (16499) (bits .and .u32 (bits .or .u32 (bits .or .u32 (putOf rd 11 7) (putOf rs1 19 15)) (putOf rs2 24 20)) 1048575)) (putOf fn 13 12)) (putOf imm 31 20)
    else if kind = 15 then bits .or .u32 (bits .or .u32 (268435503) (bits .or .u32 (bits .or .u32 (putOf rd 11 7) (putOf rs1 19 15)) (putOf rs2 24 20))) (putOf (Lib.idxOf [4, 8] size + 2) 14 12)
    else if kind = 16 then bits .or .u32 (bits .or .u32 (402653231) (bits .or .u32 (bits .or .u32 (putOf rd 11 7) (putOf rs1 19 15)) (putOf rs2 24 20))) (putOf (Lib.idxOf [4, 8] size + 2) 14 12)
    else if kind = 17 then bits .or .u32 (bits .or .u32 (bits .or .u32 (47) (bits .or .u32 (bits .or .u32 (putOf rd 11 7) (putOf rs1 19 15)) (putOf rs2 24 20))) (putOf (Lib.idxOf [4, 8] size + 2) 14 12)) (putOf (Lib.idxOf [2, 1, 0, 0, 3, 0, 0, 0, 5, 0, 0, 0, 4, 0, 0, 0, 6, 0, 0, 0, 7, 0, 0, 0, 8, 0, 0, 0, 9] fn) 31 27)
    else 0

def encOf (i : Ins) : Int := encP i.kind i.fn i.rd i.rs1 i.rs2 i.imm i.size i.signed

theorem encode_any (i : Ins) (w : World) : Calls Tryz.prog 43 #[i.val] w fun e w' => e = .returned (.int .u32 (encOf i)) ∧ Below w.heap.size w w' := by
  obtain ⟨kind, fn, rd, rs1, rs2, imm, size, sg⟩ := i
  show Calls Tryz.prog 43 _ w fun e w' => e = .returned (.int .u32 (encP kind fn rd rs1 rs2 imm size sg)) ∧ Below w.heap.size w w'
  unfold encP
  by_cases c1 : kind = 1
  · subst c1; rw [if_pos rfl]; exact enc_1 fn rd rs1 rs2 imm size sg w
  by_cases c2 : kind = 2
  · subst c2; rw [if_neg (by decide), if_pos rfl]; exact enc_2 fn rd rs1 rs2 imm size sg w
  by_cases c3 : kind = 3
  · subst c3; rw [if_neg (by decide), if_neg (by decide), if_pos rfl]; exact enc_3 fn rd rs1 rs2 imm size sg w
  by_cases c4 : kind = 4
  · subst c4; rw [if_neg (by decide), if_neg (by decide), if_neg (by decide), if_pos rfl]; exact enc_4 fn rd rs1 rs2 imm size sg w
  by_cases c5 : kind = 5
  · subst c5; rw [if_neg (by decide), if_neg (by decide), if_neg (by decide), if_neg (by decide), if_pos rfl]; exact enc_5 fn rd rs1 rs2 imm size sg w
  by_cases c6 : kind = 6
  · subst c6; rw [if_neg (by decide), if_neg (by decide), if_neg (by decide), if_neg (by decide), if_neg (by decide), if_pos rfl]; cases sg
    · exact enc_6_false fn rd rs1 rs2 imm size w
    · exact enc_6_true fn rd rs1 rs2 imm size w
  by_cases c7 : kind = 7
  · subst c7; rw [if_neg (by decide), if_neg (by decide), if_neg (by decide), if_neg (by decide), if_neg (by decide), if_neg (by decide), if_pos rfl]; exact enc_7 fn rd rs1 rs2 imm size sg w
  by_cases c9 : kind = 9
  · subst c9; rw [if_neg (by decide), if_neg (by decide), if_neg (by decide), if_neg (by decide), if_neg (by decide), if_neg (by decide), if_neg (by decide), if_pos rfl]; exact enc_9 fn rd rs1 rs2 imm size sg w
  by_cases c8 : kind = 8
  · subst c8; rw [if_neg (by decide), if_neg (by decide), if_neg (by decide), if_neg (by decide), if_neg (by decide), if_neg (by decide), if_neg (by decide), if_neg (by decide), if_pos rfl]; exact enc_8 fn rd rs1 rs2 imm size sg w
  by_cases c10 : kind = 10
  · subst c10; rw [if_neg (by decide), if_neg (by decide), if_neg (by decide), if_neg (by decide), if_neg (by decide), if_neg (by decide), if_neg (by decide), if_neg (by decide), if_neg (by decide), if_pos rfl]; exact enc_10 fn rd rs1 rs2 imm size sg w
  by_cases c11 : kind = 11
  · subst c11; rw [if_neg (by decide), if_neg (by decide), if_neg (by decide), if_neg (by decide), if_neg (by decide), if_neg (by decide), if_neg (by decide), if_neg (by decide), if_neg (by decide), if_neg (by decide), if_pos rfl]; exact enc_11 fn rd rs1 rs2 imm size sg w
  by_cases c12 : kind = 12
  · subst c12; rw [if_neg (by decide), if_neg (by decide), if_neg (by decide), if_neg (by decide), if_neg (by decide), if_neg (by decide), if_neg (by decide), if_neg (by decide), if_neg (by decide), if_neg (by decide), if_neg (by decide), if_pos rfl]; exact enc_12 fn rd rs1 rs2 imm size sg w
  by_cases c18 : kind = 18
  · subst c18; rw [if_neg (by decide), if_neg (by decide), if_neg (by decide), if_neg (by decide), if_neg (by decide), if_neg (by decide), if_neg (by decide), if_neg (by decide), if_neg (by decide), if_neg (by decide), if_neg (by decide), if_neg (by decide), if_pos rfl]; exact enc_18 fn rd rs1 rs2 imm size sg w
  by_cases c19 : kind = 19
  · subst c19; rw [if_neg (by decide), if_neg (by decide), if_neg (by decide), if_neg (by decide), if_neg (by decide), if_neg (by decide), if_neg (by decide), if_neg (by decide), if_neg (by decide), if_neg (by decide), if_neg (by decide), if_neg (by decide), if_neg (by decide), if_pos rfl]; exact enc_19 fn rd rs1 rs2 imm size sg w
  by_cases c20 : kind = 20
  · subst c20; rw [if_neg (by decide), if_neg (by decide), if_neg (by decide), if_neg (by decide), if_neg (by decide), if_neg (by decide), if_neg (by decide), if_neg (by decide), if_neg (by decide), if_neg (by decide), if_neg (by decide), if_neg (by decide), if_neg (by decide), if_neg (by decide), if_pos rfl]; exact enc_20 fn rd rs1 rs2 imm size sg w
  by_cases c13 : kind = 13
  · subst c13; rw [if_neg (by decide), if_neg (by decide), if_neg (by decide), if_neg (by decide), if_neg (by decide), if_neg (by decide), if_neg (by decide), if_neg (by decide), if_neg (by decide), if_neg (by decide), if_neg (by decide), if_neg (by decide), if_neg (by decide), if_neg (by decide), if_neg (by decide), if_pos rfl]; exact enc_13 fn rd rs1 rs2 imm size sg w
  by_cases c14 : kind = 14
  · subst c14; rw [if_neg (by decide), if_neg (by decide), if_neg (by decide), if_neg (by decide), if_neg (by decide), if_neg (by decide), if_neg (by decide), if_neg (by decide), if_neg (by decide), if_neg (by decide), if_neg (by decide), if_neg (by decide), if_neg (by decide), if_neg (by decide), if_neg (by decide), if_neg (by decide), if_pos rfl]; exact enc_14 fn rd rs1 rs2 imm size sg w
  by_cases c15 : kind = 15
  · subst c15; rw [if_neg (by decide), if_neg (by decide), if_neg (by decide), if_neg (by decide), if_neg (by decide), if_neg (by decide), if_neg (by decide), if_neg (by decide), if_neg (by decide), if_neg (by decide), if_neg (by decide), if_neg (by decide), if_neg (by decide), if_neg (by decide), if_neg (by decide), if_neg (by decide), if_neg (by decide), if_pos rfl]; exact enc_15 fn rd rs1 rs2 imm size sg w
  by_cases c16 : kind = 16
  · subst c16; rw [if_neg (by decide), if_neg (by decide), if_neg (by decide), if_neg (by decide), if_neg (by decide), if_neg (by decide), if_neg (by decide), if_neg (by decide), if_neg (by decide), if_neg (by decide), if_neg (by decide), if_neg (by decide), if_neg (by decide), if_neg (by decide), if_neg (by decide), if_neg (by decide), if_neg (by decide), if_neg (by decide), if_pos rfl]; exact enc_16 fn rd rs1 rs2 imm size sg w
  by_cases c17 : kind = 17
  · subst c17; rw [if_neg (by decide), if_neg (by decide), if_neg (by decide), if_neg (by decide), if_neg (by decide), if_neg (by decide), if_neg (by decide), if_neg (by decide), if_neg (by decide), if_neg (by decide), if_neg (by decide), if_neg (by decide), if_neg (by decide), if_neg (by decide), if_neg (by decide), if_neg (by decide), if_neg (by decide), if_neg (by decide), if_neg (by decide), if_pos rfl]; exact enc_17 fn rd rs1 rs2 imm size sg w
  rw [if_neg c1, if_neg c2, if_neg c3, if_neg c4, if_neg c5, if_neg c6, if_neg c7, if_neg c9, if_neg c8, if_neg c10, if_neg c11, if_neg c12, if_neg c18, if_neg c19, if_neg c20, if_neg c13, if_neg c14, if_neg c15, if_neg c16, if_neg c17]
  exact enc_x kind fn rd rs1 rs2 imm size sg w (beq_false c1) (beq_false c2) (beq_false c3) (beq_false c4) (beq_false c5) (beq_false c6) (beq_false c7) (beq_false c9) (beq_false c8) (beq_false c10) (beq_false c11) (beq_false c12) (beq_false c18) (beq_false c19) (beq_false c20) (beq_false c13) (beq_false c14) (beq_false c15) (beq_false c16) (beq_false c17)

theorem or_range (a b : Int) : 0 ≤ bits .or .u32 a b ∧ bits .or .u32 a b < 4294967296 := ⟨bits_lo_u32 _ _ _, by have := bits_hi_u32 .or a b; omega⟩
def InU32 (v : Int) : Prop := 0 ≤ v ∧ v < 4294967296
theorem inU32_ite {c : Prop} [Decidable c] {a b : Int} (ha : InU32 a) (hb : InU32 b) : InU32 (if c then a else b) := by split <;> assumption
theorem inU32_or (a b : Int) : InU32 (bits .or .u32 a b) := or_range a b
theorem encOf_range (i : Ins) : 0 ≤ encOf i ∧ encOf i < 4294967296 := by
  obtain ⟨kind, fn, rd, rs1, rs2, imm, size, sg⟩ := i
  show InU32 (encP kind fn rd rs1 rs2 imm size sg)
  unfold encP
  repeat' (refine inU32_ite ?_ ?_)
  all_goals first
    | exact inU32_or _ _
    | (unfold InU32; omega)

/-- `Encode(i)`. -/
def encodeOf (i : Ins) : Option Int := if decOf (encOf i) = some i then some (encOf i) else none

def eqB (a b : Ins) : Bool := a.kind == b.kind && (a.fn == b.fn && (a.rd == b.rd && (a.rs1 == b.rs1 && (a.rs2 == b.rs2 && (a.imm == b.imm && (a.size == b.size && (a.signed == b.signed && true)))))))
theorem eqB_iff (a b : Ins) : eqB a b = decide (a = b) := by
  obtain ⟨k, f, r, s, t, m, z, g⟩ := a
  obtain ⟨k', f', r', s', t', m', z', g'⟩ := b
  unfold eqB
  by_cases h : (⟨k, f, r, s, t, m, z, g⟩ : Ins) = ⟨k', f', r', s', t', m', z', g'⟩
  · injection h with h1 h2 h3 h4 h5 h6 h7 h8
    subst h1 h2 h3 h4 h5 h6 h7 h8
    simp
  · rw [decide_eq_false h]
    rw [Ins.mk.injEq] at h
    simp only [Bool.and_true, Bool.and_eq_false_imp, beq_iff_eq]
    simp only [not_and] at h
    intro a b c d e f g
    have := h a b c d e f g
    simpa using this

section
variable {P : Program} {d : Nat} {xs ys : Array Value} {f : Field} {fs : List Field} {a b : Value} {r s : Bool} {w : World}
theorem eqFields_step (hn : (f.name == "_") = false) (ha : (part f.type xs f.offset).run P w = .ok a w) (hb : (part f.type ys f.offset).run P w = .ok b w) (he : (Op.equalIn d f.type a b).run P w = .ok r w)
    (hr : (Op.eqFields d xs ys fs).run P w = .ok s w) : (Op.eqFields d xs ys (f :: fs)).run P w = .ok (r && s) w := by
  have hn' : f.name ≠ "_" := by simpa using hn
  rw [Op.eqFields, if_pos hn']
  simp only [Sem.run_bind, ha, hb, he, Result.andThen_ok]
  cases r
  · rfl
  · simpa using hr
theorem eqFields_none : (Op.eqFields d xs ys []).run P w = .ok true w := by simp [Op.eqFields]
end

theorem equal_of_fields {P : Program} {d : Nat} {xs ys : Array Value} {r : Bool} {w : World} {t : TypeId} {fs : Array Field} (hu : P.underlying t = some (.struct fs)) (hp : P.stoodInHeld t = false)
    (h : (Op.eqFields d xs ys fs.toList).run P w = .ok r w) : (Op.equalIn (d + 1) t (.agg xs) (.agg ys)).run P w = .ok r w := by
  have hf : P.fieldsOf t = fs := by unfold Program.fieldsOf; rw [hu]
  rw [run_equalIn_struct (P := P) w d t xs ys (by rw [hf]; exact hu) hp, hf]
  exact h
theorem ins_eql (x y : Ins) (w : World) : (binOp .eql 23 x.val y.val).run Tryz.prog w = .ok (.bool (eqB x y)) w := by
  unfold Ins.val
  have hu := Tryz.underlying23
  have h : (Op.equalIn 10000 23 (.agg #[.int .i64 x.kind, .int .i64 x.fn, .int .i64 x.rd, .int .i64 x.rs1, .int .i64 x.rs2, .int .i64 x.imm, .int .i64 x.size, .bool x.signed]) (.agg #[.int .i64 y.kind, .int .i64 y.fn, .int .i64 y.rd, .int .i64 y.rs1, .int .i64 y.rs2, .int .i64 y.imm, .int .i64 y.size, .bool y.signed])).run Tryz.prog w = .ok (eqB x y) w := by
    refine equal_of_fields hu (by kernel_rfl) ?_
    refine eqFields_step (by decide) (by go_simp) (by go_simp) (run_equalIn_int _ _ _ .i64 .i64 _ _ Tryz.underlying3) ?_
    refine eqFields_step (by decide) (by go_simp) (by go_simp) (run_equalIn_int _ _ _ .i64 .i64 _ _ Tryz.underlying3) ?_
    refine eqFields_step (by decide) (by go_simp) (by go_simp) (run_equalIn_int _ _ _ .i64 .i64 _ _ Tryz.underlying3) ?_
    refine eqFields_step (by decide) (by go_simp) (by go_simp) (run_equalIn_int _ _ _ .i64 .i64 _ _ Tryz.underlying3) ?_
    refine eqFields_step (by decide) (by go_simp) (by go_simp) (run_equalIn_int _ _ _ .i64 .i64 _ _ Tryz.underlying3) ?_
    refine eqFields_step (by decide) (by go_simp) (by go_simp) (run_equalIn_int _ _ _ .i64 .i64 _ _ Tryz.underlying3) ?_
    refine eqFields_step (by decide) (by go_simp) (by go_simp) (run_equalIn_int _ _ _ .i64 .i64 _ _ Tryz.underlying3) ?_
    exact eqFields_step (by decide) (by go_simp) (by go_simp) (run_equalIn_bool' _ _ _ _ _ Tryz.underlying4) eqFields_none
  rw [run_eql_struct, h]
  rfl
attribute [local go_sem] lt_e1 lt_e2 lt_e3 lt_e4 lt_e5 lt_e6

set_option maxRecDepth 100000 in
set_option maxHeartbeats 1600000 in
theorem Encode_yes (i : Ins) (w : World) (h : decOf (encOf i) = some i) : Calls Tryz.prog 15 #[i.val] w fun e w' => e = .returned (.tuple #[.int .u32 (encOf i), .bool true]) ∧ Below w.heap.size w w' := by
  have hr := encOf_range i
  have HE := Lib.hid (encode_any i)
  have HD := Decode_any (encOf i)
  rw [h] at HD
  simp only [Option.getD_some, Option.isSome_some] at HD
  have HD := Lib.hid HD
  clear h
  generalize encOf i = x at *
  obtain ⟨kind, fn, rd, rs1, rs2, imm, size, sg⟩ := i
  unfold Ins.val at *
  go_enter Tryz.func15, Tryz.ntmps15
  go_wp2_with (first
    | (go_at_call 43; refine (HE.out _).mono ?_; rintro e w1 ⟨rfl, hb⟩; obtain ⟨os1, d1, rfl⟩ := wext_of_below hb; clear hb)
    | (go_at_call 44; refine (HD.out _ (by omega) (by omega)).mono ?_; rintro e w2 ⟨rfl, hb⟩; obtain ⟨os2, d2, rfl⟩ := wext_of_below hb; clear hb))
  all_goals first
    | (go_ret2; exact ⟨rfl, by repeat' (first | (with_reducible exact Below.refl _ _) | (with_reducible assumption) | (with_reducible refine below_drewN ?_ _) | (with_reducible refine Below.alloc ?_ ?_ _) | (with_reducible refine Below.drew ?_) | (with_reducible refine below_wext ?_ _ _ ?_) | (with_reducible refine Below.setCell ?_ ?_ _) | (simp only [World.size_alloc, World.size_setCell, World.size_drew, wext_size]; omega) | go_size)⟩)
    | (exfalso; simp_all; done)

set_option maxRecDepth 100000 in
set_option maxHeartbeats 1600000 in
theorem Encode_none (i : Ins) (w : World) (h : decOf (encOf i) = none) : Calls Tryz.prog 15 #[i.val] w fun e w' => e = .returned (.tuple #[.int .u32 0, .bool false]) ∧ Below w.heap.size w w' := by
  have hr := encOf_range i
  have HE := Lib.hid (encode_any i)
  have HD := Decode_any (encOf i)
  rw [h] at HD
  simp only [Option.getD_none, Option.isSome_none] at HD
  have HD := Lib.hid HD
  clear h
  generalize encOf i = x at *
  obtain ⟨kind, fn, rd, rs1, rs2, imm, size, sg⟩ := i
  unfold Ins.val at *
  go_enter Tryz.func15, Tryz.ntmps15
  go_wp2_with (first
    | (go_at_call 43; refine (HE.out _).mono ?_; rintro e w1 ⟨rfl, hb⟩; obtain ⟨os1, d1, rfl⟩ := wext_of_below hb; clear hb)
    | (go_at_call 44; refine (HD.out _ (by omega) (by omega)).mono ?_; rintro e w2 ⟨rfl, hb⟩; obtain ⟨os2, d2, rfl⟩ := wext_of_below hb; clear hb))
  go_ret2
  exact ⟨rfl, by repeat' (first | (with_reducible exact Below.refl _ _) | (with_reducible assumption) | (with_reducible refine below_drewN ?_ _) | (with_reducible refine Below.alloc ?_ ?_ _) | (with_reducible refine Below.drew ?_) | (with_reducible refine below_wext ?_ _ _ ?_) | (with_reducible refine Below.setCell ?_ ?_ _) | (simp only [World.size_alloc, World.size_setCell, World.size_drew, wext_size]; omega) | go_size)⟩

set_option maxRecDepth 100000 in
set_option maxHeartbeats 1600000 in
theorem Encode_other (i j : Ins) (w : World) (h : decOf (encOf i) = some j) (hij : ¬ j = i) : Calls Tryz.prog 15 #[i.val] w fun e w' => e = .returned (.tuple #[.int .u32 0, .bool false]) ∧ Below w.heap.size w w' := by
  have hr := encOf_range i
  have HE := Lib.hid (encode_any i)
  have HD := Decode_any (encOf i)
  rw [h] at HD
  simp only [Option.getD_some, Option.isSome_some] at HD
  have HD := Lib.hid HD
  have HN := Lib.hid hij
  clear h hij
  generalize encOf i = x at *
  obtain ⟨kind, fn, rd, rs1, rs2, imm, size, sg⟩ := i
  obtain ⟨kind', fn', rd', rs1', rs2', imm', size', sg'⟩ := j
  unfold Ins.val at *
  go_enter Tryz.func15, Tryz.ntmps15
  go_wp2_with (first
    | (go_at_call 43; refine (HE.out _).mono ?_; rintro e w1 ⟨rfl, hb⟩; obtain ⟨os1, d1, rfl⟩ := wext_of_below hb; clear hb)
    | (go_at_call 44; refine (HD.out _ (by omega) (by omega)).mono ?_; rintro e w2 ⟨rfl, hb⟩; obtain ⟨os2, d2, rfl⟩ := wext_of_below hb; clear hb))
  all_goals first
    | (go_ret2; exact ⟨rfl, by repeat' (first | (with_reducible exact Below.refl _ _) | (with_reducible assumption) | (with_reducible refine below_drewN ?_ _) | (with_reducible refine Below.alloc ?_ ?_ _) | (with_reducible refine Below.drew ?_) | (with_reducible refine below_wext ?_ _ _ ?_) | (with_reducible refine Below.setCell ?_ ?_ _) | (simp only [World.size_alloc, World.size_setCell, World.size_drew, wext_size]; omega) | go_size)⟩)
    | (exfalso; have hn := HN.out; rw [Ins.mk.injEq] at hn; simp_all; done)

theorem Encode_any (i : Ins) (w : World) : Calls Tryz.prog 15 #[i.val] w fun e w' => e = .returned (.tuple #[.int .u32 ((encodeOf i).getD 0), .bool (encodeOf i).isSome]) ∧ Below w.heap.size w w' := by
  unfold encodeOf
  by_cases h : decOf (encOf i) = some i
  · rw [if_pos h]; exact Encode_yes i w h
  · rw [if_neg h]
    cases hd : decOf (encOf i) with
    | none => exact Encode_none i w hd
    | some j => exact Encode_other i j w hd (fun e => h (by rw [hd, e]))
end Go.Proofs.YtmklpjelfonilaaGreatDoor
