/- Package asm: name: the instruction's first word, for every instruction. -/
import Derived.Test.YtmklpjelfonilaaGreatDoorC2a
import Derived.Test.YtmklpjelfonilaaGreatDoorC2b
import Derived.Test.YtmklpjelfonilaaGreatDoorC2c
import Derived.Test.YtmklpjelfonilaaGreatDoorC2d
namespace Go.Proofs.YtmklpjelfonilaaGreatDoor
open Go.RowKit
set_option linter.unusedVariables false

theorem name_any (i : Ins) (w : World) : Calls Tryz.prog 27 #[i.val] w fun e w' => e = .returned (.string (nameOf i)) ∧ Below w.heap.size w w' := by
  obtain ⟨kind, fn, rd, rs1, rs2, imm, size, sg⟩ := i
  show Calls Tryz.prog 27 _ w fun e w' => e = .returned (.string (nameP kind fn size sg)) ∧ Below w.heap.size w w'
  unfold nameP wideOf
  by_cases c5 : kind = 5
  · subst c5; rw [if_pos rfl]
    by_cases s4 : size = 4
    · subst s4; exact name_5_4 fn rd rs1 rs2 imm sg w
    by_cases s8 : size = 8
    · subst s8; exact name_5_8 fn rd rs1 rs2 imm sg w
    exact name_5_n fn rd rs1 rs2 imm size sg w (beq_false s4) (beq_false s8)
  by_cases c6 : kind = 6
  · subst c6; rw [if_neg (by decide), if_pos rfl]
    cases sg
    · skip
      by_cases s4 : size = 4
      · subst s4; exact name_6f_4 fn rd rs1 rs2 imm w
      by_cases s8 : size = 8
      · subst s8; exact name_6f_8 fn rd rs1 rs2 imm w
      exact name_6f_n fn rd rs1 rs2 imm size w (beq_false s4) (beq_false s8)
    · skip
      by_cases s4 : size = 4
      · subst s4; exact name_6t_4 fn rd rs1 rs2 imm w
      by_cases s8 : size = 8
      · subst s8; exact name_6t_8 fn rd rs1 rs2 imm w
      exact name_6t_n fn rd rs1 rs2 imm size w (beq_false s4) (beq_false s8)
  by_cases c7 : kind = 7
  · subst c7; rw [if_neg (by decide), if_neg (by decide), if_pos rfl]
    by_cases s4 : size = 4
    · subst s4; exact name_7_4 fn rd rs1 rs2 imm sg w
    by_cases s8 : size = 8
    · subst s8; exact name_7_8 fn rd rs1 rs2 imm sg w
    exact name_7_n fn rd rs1 rs2 imm size sg w (beq_false s4) (beq_false s8)
  by_cases c8 : kind = 8
  · subst c8; rw [if_neg (by decide), if_neg (by decide), if_neg (by decide), if_pos rfl]
    by_cases s4 : size = 4
    · subst s4; exact name_8_4 fn rd rs1 rs2 imm sg w
    by_cases s8 : size = 8
    · subst s8; exact name_8_8 fn rd rs1 rs2 imm sg w
    exact name_8_n fn rd rs1 rs2 imm size sg w (beq_false s4) (beq_false s8)
  by_cases c9 : kind = 9
  · subst c9; rw [if_neg (by decide), if_neg (by decide), if_neg (by decide), if_neg (by decide), if_pos rfl]
    by_cases s4 : size = 4
    · subst s4; exact name_9_4 fn rd rs1 rs2 imm sg w
    by_cases s8 : size = 8
    · subst s8; exact name_9_8 fn rd rs1 rs2 imm sg w
    exact name_9_n fn rd rs1 rs2 imm size sg w (beq_false s4) (beq_false s8)
  by_cases c13 : kind = 13
  · subst c13; rw [if_neg (by decide), if_neg (by decide), if_neg (by decide), if_neg (by decide), if_neg (by decide), if_pos rfl]
    by_cases s4 : size = 4
    · subst s4; exact name_13_4 fn rd rs1 rs2 imm sg w
    by_cases s8 : size = 8
    · subst s8; exact name_13_8 fn rd rs1 rs2 imm sg w
    exact name_13_n fn rd rs1 rs2 imm size sg w (beq_false s4) (beq_false s8)
  by_cases c14 : kind = 14
  · subst c14; rw [if_neg (by decide), if_neg (by decide), if_neg (by decide), if_neg (by decide), if_neg (by decide), if_neg (by decide), if_pos rfl]
    by_cases s4 : size = 4
    · subst s4; exact name_14_4 fn rd rs1 rs2 imm sg w
    by_cases s8 : size = 8
    · subst s8; exact name_14_8 fn rd rs1 rs2 imm sg w
    exact name_14_n fn rd rs1 rs2 imm size sg w (beq_false s4) (beq_false s8)
  by_cases c17 : kind = 17
  · subst c17; rw [if_neg (by decide), if_neg (by decide), if_neg (by decide), if_neg (by decide), if_neg (by decide), if_neg (by decide), if_neg (by decide), if_pos rfl]
    by_cases s4 : size = 4
    · subst s4; rw [if_pos rfl]; exact name_17_4 fn rd rs1 rs2 imm sg w
    by_cases s8 : size = 8
    · subst s8; rw [if_neg (by decide), if_pos rfl]; exact name_17_8 fn rd rs1 rs2 imm sg w
    rw [if_neg s4, if_neg s8]; exact name_17_n fn rd rs1 rs2 imm size sg w (beq_false s4) (beq_false s8)
  by_cases c15 : kind = 15
  · subst c15; rw [if_neg (by decide), if_neg (by decide), if_neg (by decide), if_neg (by decide), if_neg (by decide), if_neg (by decide), if_neg (by decide), if_neg (by decide), if_pos rfl]
    by_cases s4 : size = 4
    · subst s4; rw [if_pos rfl]; exact name_15_4 fn rd rs1 rs2 imm sg w
    by_cases s8 : size = 8
    · subst s8; rw [if_neg (by decide), if_pos rfl]; exact name_15_8 fn rd rs1 rs2 imm sg w
    rw [if_neg s4, if_neg s8]; exact name_15_n fn rd rs1 rs2 imm size sg w (beq_false s4) (beq_false s8)
  by_cases c16 : kind = 16
  · subst c16; rw [if_neg (by decide), if_neg (by decide), if_neg (by decide), if_neg (by decide), if_neg (by decide), if_neg (by decide), if_neg (by decide), if_neg (by decide), if_neg (by decide), if_pos rfl]
    by_cases s4 : size = 4
    · subst s4; rw [if_pos rfl]; exact name_16_4 fn rd rs1 rs2 imm sg w
    by_cases s8 : size = 8
    · subst s8; rw [if_neg (by decide), if_pos rfl]; exact name_16_8 fn rd rs1 rs2 imm sg w
    rw [if_neg s4, if_neg s8]; exact name_16_n fn rd rs1 rs2 imm size sg w (beq_false s4) (beq_false s8)
  rw [if_neg c5, if_neg c6, if_neg c7, if_neg c8, if_neg c9, if_neg c13, if_neg c14, if_neg c17, if_neg c15, if_neg c16]
  by_cases s4 : size = 4
  · subst s4; exact name_x_4 kind fn rd rs1 rs2 imm sg w (beq_false c5) (beq_false c6) (beq_false c7) (beq_false c8) (beq_false c9) (beq_false c13) (beq_false c14) (beq_false c17) (beq_false c15) (beq_false c16)
  by_cases s8 : size = 8
  · subst s8; exact name_x_8 kind fn rd rs1 rs2 imm sg w (beq_false c5) (beq_false c6) (beq_false c7) (beq_false c8) (beq_false c9) (beq_false c13) (beq_false c14) (beq_false c17) (beq_false c15) (beq_false c16)
  exact name_x_n kind fn rd rs1 rs2 imm size sg w (beq_false s4) (beq_false s8) (beq_false c5) (beq_false c6) (beq_false c7) (beq_false c8) (beq_false c9) (beq_false c13) (beq_false c14) (beq_false c17) (beq_false c15) (beq_false c16)
end Go.Proofs.YtmklpjelfonilaaGreatDoor
