/- Package inst, reading: decode and Decode: what they return, for every word. -/
import Derived.Test.YtmklpjelfonilaaGreatDoorA8a
import Derived.Test.YtmklpjelfonilaaGreatDoorA8b
import Derived.Test.YtmklpjelfonilaaGreatDoorA8c
import Derived.Test.YtmklpjelfonilaaGreatDoorA8d
namespace Go.Proofs.YtmklpjelfonilaaGreatDoor
open Go.RowKit
attribute [local go_sem] alloc_drewN setCell_drewN wext_size wext_drewN wext_drew wext_setCell wext_cell wext_frozen
theorem lt_e1 (n k : Nat) : (n < n + 1 + k) = True := by simp; omega
theorem lt_e2 (n k : Nat) : (n < n + 1 + 1 + k) = True := by simp; omega
theorem lt_e3 (n k : Nat) : (n + 1 < n + 1 + 1 + k) = True := by simp; omega
theorem lt_e4 (n k : Nat) : (n < n + 1 + 1 + 1 + k) = True := by simp; omega
theorem lt_e5 (n k : Nat) : (n + 1 < n + 1 + 1 + 1 + k) = True := by simp; omega
theorem lt_e6 (n k : Nat) : (n + 1 + 1 < n + 1 + 1 + 1 + k) = True := by simp; omega
attribute [local go_sem] lt_e1 lt_e2 lt_e3 lt_e4 lt_e5 lt_e6
set_option linter.unusedVariables false
set_option linter.unusedSimpArgs false

theorem find_none (k : Int) (h : ¬ k = 55 ∧ ¬ k = 23 ∧ ¬ k = 111 ∧ ¬ k = 103 ∧ ¬ k = 99 ∧ ¬ k = 3 ∧ ¬ k = 35 ∧ ¬ k = 19 ∧ ¬ k = 27 ∧ ¬ k = 51 ∧ ¬ k = 59) :
    Instr.findNow (.int .i64) (.int .i64 k) rowEntries.toList 0 = some none := by
  obtain ⟨a, b, c, d, e, f, g, h, i, j, l⟩ := h
  simp [rowEntries, Instr.findNow, Instr.sameNow, beq_false a, beq_false b, beq_false c, beq_false d, beq_false e, beq_false f, beq_false g, beq_false h, beq_false i, beq_false j, beq_false l]

theorem decode_reads (x : Int) (w : World) (h0 : 0 ≤ x) (h1 : x < 4294967296) : Reads Tryz.prog 68 #[.int .u32 x] w (decOf x) := by
  unfold decOf
  by_cases c15 : bitsOf x 6 0 = 15
  · rw [if_pos c15]; exact dec_15 x w h0 h1 c15
  by_cases c115 : bitsOf x 6 0 = 115
  · rw [if_neg c15, if_pos c115]; exact dec_115 x w h0 h1 c115
  by_cases c47 : bitsOf x 6 0 = 47
  · rw [if_neg c15, if_neg c115, if_pos c47]; exact dec_47 x w h0 h1 c47
  rw [if_neg c15, if_neg c115, if_neg c47]
  unfold rowOf
  by_cases c55 : bitsOf x 6 0 = 55
  · rw [if_pos c55, Option.bind_some]; exact dec_55 x w h0 h1 c55
  by_cases c23 : bitsOf x 6 0 = 23
  · rw [if_neg c55, if_pos c23, Option.bind_some]; exact dec_23 x w h0 h1 c23
  by_cases c111 : bitsOf x 6 0 = 111
  · rw [if_neg c55, if_neg c23, if_pos c111, Option.bind_some]; exact dec_111 x w h0 h1 c111
  by_cases c103 : bitsOf x 6 0 = 103
  · rw [if_neg c55, if_neg c23, if_neg c111, if_pos c103, Option.bind_some]; exact dec_103 x w h0 h1 c103
  by_cases c99 : bitsOf x 6 0 = 99
  · rw [if_neg c55, if_neg c23, if_neg c111, if_neg c103, if_pos c99, Option.bind_some]; exact dec_99 x w h0 h1 c99
  by_cases c3 : bitsOf x 6 0 = 3
  · rw [if_neg c55, if_neg c23, if_neg c111, if_neg c103, if_neg c99, if_pos c3, Option.bind_some]; exact dec_3 x w h0 h1 c3
  by_cases c35 : bitsOf x 6 0 = 35
  · rw [if_neg c55, if_neg c23, if_neg c111, if_neg c103, if_neg c99, if_neg c3, if_pos c35, Option.bind_some]; exact dec_35 x w h0 h1 c35
  by_cases c19 : bitsOf x 6 0 = 19
  · rw [if_neg c55, if_neg c23, if_neg c111, if_neg c103, if_neg c99, if_neg c3, if_neg c35, if_pos c19, Option.bind_some]; exact dec_19 x w h0 h1 c19
  by_cases c27 : bitsOf x 6 0 = 27
  · rw [if_neg c55, if_neg c23, if_neg c111, if_neg c103, if_neg c99, if_neg c3, if_neg c35, if_neg c19, if_pos c27, Option.bind_some]; exact dec_27 x w h0 h1 c27
  by_cases c51 : bitsOf x 6 0 = 51
  · rw [if_neg c55, if_neg c23, if_neg c111, if_neg c103, if_neg c99, if_neg c3, if_neg c35, if_neg c19, if_neg c27, if_pos c51, Option.bind_some]; exact dec_51 x w h0 h1 c51
  by_cases c59 : bitsOf x 6 0 = 59
  · rw [if_neg c55, if_neg c23, if_neg c111, if_neg c103, if_neg c99, if_neg c3, if_neg c35, if_neg c19, if_neg c27, if_neg c51, if_pos c59, Option.bind_some]; exact dec_59 x w h0 h1 c59
  rw [if_neg c55, if_neg c23, if_neg c111, if_neg c103, if_neg c99, if_neg c3, if_neg c35, if_neg c19, if_neg c27, if_neg c51, if_neg c59, Option.bind_none]
  exact dec_none x w h0 h1 (beq_false c15) (beq_false c115) (beq_false c47) (find_none _ ⟨c55, c23, c111, c103, c99, c3, c35, c19, c27, c51, c59⟩)

set_option maxRecDepth 100000 in
set_option maxHeartbeats 800000 in
theorem Decode_any (x : Int) (w : World) (h0 : 0 ≤ x) (h1 : x < 4294967296) :
    Calls Tryz.prog 44 #[.int .u32 x] w fun e w' => e = .returned (.tuple #[((decOf x).getD {}).val, .bool (decOf x).isSome]) ∧ Below w.heap.size w w' := by
  have HD := Lib.hid (fun w => decode_reads x w h0 h1)
  generalize decOf x = r at *
  cases r with
  | none =>
    show Calls _ _ _ _ fun e w' => e = .returned (.tuple #[Ins.val {}, .bool false]) ∧ _
    go_enter Tryz.func44, Tryz.ntmps44
    go_wp2_with (go_at_call 68; refine (HD.out _).mono ?_; rintro e w1 ⟨i', b, rfl, hr, hb⟩; obtain ⟨os1, d1, rfl⟩ := wext_of_below hb; have HR := Lib.hid hr; clear hb hr; obtain ⟨k', fn', rd', rs1', rs2', imm', size', sg'⟩ := i'; simp only [Ins.val]; cases b)
    · go_wp2
      go_returns
      exact ⟨rfl, by repeat' (first | (with_reducible exact Below.refl _ _) | (with_reducible assumption) | (with_reducible refine below_drewN ?_ _) | (with_reducible refine Below.alloc ?_ ?_ _) | (with_reducible refine Below.drew ?_) | (with_reducible refine below_wext ?_ _ _ ?_) | (with_reducible refine Below.setCell ?_ ?_ _) | (simp only [World.size_alloc, World.size_setCell, World.size_drew, wext_size]; omega) | go_size)⟩
    · exact absurd HR.out (by simp)
  | some i =>
    show Calls _ _ _ _ fun e w' => e = .returned (.tuple #[i.val, .bool true]) ∧ _
    go_enter Tryz.func44, Tryz.ntmps44
    go_wp2_with (go_at_call 68; refine (HD.out _).mono ?_; rintro e w1 ⟨i', b, rfl, hr, hb⟩; obtain ⟨os1, d1, rfl⟩ := wext_of_below hb; have HR := Lib.hid hr; clear hb hr; obtain ⟨k', fn', rd', rs1', rs2', imm', size', sg'⟩ := i'; simp only [Ins.val]; cases b)
    · exact absurd HR.out (by simp)
    · have := HR.out
      simp only [if_true, Option.some.injEq] at this
      subst this
      clear HR HD
      go_wp2
      go_returns
      exact ⟨rfl, by repeat' (first | (with_reducible exact Below.refl _ _) | (with_reducible assumption) | (with_reducible refine below_drewN ?_ _) | (with_reducible refine Below.alloc ?_ ?_ _) | (with_reducible refine Below.drew ?_) | (with_reducible refine below_wext ?_ _ _ ?_) | (with_reducible refine Below.setCell ?_ ?_ _) | (simp only [World.size_alloc, World.size_setCell, World.size_drew, wext_size]; omega) | go_size)⟩
end Go.Proofs.YtmklpjelfonilaaGreatDoor
