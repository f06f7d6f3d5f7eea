/- Package inst, reading: decode at some of its ops. -/
import Derived.Test.YtmklpjelfonilaaGreatDoorA8
namespace Go.Proofs.YtmklpjelfonilaaGreatDoor
open Go.RowKit
attribute [local go_sem] alloc_drewN setCell_drewN wext_size wext_drewN wext_drew wext_setCell wext_cell wext_frozen
set_option linter.unusedVariables false
set_option linter.unusedSimpArgs false

set_option maxRecDepth 100000 in
set_option maxHeartbeats 3200000 in
theorem dec_103 (x : Int) (w : World) (h0 : 0 ≤ x) (h1 : x < 4294967296) (ho : bitsOf x 6 0 = 103) : Reads Tryz.prog 68 #[.int .u32 x] w (plainOf x ⟨4, 0, bitsOf x 11 7, bitsOf x 19 15, 0, immIOf x, 0, false⟩) := by
  have HO := Lib.hid ho
  have HP := Lib.hid (fun w => plain_reads x ⟨4, 0, bitsOf x 11 7, bitsOf x 19 15, 0, immIOf x, 0, false⟩ w h0 h1 (by dsimp only; omega) (fun h => absurd h (by dsimp only; omega)))
  clear ho
  unfold Reads
  have hl : ∀ n, (Instr.lookup 116 (.map (some (w.heap.size + 1))) (.int .i64 103) true).run Tryz.prog (((w.alloc (.cells #[.int .i64 0, .int .i64 0, .int .i64 0, .int .i64 0, .int .i64 0, .int .i64 0, .int .i64 0, .bool false] 23)).alloc (.map rowEntries 11)).drewN n) = .ok (.tuple #[(.agg #[.int .i64 4, .func (.func 134) #[] #[], .bool true, .bool true, .bool false]), .bool true]) (((w.alloc (.cells #[.int .i64 0, .int .i64 0, .int .i64 0, .int .i64 0, .int .i64 0, .int .i64 0, .int .i64 0, .bool false] 23)).alloc (.map rowEntries 11)).drewN n) :=
    fun n => run_look _ 116 3 114 103 _ _ 3 rowEntries 11 Tryz.underlying116 Tryz.underlying3 (heap_at_new _ _ _ _ (by simp)) rfl
  go_enter Tryz.func68, Tryz.ntmps68
  go_upto_region 11 with (first
    | (go_at_call 95; refine (op_is _ _ _ h0 h1 HO.out).mono ?_; rintro e w' ⟨rfl, m, rfl⟩)
    | (go_at_call 99; refine (rows_any _).mono ?_; rintro e w' ⟨rfl, rfl⟩))
  clear hl
  go_cut [6] (fun s6 wx => s6 = .pointer (some ⟨w.heap.size + 3, 0, none⟩) ∧ ∃ n, wx = ((((w.alloc (.cells #[.int .i64 0, .int .i64 0, .int .i64 0, .int .i64 0, .int .i64 0, .int .i64 0, .int .i64 0, .bool false] 23)).alloc (.map rowEntries 11)).alloc (.cells #[.int .i64 4, .func (.func 134) #[] #[], .bool true, .bool true, .bool false] 114)).alloc (.cells #[.int .i64 4, .int .i64 0, .int .i64 0, .int .i64 0, .int .i64 0, .int .i64 (immIOf x), .int .i64 0, .bool false] 23)).drewN n)
  case first =>
    go_region_with (first | (go_at_call 134; refine (immI_any _ _ h0 h1).mono ?_; rintro e w' ⟨rfl, m, rfl⟩))
    all_goals go_wp2_with fail
    all_goals go_meet
    all_goals exact ⟨rfl, _, rfl⟩
  case rest =>
    obtain ⟨rfl, n, rfl⟩ := hcut
    go_wp2_with (first
      | (go_at_call 100; refine (rd_any _ _ h0 h1).mono ?_; rintro e w' ⟨rfl, m, rfl⟩)
      | (go_at_call 101; refine (rs1_any _ _ h0 h1).mono ?_; rintro e w' ⟨rfl, m, rfl⟩)
      | (go_at_call 102; refine (rs2_any _ _ h0 h1).mono ?_; rintro e w' ⟨rfl, m, rfl⟩)
      | (go_at_call 103; refine (HP.out _).mono ?_; rintro e w1 ⟨i', b, rfl, hr, hb⟩; obtain ⟨os1, d1, rfl⟩ := wext_of_below hb; have HR := Lib.hid hr; clear hb hr; obtain ⟨k', fn', rd', rs1', rs2', imm', size', sg'⟩ := i'; simp only [Ins.val]))
    go_returns
    exact ⟨⟨k', fn', rd', rs1', rs2', imm', size', sg'⟩, b, rfl, HR.out, by repeat' (first | (with_reducible exact Below.refl _ _) | (with_reducible assumption) | (with_reducible refine below_drewN ?_ _) | (with_reducible refine Below.alloc ?_ ?_ _) | (with_reducible refine Below.drew ?_) | (with_reducible refine below_wext ?_ _ _ ?_) | (with_reducible refine Below.setCell ?_ ?_ _) | go_size)⟩

set_option maxRecDepth 100000 in
set_option maxHeartbeats 3200000 in
theorem dec_99 (x : Int) (w : World) (h0 : 0 ≤ x) (h1 : x < 4294967296) (ho : bitsOf x 6 0 = 99) : Reads Tryz.prog 68 #[.int .u32 x] w (plainOf x ⟨5, 0, 0, bitsOf x 19 15, bitsOf x 24 20, immBOf x, 0, false⟩) := by
  have HO := Lib.hid ho
  have HP := Lib.hid (fun w => plain_reads x ⟨5, 0, 0, bitsOf x 19 15, bitsOf x 24 20, immBOf x, 0, false⟩ w h0 h1 (by dsimp only; omega) (fun h => absurd h (by dsimp only; omega)))
  clear ho
  unfold Reads
  have hl : ∀ n, (Instr.lookup 116 (.map (some (w.heap.size + 1))) (.int .i64 99) true).run Tryz.prog (((w.alloc (.cells #[.int .i64 0, .int .i64 0, .int .i64 0, .int .i64 0, .int .i64 0, .int .i64 0, .int .i64 0, .bool false] 23)).alloc (.map rowEntries 11)).drewN n) = .ok (.tuple #[(.agg #[.int .i64 5, .func (.func 135) #[] #[], .bool false, .bool true, .bool true]), .bool true]) (((w.alloc (.cells #[.int .i64 0, .int .i64 0, .int .i64 0, .int .i64 0, .int .i64 0, .int .i64 0, .int .i64 0, .bool false] 23)).alloc (.map rowEntries 11)).drewN n) :=
    fun n => run_look _ 116 3 114 99 _ _ 4 rowEntries 11 Tryz.underlying116 Tryz.underlying3 (heap_at_new _ _ _ _ (by simp)) rfl
  go_enter Tryz.func68, Tryz.ntmps68
  go_upto_region 11 with (first
    | (go_at_call 95; refine (op_is _ _ _ h0 h1 HO.out).mono ?_; rintro e w' ⟨rfl, m, rfl⟩)
    | (go_at_call 99; refine (rows_any _).mono ?_; rintro e w' ⟨rfl, rfl⟩))
  clear hl
  go_cut [6] (fun s6 wx => s6 = .pointer (some ⟨w.heap.size + 3, 0, none⟩) ∧ ∃ n, wx = ((((w.alloc (.cells #[.int .i64 0, .int .i64 0, .int .i64 0, .int .i64 0, .int .i64 0, .int .i64 0, .int .i64 0, .bool false] 23)).alloc (.map rowEntries 11)).alloc (.cells #[.int .i64 5, .func (.func 135) #[] #[], .bool false, .bool true, .bool true] 114)).alloc (.cells #[.int .i64 5, .int .i64 0, .int .i64 0, .int .i64 0, .int .i64 0, .int .i64 (immBOf x), .int .i64 0, .bool false] 23)).drewN n)
  case first =>
    go_region_with (first | (go_at_call 135; refine (immB_any _ _ h0 h1).mono ?_; rintro e w' ⟨rfl, m, rfl⟩))
    all_goals go_wp2_with fail
    all_goals go_meet
    all_goals exact ⟨rfl, _, rfl⟩
  case rest =>
    obtain ⟨rfl, n, rfl⟩ := hcut
    go_wp2_with (first
      | (go_at_call 100; refine (rd_any _ _ h0 h1).mono ?_; rintro e w' ⟨rfl, m, rfl⟩)
      | (go_at_call 101; refine (rs1_any _ _ h0 h1).mono ?_; rintro e w' ⟨rfl, m, rfl⟩)
      | (go_at_call 102; refine (rs2_any _ _ h0 h1).mono ?_; rintro e w' ⟨rfl, m, rfl⟩)
      | (go_at_call 103; refine (HP.out _).mono ?_; rintro e w1 ⟨i', b, rfl, hr, hb⟩; obtain ⟨os1, d1, rfl⟩ := wext_of_below hb; have HR := Lib.hid hr; clear hb hr; obtain ⟨k', fn', rd', rs1', rs2', imm', size', sg'⟩ := i'; simp only [Ins.val]))
    go_returns
    exact ⟨⟨k', fn', rd', rs1', rs2', imm', size', sg'⟩, b, rfl, HR.out, by repeat' (first | (with_reducible exact Below.refl _ _) | (with_reducible assumption) | (with_reducible refine below_drewN ?_ _) | (with_reducible refine Below.alloc ?_ ?_ _) | (with_reducible refine Below.drew ?_) | (with_reducible refine below_wext ?_ _ _ ?_) | (with_reducible refine Below.setCell ?_ ?_ _) | go_size)⟩

set_option maxRecDepth 100000 in
set_option maxHeartbeats 3200000 in
theorem dec_3 (x : Int) (w : World) (h0 : 0 ≤ x) (h1 : x < 4294967296) (ho : bitsOf x 6 0 = 3) : Reads Tryz.prog 68 #[.int .u32 x] w (plainOf x ⟨6, 0, bitsOf x 11 7, bitsOf x 19 15, 0, immIOf x, 0, false⟩) := by
  have HO := Lib.hid ho
  have HP := Lib.hid (fun w => plain_reads x ⟨6, 0, bitsOf x 11 7, bitsOf x 19 15, 0, immIOf x, 0, false⟩ w h0 h1 (by dsimp only; omega) (fun h => absurd h (by dsimp only; omega)))
  clear ho
  unfold Reads
  have hl : ∀ n, (Instr.lookup 116 (.map (some (w.heap.size + 1))) (.int .i64 3) true).run Tryz.prog (((w.alloc (.cells #[.int .i64 0, .int .i64 0, .int .i64 0, .int .i64 0, .int .i64 0, .int .i64 0, .int .i64 0, .bool false] 23)).alloc (.map rowEntries 11)).drewN n) = .ok (.tuple #[(.agg #[.int .i64 6, .func (.func 134) #[] #[], .bool true, .bool true, .bool false]), .bool true]) (((w.alloc (.cells #[.int .i64 0, .int .i64 0, .int .i64 0, .int .i64 0, .int .i64 0, .int .i64 0, .int .i64 0, .bool false] 23)).alloc (.map rowEntries 11)).drewN n) :=
    fun n => run_look _ 116 3 114 3 _ _ 5 rowEntries 11 Tryz.underlying116 Tryz.underlying3 (heap_at_new _ _ _ _ (by simp)) rfl
  go_enter Tryz.func68, Tryz.ntmps68
  go_upto_region 11 with (first
    | (go_at_call 95; refine (op_is _ _ _ h0 h1 HO.out).mono ?_; rintro e w' ⟨rfl, m, rfl⟩)
    | (go_at_call 99; refine (rows_any _).mono ?_; rintro e w' ⟨rfl, rfl⟩))
  clear hl
  go_cut [6] (fun s6 wx => s6 = .pointer (some ⟨w.heap.size + 3, 0, none⟩) ∧ ∃ n, wx = ((((w.alloc (.cells #[.int .i64 0, .int .i64 0, .int .i64 0, .int .i64 0, .int .i64 0, .int .i64 0, .int .i64 0, .bool false] 23)).alloc (.map rowEntries 11)).alloc (.cells #[.int .i64 6, .func (.func 134) #[] #[], .bool true, .bool true, .bool false] 114)).alloc (.cells #[.int .i64 6, .int .i64 0, .int .i64 0, .int .i64 0, .int .i64 0, .int .i64 (immIOf x), .int .i64 0, .bool false] 23)).drewN n)
  case first =>
    go_region_with (first | (go_at_call 134; refine (immI_any _ _ h0 h1).mono ?_; rintro e w' ⟨rfl, m, rfl⟩))
    all_goals go_wp2_with fail
    all_goals go_meet
    all_goals exact ⟨rfl, _, rfl⟩
  case rest =>
    obtain ⟨rfl, n, rfl⟩ := hcut
    go_wp2_with (first
      | (go_at_call 100; refine (rd_any _ _ h0 h1).mono ?_; rintro e w' ⟨rfl, m, rfl⟩)
      | (go_at_call 101; refine (rs1_any _ _ h0 h1).mono ?_; rintro e w' ⟨rfl, m, rfl⟩)
      | (go_at_call 102; refine (rs2_any _ _ h0 h1).mono ?_; rintro e w' ⟨rfl, m, rfl⟩)
      | (go_at_call 103; refine (HP.out _).mono ?_; rintro e w1 ⟨i', b, rfl, hr, hb⟩; obtain ⟨os1, d1, rfl⟩ := wext_of_below hb; have HR := Lib.hid hr; clear hb hr; obtain ⟨k', fn', rd', rs1', rs2', imm', size', sg'⟩ := i'; simp only [Ins.val]))
    go_returns
    exact ⟨⟨k', fn', rd', rs1', rs2', imm', size', sg'⟩, b, rfl, HR.out, by repeat' (first | (with_reducible exact Below.refl _ _) | (with_reducible assumption) | (with_reducible refine below_drewN ?_ _) | (with_reducible refine Below.alloc ?_ ?_ _) | (with_reducible refine Below.drew ?_) | (with_reducible refine below_wext ?_ _ _ ?_) | (with_reducible refine Below.setCell ?_ ?_ _) | go_size)⟩

end Go.Proofs.YtmklpjelfonilaaGreatDoor
