/- Package asm: Parse: it reads a line. -/
import Derived.Test.YtmklpjelfonilaaGreatDoorF3
namespace Go.Proofs.YtmklpjelfonilaaGreatDoor
open Go.RowKit
attribute [local go_sem] alloc_drewN setCell_drewN wext_size wext_drewN wext_drew wext_setCell wext_cell wext_frozen wext_wext lt_e1 lt_e2 lt_e3 lt_e4 lt_e5 lt_e6
set_option linter.unusedVariables false
set_option linter.unusedSimpArgs false

theorem row_view {w : World} {B : Nat} {e : TypeId} {size : Nat} {v : Value} {n : Nat} {xs : List Value} (h : w.ownsRowF B e size v n xs) :
    (v = .slice none 0 0 ∧ n = 0) ∨ ∃ g cap, v = .slice (some ⟨g, 0, none⟩) n cap ∧ B ≤ g ∧ g < w.heap.size ∧ n ≤ cap ∧ cap ≤ maxLen ∧ (∀ j u, xs[j]? = some u → w.cell? ⟨g, j, none⟩ = some u) ∧ ∃ cur fz, w.heap[g]? = some (.cells cur e fz) := by
  have hc := @World.ownsRowF.cells _ _ _ _ _ _ _ h
  rcases h.2 with hn | ⟨g, cap, cur, fz, hv, hb, hg, _, h1, h2, _⟩
  · exact .inl hn
  · refine .inr ⟨g, cap, hv, hb, (Array.getElem?_eq_some_iff.1 hg).1, h1, h2, ?_, cur, fz, hg⟩
    intro j u hj
    have := hc (g := g) (by rw [hv]; rfl) j u hj
    rw [show ((⟨g, 0, none⟩ : Addr).add j) = ⟨g, j, none⟩ from by unfold Addr.add; split <;> simp_all] at this
    exact this

theorem flat_get : ∀ (L : List Ins) (k : Nat) (i : Ins) (m : Nat), L[k]? = some i → m < 8 → (L.flatMap Ins.cells)[k * 8 + m]? = i.cells[m]?
  | [], k, i, m, h, _ => by simp at h
  | a :: L, 0, i, m, h, hm => by
    simp at h; subst h
    rw [List.flatMap_cons, List.getElem?_append_left (by simp [Ins.cells]; omega)]
    simp
  | a :: L, k + 1, i, m, h, hm => by
    simp at h
    rw [List.flatMap_cons, List.getElem?_append_right (by simp [Ins.cells]; omega)]
    rw [show (k + 1) * 8 + m - a.cells.length = k * 8 + m from by simp [Ins.cells]; omega]
    exact flat_get L k i m h hm

theorem fnsL_length (kind : Int) : ∀ n f, (fnsL kind n f).length = 10 * n
  | 0, f => rfl
  | n + 1, f => by
    unfold fnsL
    rw [List.length_append, fnsL_length kind n]
    simp [sizesL, sizes5]; omega
theorem kindsL_length : ∀ n k, (kindsL n k).length = 290 * n
  | 0, k => rfl
  | n + 1, k => by
    unfold kindsL
    rw [List.length_append, fnsL_length, kindsL_length n]; omega
theorem allIns_length : allIns.length = 5800 := kindsL_length 20 1

theorem words_bound (s : ByteArray) : ∀ (fuel pos : Nat) (fr : Option Nat), ((wordsFrom s fuel pos fr).length ≤ fuel + 1) ∧ ∀ t ∈ wordsFrom s fuel pos fr, t.size ≤ s.size := by
  have hx : ∀ g p, (s.extract g p).size ≤ s.size := fun g p => by rw [ByteArray.size_extract]; omega
  have hend : ∀ (fuel pos : Nat) (fr : Option Nat), ¬ pos < s.size → (wordsFrom s fuel pos fr).length ≤ 1 ∧ ∀ t ∈ wordsFrom s fuel pos fr, t.size ≤ s.size := by
    intro fuel pos fr hp
    rw [wordsFrom_end s fuel pos fr hp]
    cases fr with
    | none => exact ⟨by simp, by intro t ht; cases ht⟩
    | some g => exact ⟨by simp, by intro t ht; rw [List.mem_singleton] at ht; subst ht; exact hx _ _⟩
  intro fuel
  induction fuel with
  | zero =>
    intro pos fr
    cases fr with
    | none => exact ⟨by simp [wordsFrom], by intro t ht; simp [wordsFrom] at ht⟩
    | some g => exact ⟨by simp [wordsFrom], by intro t ht; simp only [wordsFrom, List.mem_singleton] at ht; subst ht; exact hx _ _⟩
  | succ f ih =>
    intro pos fr
    by_cases hp : pos < s.size
    · cases hpr : parts (Utf8.decode s pos).1 with
      | true =>
        cases fr with
        | none => rw [wf_skip hp hpr]; exact ⟨by have := (ih (pos + (Utf8.decode s pos).2) none).1; omega, (ih _ none).2⟩
        | some g =>
          rw [wf_cut hp hpr]
          refine ⟨by have := (ih (pos + (Utf8.decode s pos).2) none).1; simp only [List.length_cons]; omega, ?_⟩
          intro t ht
          rcases List.mem_cons.1 ht with rfl | ht
          · exact hx _ _
          · exact (ih _ none).2 t ht
      | false =>
        cases fr with
        | none => rw [wf_open hp hpr]; exact ⟨by have := (ih (pos + (Utf8.decode s pos).2) (some pos)).1; omega, (ih _ (some pos)).2⟩
        | some g => rw [wf_in hp hpr]; exact ⟨by have := (ih (pos + (Utf8.decode s pos).2) (some g)).1; omega, (ih _ (some g)).2⟩
    · exact ⟨by have := (hend (f + 1) pos fr hp).1; omega, (hend (f + 1) pos fr hp).2⟩

theorem setArg_wf {i : Ins} (h : i.wf) (a n : Int) (h0 : -4294967296 ≤ n) (h1 : n ≤ 4294967296) : (setArg i a n).wf := by
  unfold Ins.wf at *
  unfold setArg
  repeat' split
  all_goals (dsimp only; omega)
theorem fillL_wf : ∀ (l : List Int) (ws : List ByteArray) (i j : Ins), i.wf → fillL i l ws = some j → j.wf
  | [], ws, i, j, h, e => by simp [fillL] at e; subst e; exact h
  | a :: l, [], i, j, h, e => by simp [fillL] at e; subst e; exact h
  | a :: l, t :: ws, i, j, h, e => by
    rw [fillL] at e
    split at e
    · rename_i n hn
      unfold numOf at hn
      split at hn
      · split at hn
        · rename_i hb
          cases hn
          exact fillL_wf l ws _ j (setArg_wf h _ _ hb.1 hb.2) e
        · cases hn
      · cases hn
    · cases e
theorem fillOf_wf {i j : Ins} {ws : List ByteArray} (h : i.wf) (e : fillOf i ws = some j) : j.wf := by
  unfold fillOf at e
  split at e
  · exact fillL_wf _ _ _ _ h e
  · cases e
theorem sizesL_wf (kind fn : Int) : ∀ l, ∀ i ∈ sizesL kind fn l, i.wf
  | [], i, h => by cases h
  | z :: l, i, h => by
    unfold sizesL at h
    rcases List.mem_cons.1 h with rfl | h
    · unfold Ins.wf; dsimp only; omega
    rcases List.mem_cons.1 h with rfl | h
    · unfold Ins.wf; dsimp only; omega
    · exact sizesL_wf kind fn l i h
theorem fnsL_wf (kind : Int) : ∀ n f, ∀ i ∈ fnsL kind n f, i.wf
  | 0, f, i, h => by cases h
  | n + 1, f, i, h => by
    unfold fnsL at h
    rcases List.mem_append.1 h with h | h
    · exact sizesL_wf _ _ _ i h
    · exact fnsL_wf kind n _ i h
theorem kindsL_wf : ∀ n k, ∀ i ∈ kindsL n k, i.wf
  | 0, k, i, h => by cases h
  | n + 1, k, i, h => by
    unfold kindsL at h
    rcases List.mem_append.1 h with h | h
    · exact fnsL_wf _ _ _ i h
    · exact kindsL_wf n _ i h
theorem allIns_wf : ∀ i ∈ allIns, i.wf := kindsL_wf 20 1

theorem row_slice {w : World} {B : Nat} {e : TypeId} {size : Nat} {v : Value} {n : Nat} {xs : List Value} (h : w.ownsRowF B e size v n xs) : ∃ ao cap, v = .slice ao n cap ∧ n ≤ cap := by
  rcases row_view h with ⟨rfl, rfl⟩ | ⟨g, cap, rfl, _, _, h1, _⟩
  · exact ⟨none, 0, rfl, Nat.le_refl _⟩
  · exact ⟨_, cap, rfl, h1⟩

set_option maxRecDepth 100000 in
theorem Parse_none (line : ByteArray) (w : World) (hs : line.size ≤ 1099511627775) (h : wordsOf line = []) :
    Calls Tryz.prog 13 #[.string line] w fun e w' => e = .returned (.tuple #[Ins.val {}, .bool false]) ∧ Below w.heap.size w w' := by
  have hW := fun w => words_any line w (by omega)
  rw [h] at hW
  have hW := Lib.hid hW
  clear h
  go_enter Tryz.func13, Tryz.ntmps13
  go_upto_region 2 with (go_at_call 38; refine (hW.out _).mono ?_; rintro e w1 ⟨v, rfl, hO, hb⟩; obtain ⟨ao, cap, rfl, _⟩ := row_slice hO)
  have hx1 := (hb.block _ (by simp)).trans (heap_alloc_new w _)
  obtain ⟨g0, g1, g2, g3, g4, g5, g6, g7⟩ := box8 hx1
  have fz : ∀ o', w1.frozen? ⟨w.heap.size, o', none⟩ = false := fun o' => Lib.frozen_of_heap hx1 o'
  go_wp2
  refine bodyPost_ret (v := .tuple #[Ins.val {}, .bool false]) (by simp [results, Tryz.results13, go_sem, Ins.val, g0, g1, g2, g3, g4, g5, g6, g7]) rfl ⟨rfl, ?_⟩
  have hb2 : Below w.heap.size w w1 := ((Below.refl _ w).alloc (Nat.le_refl _) _).trans (below_mono hb (by simp))
  repeat' (first | (with_reducible exact hb2) | (with_reducible refine Below.setCell ?_ ?_ _) | (with_reducible exact Nat.le_refl _))

/-- What the cells of a row of instructions hold. -/
theorem ins_cells {w : World} {g : Nat} {L : List Ins} (hc : ∀ j u, (L.flatMap Ins.cells)[j]? = some u → w.cell? ⟨g, j, none⟩ = some u) {k : Nat} {kind fn rd rs1 rs2 imm size : Int} {sg : Bool} (hk : L[k]? = some ⟨kind, fn, rd, rs1, rs2, imm, size, sg⟩) :
    w.cell? ⟨g, k * 8, none⟩ = some (.int .i64 kind) ∧ w.cell? ⟨g, k * 8 + 1, none⟩ = some (.int .i64 fn) ∧ w.cell? ⟨g, k * 8 + 2, none⟩ = some (.int .i64 rd) ∧ w.cell? ⟨g, k * 8 + 3, none⟩ = some (.int .i64 rs1) ∧ w.cell? ⟨g, k * 8 + 4, none⟩ = some (.int .i64 rs2) ∧ w.cell? ⟨g, k * 8 + 5, none⟩ = some (.int .i64 imm) ∧ w.cell? ⟨g, k * 8 + 6, none⟩ = some (.int .i64 size) ∧ w.cell? ⟨g, k * 8 + 7, none⟩ = some (.bool sg) := by
  have f := fun m hm => flat_get L k _ m hk hm
  refine ⟨?_, ?_, ?_, ?_, ?_, ?_, ?_, ?_⟩
  · exact hc _ _ ((f 0 (by omega)).trans rfl)
  · exact hc _ _ ((f 1 (by omega)).trans rfl)
  · exact hc _ _ ((f 2 (by omega)).trans rfl)
  · exact hc _ _ ((f 3 (by omega)).trans rfl)
  · exact hc _ _ ((f 4 (by omega)).trans rfl)
  · exact hc _ _ ((f 5 (by omega)).trans rfl)
  · exact hc _ _ ((f 6 (by omega)).trans rfl)
  · exact hc _ _ ((f 7 (by omega)).trans rfl)

/-- The cells of an instruction in a block of its own, and one cell besides, stay while memory is made. -/
def Cells9 (p wb : Nat) (kind fn rd rs1 rs2 imm size : Int) (sg : Bool) (w0 : ByteArray) (w' : World) : Prop :=
  w'.cell? ⟨p, 0, none⟩ = some (.int .i64 kind) ∧ w'.cell? ⟨p, 1, none⟩ = some (.int .i64 fn) ∧ w'.cell? ⟨p, 2, none⟩ = some (.int .i64 rd) ∧ w'.cell? ⟨p, 3, none⟩ = some (.int .i64 rs1) ∧ w'.cell? ⟨p, 4, none⟩ = some (.int .i64 rs2) ∧ w'.cell? ⟨p, 5, none⟩ = some (.int .i64 imm) ∧ w'.cell? ⟨p, 6, none⟩ = some (.int .i64 size) ∧ w'.cell? ⟨p, 7, none⟩ = some (.bool sg) ∧ w'.cell? ⟨wb, 0, none⟩ = some (.string w0)
theorem Cells9.below {p wb : Nat} {kind fn rd rs1 rs2 imm size : Int} {sg : Bool} {w0 : ByteArray} {w w' : World} (h : Cells9 p wb kind fn rd rs1 rs2 imm size sg w0 w) (hb : Below w.heap.size w w') (h1 : p < w.heap.size) (h2 : wb < w.heap.size) : Cells9 p wb kind fn rd rs1 rs2 imm size sg w0 w' := by
  have a := fun o => hb.cell (p := ⟨p, o, none⟩) h1
  have b := hb.cell (p := ⟨wb, 0, none⟩) h2
  unfold Cells9 at *
  rw [a, a, a, a, a, a, a, a, b]
  exact h

theorem below_undrew {B : Nat} {w w' : World} (h : Below B w.drew w') : Below B w w' := ⟨h.os, h.tape, h.output, h.size, h.block⟩

theorem hit_step {line w0 : ByteArray} {rest : List ByteArray} {L : List Ins} {k : Nat} {j : Ins} {R : Option Ins} (h : (L.drop k).findSome? (parseHit line w0 rest) = R) (hj : L[k]? = some j) :
    (parseHit line w0 rest j = none → (L.drop (k + 1)).findSome? (parseHit line w0 rest) = R) ∧ (∀ i, parseHit line w0 rest j = some i → R = some i) := by
  obtain ⟨hk, e⟩ := List.getElem?_eq_some_iff.1 hj
  rw [List.drop_eq_getElem_cons hk, e, List.findSome?_cons] at h
  refine ⟨fun hn => ?_, fun i hi => ?_⟩
  · rw [hn] at h; exact h
  · rw [hi] at h; exact h.symm

set_option maxHeartbeats 6400000 in
set_option maxRecDepth 1000000 in
theorem Parse_some (line : ByteArray) (w : World) (hs : line.size ≤ 1099511627775) (hw : Env w) (w0 : ByteArray) (rest : List ByteArray) (h : wordsOf line = w0 :: rest) :
    Calls Tryz.prog 13 #[.string line] w fun e w' => e = .returned (.tuple #[((parseOf line).getD {}).val, .bool (parseOf line).isSome]) ∧ Below w.heap.size w w' := by
  obtain ⟨R, hR⟩ : ∃ R, parseOf line = R := ⟨_, rfl⟩
  rw [hR]
  obtain ⟨L, hL⟩ : ∃ L, allIns = L := ⟨_, rfl⟩
  have hLl : L.length = 5800 := by rw [← hL]; exact allIns_length
  have hLw := Lib.hid (show ∀ i ∈ L, i.wf from hL ▸ allIns_wf)
  unfold parseOf at hR
  rw [h, hL] at hR
  simp only at hR
  have hW := fun w => words_any line w (by omega)
  have hB := words_bound line line.size 0 none
  rw [show wordsFrom line line.size 0 none = wordsOf line from rfl, h] at hB
  rw [h] at hW
  have hA := all_any
  rw [hL, hLl] at hA
  have hW := Lib.hid hW
  have hA := Lib.hid hA
  have HR := Lib.hid hR
  obtain ⟨hB1, hB2⟩ := hB
  have HB := Lib.hid hB2
  have hrl : rest.length ≤ 1099511627776 := by simp at hB1; omega
  clear hR h hL hB1 hB2
  go_enter Tryz.func13, Tryz.ntmps13
  go_upto_region 5 with (first
    | (go_at_call 38; refine (hW.out _).mono ?_; rintro e w1 ⟨v, rfl, hO, hb⟩; obtain ⟨ao, cap, rfl, hcap⟩ := row_slice hO)
    | (go_at_call 39; refine (hA.out _).mono ?_; rintro e w2 ⟨v2, rfl, hO2, hb2⟩; obtain ⟨ao2, cap2, rfl, hcap2⟩ := row_slice hO2))
  obtain ⟨_, e2⟩ | ⟨wb, cap', e1, hwb0, hwb1, _, hcm, hwc, _⟩ := row_view hO
  · simp at e2
  obtain ⟨rfl, rfl⟩ : ao = some ⟨wb, 0, none⟩ ∧ cap = cap' := by injection e1 with e1 _ e3; exact ⟨e1, e3⟩
  obtain ⟨_, e2⟩ | ⟨g, cap3, e3, hg0, hg1, _, _, hgc, _⟩ := row_view hO2
  · simp at e2
  obtain ⟨rfl, rfl⟩ : ao2 = some ⟨g, 0, none⟩ ∧ cap2 = cap3 := by injection e3 with e1 _ e3; exact ⟨e1, e3⟩
  clear e1 e3 hO hO2
  have hx2 : w2.heap[w.heap.size]? = some (.cells #[.int .i64 0, .int .i64 0, .int .i64 0, .int .i64 0, .int .i64 0, .int .i64 0, .int .i64 0, .bool false] 23 (0, 0)) := (hb2.block _ (by have := hb.size; simp at this; omega)).trans ((hb.block _ (by simp)).trans (heap_alloc_new w _))
  have hwc2 : ∀ j u, (List.map Value.string (w0 :: rest))[j]? = some u → w2.cell? ⟨wb, j, none⟩ = some u := fun j u hj => (hb2.cell (p := ⟨wb, j, none⟩) hwb1).trans (hwc j u hj)
  have hbw2 : Below w.heap.size w w2 := (((Below.refl _ w).alloc (Nat.le_refl _) _).trans (below_mono hb (by simp))).trans (below_mono hb2 (by have := hb.size; simp at this; omega))
  have hwb2 : wb < w2.heap.size := Nat.lt_of_lt_of_le hwb1 hb2.size
  have hwlt : w.heap.size < w2.heap.size := (Array.getElem?_eq_some_iff.1 hx2).1
  have hEnv := Lib.hid (hw.below hbw2)
  have hws := hw.size
  have hm0 : w.heap.size < wb := by simp at hwb0; omega
  have HWC := Lib.hid hwc2
  have HGC := Lib.hid hgc
  have HR0 := Lib.hid (show (L.drop 0).findSome? (parseHit line w0 rest) = R from HR.out)
  clear hwc hgc hwc2 hb hb2 hwb0 hg0 hwb1 hW hA HR
  go_loopw [17] (fun v17 wr => ∃ k : Nat, k ≤ 5800 ∧ v17 = .int .i64 (k : Int) ∧ Below w2.heap.size w2 wr ∧ Hid ((L.drop k).findSome? (parseHit line w0 rest) = R)) (fun v17 wr => 5800 - (intOf v17).toNat)
  case atStart => exact ⟨0, by omega, rfl, Below.refl _ _, HR0⟩
  case round =>
    clear HR0
    obtain ⟨k, hk, rfl, hbr, HR⟩ := hrel
    have hzr := hbr.size
    by_cases hkl : k < 5800
    · have hd : decide ((k : Int) < 5800) = true := decide_eq_true (by omega)
      obtain ⟨j, hj⟩ : ∃ j, L[k]? = some j := ⟨_, List.getElem?_eq_getElem (by omega)⟩
      have hst := hit_step HR.out hj
      have hjw := hLw.out j (List.mem_of_getElem? hj)
      obtain ⟨kind, fn, rd, rs1, rs2, imm, size, sg⟩ := j
      obtain ⟨c0, c1, c2, c3, c4, c5, c6, c7⟩ := ins_cells (fun j u h => (hbr.cell (p := ⟨g, j, none⟩) hg1).trans (HGC.out j u h)) hj
      have hN := name_any ⟨kind, fn, rd, rs1, rs2, imm, size, sg⟩
      have hF := fun p o c w h1 h2 h3 h4 h5 h6 h7 => fill_any ⟨kind, fn, rd, rs1, rs2, imm, size, sg⟩ p rest wb o c w h1 h2 h3 h4 h5 h6 h7 hrl
      obtain ⟨fo, hfo⟩ : ∃ fo, fillOf ⟨kind, fn, rd, rs1, rs2, imm, size, sg⟩ rest = fo := ⟨_, rfl⟩
      have hfw : ∀ j, fo = some j → j.wf := fun j e => fillOf_wf hjw (hfo.trans e)
      unfold parseHit at hst
      rw [hfo] at hF hst
      obtain ⟨nm, hnm⟩ : ∃ nm, nameOf ⟨kind, fn, rd, rs1, rs2, imm, size, sg⟩ = nm := ⟨_, rfl⟩
      rw [hnm] at hN hst
      have hN := Lib.hid hN
      have hF := Lib.hid hF
      have hst := Lib.hid hst
      have hfw := Lib.hid hfw
      have HRo := HR
      clear hnm hfo hj hjw HR
      have hcw : wr.cell? ⟨wb, 0, none⟩ = some (.string w0) := (hbr.cell (p := ⟨wb, 0, none⟩) hwb2).trans (HWC.out 0 _ rfl)
      have hcwA : ∀ o, (wr.alloc o).cell? ⟨wb, 0, none⟩ = some (.string w0) := fun o => (((Below.refl _ wr).alloc (Nat.le_refl _) o).cell (p := ⟨wb, 0, none⟩) (by simp; omega)).trans hcw
      have hS0 := Lib.hid (show Cells9 wr.heap.size wb kind fn rd rs1 rs2 imm size sg w0 (wr.alloc (.cells #[.int .i64 kind, .int .i64 fn, .int .i64 rd, .int .i64 rs1, .int .i64 rs2, .int .i64 imm, .int .i64 size, .bool sg] 23)) by
        obtain ⟨a0, a1, a2, a3, a4, a5, a6, a7⟩ := box8 (heap_alloc_new wr (.cells #[.int .i64 kind, .int .i64 fn, .int .i64 rd, .int .i64 rs1, .int .i64 rs2, .int .i64 imm, .int .i64 size, .bool sg] 23))
        exact ⟨a0, a1, a2, a3, a4, a5, a6, a7, hcwA _⟩)
      have hS0d := Lib.hid (show Cells9 wr.heap.size wb kind fn rd rs1 rs2 imm size sg w0 (wr.alloc (.cells #[.int .i64 kind, .int .i64 fn, .int .i64 rd, .int .i64 rs1, .int .i64 rs2, .int .i64 imm, .int .i64 size, .bool sg] 23)).drew from hS0.out)
      have hnw : decide (0 < rest.length + 1) = true := decide_eq_true (by omega)
      have hFill : Hid (∀ (w5 : World) (o cc : Nat), Below (wr.heap.size + 1) (wr.alloc (.cells #[.int .i64 kind, .int .i64 fn, .int .i64 rd, .int .i64 rs1, .int .i64 rs2, .int .i64 imm, .int .i64 size, .bool sg] 23)) w5 → (o = 1 ∨ rest = []) →
          Calls Tryz.prog 40 #[.pointer (some ⟨wr.heap.size, 0, none⟩), .slice (some ⟨wb, o, none⟩) rest.length cc] w5 fun e w' => e = .returned (.bool fo.isSome) ∧ Hid (w5.grownBy w' (some wr.heap.size) ∧ (∀ j, fo = some j → w'.heap[wr.heap.size]? = some (.cells j.cells.toArray 23 (0, 0))))) := Lib.hid (by
        intro w5 o cc hb5 ho
        have hbx : Below w2.heap.size w2 w5 := (hbr.alloc (by omega) _).trans (below_mono hb5 (by omega))
        refine hF.out wr.heap.size o cc w5 (hEnv.out.below hbx) ((hb5.block _ (by omega)).trans (heap_alloc_new wr _)) (by omega) ?_ (by omega) (Nat.lt_of_lt_of_le hwb2 hbx.size) ?_
        · intro j t hj
          rcases ho with rfl | rfl
          · refine (hbx.cell (p := ⟨wb, 1 + j, none⟩) hwb2).trans (HWC.out (1 + j) _ ?_)
            rw [Nat.add_comm, List.map_cons, List.getElem?_cons_succ, List.getElem?_map, hj]; rfl
          · cases hj
        · intro t ht
          have := HB.out t (List.mem_cons_of_mem _ ht)
          omega)
      go_upto_region 7 with fail
      go_cut [32] (fun s32 wx => Below w2.heap.size w2 wx ∧ ((s32 = .bool true ∧ Hid ((L.drop (k + 1)).findSome? (parseHit line w0 rest) = R)) ∨ ∃ j', s32 = .bool false ∧ wx.heap[wr.heap.size]? = some (.cells j'.cells.toArray 23 (0, 0)) ∧ wr.heap.size < wx.heap.size ∧ j'.wf ∧ Hid (((encodeOf j').isSome = true ∧ lineB j' = line → R = some j') ∧ (¬ ((encodeOf j').isSome = true ∧ lineB j' = line) → (L.drop (k + 1)).findSome? (parseHit line w0 rest) = R))))
      case first =>
        by_cases hnw0 : nm = w0
        · subst hnw0
          have b1 : (nm.toList == nm.toList) = true := by simp
          have hd1 : decide (1 ≤ rest.length + 1) = true := decide_eq_true (by omega)
          have hst2 := hst.out
          rw [if_pos rfl] at hst2
          clear hst hF
          have hfos : fo = none ∨ ∃ j, fo = some j := by cases fo with | none => exact .inl rfl | some j => exact .inr ⟨j, rfl⟩
          have hgo : ∀ (wa w5 w6 : World), Below (wr.heap.size + 1) (wr.alloc (.cells #[.int .i64 kind, .int .i64 fn, .int .i64 rd, .int .i64 rs1, .int .i64 rs2, .int .i64 imm, .int .i64 size, .bool sg] 23)) w5 → w5.grownBy w6 (some wr.heap.size) → Below w2.heap.size w2 w6 := by
            intro wa w5 w6 h1 h2
            have hbx : Below w2.heap.size w2 w5 := (hbr.alloc (by omega) _).trans (below_mono h1 (by omega))
            exact hbx.grown h2 hbx.size (fun k hk => by injection hk with hk; omega)
          have hgo := Lib.hid hgo
          rcases hfos with rfl | ⟨j, rfl⟩
          · have HR2 := Lib.hid (hst2.1 rfl)
            clear hst2 hfw
            have hc2 : cap = 1 ∨ ¬ cap = 1 := Classical.em _
            have hi1 : (Option.isSome (none : Option Ins)) = false := rfl
            rcases hc2 with hc1 | hc1
            · subst hc1
              have hr0 := Lib.hid (show rest = [] from List.eq_nil_of_length_eq_zero (by simp only [List.length_cons] at hcap; omega))
              first | (go_region_with (first
              | (go_at_call 27; refine (hN.out _).mono ?_; rintro e w5 ⟨rfl, hb5⟩; have hcw5 : w5.cell? ⟨wb, 0, none⟩ = some (.string nm) := (hb5.cell (p := ⟨wb, 0, none⟩) (by simp; omega)).trans (hcwA _); have hb6 := Lib.hid (show Below (wr.heap.size + 1) _ w5 from below_mono (below_undrew hb5) (by simp)))
              | (go_at_call 40; (with_reducible refine (hFill.out _ 0 _ hb6.out (.inr hr0.out)).mono ?_); rintro e w6 ⟨rfl, hg6⟩; clear hFill hN))) | fail
              all_goals go_wp2_with fail
              all_goals go_simp
              all_goals
                go_meet
                exact ⟨hgo.out w5 w5 w6 hb6.out hg6.out.1, .inl ⟨rfl, HR2⟩⟩
            · first | (go_region_with (first
              | (go_at_call 27; refine (hN.out _).mono ?_; rintro e w5 ⟨rfl, hb5⟩; have hcw5 : w5.cell? ⟨wb, 0, none⟩ = some (.string nm) := (hb5.cell (p := ⟨wb, 0, none⟩) (by simp; omega)).trans (hcwA _); have hb6 := Lib.hid (show Below (wr.heap.size + 1) _ w5 from below_mono (below_undrew hb5) (by simp)))
              | (go_at_call 40; (with_reducible refine (hFill.out _ 1 _ hb6.out (.inl rfl)).mono ?_); rintro e w6 ⟨rfl, hg6⟩; clear hFill hN))) | fail
              all_goals go_wp2_with fail
              all_goals go_simp
              all_goals
                go_meet
                exact ⟨hgo.out w5 w5 w6 hb6.out hg6.out.1, .inl ⟨rfl, HR2⟩⟩
          · have HR2 : Hid (((encodeOf j).isSome = true ∧ lineB j = line → R = some j) ∧ (¬ ((encodeOf j).isSome = true ∧ lineB j = line) → (L.drop (k + 1)).findSome? (parseHit line nm rest) = R)) := Lib.hid (by
              refine ⟨fun h => ?_, fun h => hst2.1 (by simp only; rw [if_neg h])⟩
              exact hst2.2 j (by simp only; rw [if_pos h]))
            have hjw := Lib.hid (hfw.out j rfl)
            clear hst2 hfw
            have hc2 : cap = 1 ∨ ¬ cap = 1 := Classical.em _
            have hi1 : (Option.isSome (some j)) = true := rfl
            rcases hc2 with hc1 | hc1
            · subst hc1
              have hr0 := Lib.hid (show rest = [] from List.eq_nil_of_length_eq_zero (by simp only [List.length_cons] at hcap; omega))
              first | (go_region_with (first
              | (go_at_call 27; refine (hN.out _).mono ?_; rintro e w5 ⟨rfl, hb5⟩; have hcw5 : w5.cell? ⟨wb, 0, none⟩ = some (.string nm) := (hb5.cell (p := ⟨wb, 0, none⟩) (by simp; omega)).trans (hcwA _); have hb6 := Lib.hid (show Below (wr.heap.size + 1) _ w5 from below_mono (below_undrew hb5) (by simp)))
              | (go_at_call 40; (with_reducible refine (hFill.out _ 0 _ hb6.out (.inr hr0.out)).mono ?_); rintro e w6 ⟨rfl, hg6⟩; clear hFill hN))) | fail
              all_goals go_wp2_with fail
              all_goals go_simp
              all_goals
                go_meet
                exact ⟨hgo.out w5 w5 w6 hb6.out hg6.out.1, .inr ⟨j, rfl, hg6.out.2 j rfl, (Array.getElem?_eq_some_iff.1 (hg6.out.2 j rfl)).1, hjw.out, HR2⟩⟩
            · first | (go_region_with (first
              | (go_at_call 27; refine (hN.out _).mono ?_; rintro e w5 ⟨rfl, hb5⟩; have hcw5 : w5.cell? ⟨wb, 0, none⟩ = some (.string nm) := (hb5.cell (p := ⟨wb, 0, none⟩) (by simp; omega)).trans (hcwA _); have hb6 := Lib.hid (show Below (wr.heap.size + 1) _ w5 from below_mono (below_undrew hb5) (by simp)))
              | (go_at_call 40; (with_reducible refine (hFill.out _ 1 _ hb6.out (.inl rfl)).mono ?_); rintro e w6 ⟨rfl, hg6⟩; clear hFill hN))) | fail
              all_goals go_wp2_with fail
              all_goals go_simp
              all_goals
                go_meet
                exact ⟨hgo.out w5 w5 w6 hb6.out hg6.out.1, .inr ⟨j, rfl, hg6.out.2 j rfl, (Array.getElem?_eq_some_iff.1 (hg6.out.2 j rfl)).1, hjw.out, HR2⟩⟩
        · have b1 : (nm.toList != w0.toList) = true := by rw [bne_iff_ne]; intro e; exact hnw0 (by rw [Lib.toList_data, Lib.toList_data] at e; exact ByteArray.ext (Array.ext' e))
          have b2 : (nm.toList == w0.toList) = false := by rw [beq_eq_false_iff_ne]; intro e; exact hnw0 (by rw [Lib.toList_data, Lib.toList_data] at e; exact ByteArray.ext (Array.ext' e))
          have HR2 := Lib.hid (hst.out.1 (by rw [if_neg hnw0]))
          clear hst hF hfw hnw0 hFill
          first | (go_region_with (go_at_call 27; refine (hN.out _).mono ?_; rintro e w5 ⟨rfl, hb5⟩; have hcw5 : w5.cell? ⟨wb, 0, none⟩ = some (.string w0) := (hb5.cell (p := ⟨wb, 0, none⟩) (by simp; omega)).trans (hcwA _))) | fail
          all_goals go_wp2_with fail
          all_goals
            go_meet
            refine ⟨?_, .inl ⟨rfl, HR2⟩⟩
            first
              | exact ((hbr.alloc (by omega) _).drew).trans (below_mono hb5 (by simp; omega))
              | exact (((hbr.alloc (by omega) _).drew).trans (below_mono hb5 (by simp; omega))).drew
      case rest =>
        clear hF hFill hst hfw hN hS0 hS0d hcwA hcw hnw HRo
        obtain ⟨hbx, ⟨rfl, HR2⟩ | ⟨j', rfl, hp6, hps, hjw', HJ⟩⟩ := hcut
        · go_wp2
          go_roundw
          case rel => exact ⟨k + 1, by omega, by go_num, hbx, HR2⟩
          case measure => simp [intOf]; omega
        · have hLine := Lib.hid (fun w h => Line_any j' hjw' w h)
          have hE := Lib.hid (hEnv.out.below hbx)
          obtain ⟨eb, heb⟩ : ∃ eb, (encodeOf j').isSome = eb := ⟨_, rfl⟩
          obtain ⟨lb, hlb⟩ : ∃ lb, lineB j' = lb := ⟨_, rfl⟩
          have hL2 := hLine.out
          have HJ2 := HJ.out
          rw [heb, hlb] at HJ2
          have hL3 : ∀ w, Env w → Calls Tryz.prog 10 #[j'.val] w fun e w' => e = .returned (.tuple #[.string lb, .bool eb]) ∧ Below w.heap.size w w' := by
            rw [← heb, ← hlb]; exact hL2
          have hL3 := Lib.hid hL3
          clear hLine hL2 HJ heb hlb hjw'
          obtain ⟨kind', fn', rd', rs1', rs2', imm', size', sg'⟩ := j'
          obtain ⟨g0, g1, g2, g3, g4, g5, g6, g7⟩ := box8 hp6
          clear hp6
          by_cases hfin : eb = true ∧ lb = line
          · have hRj := HJ2.1 hfin
            obtain ⟨rfl, rfl⟩ := hfin
            subst hRj
            clear HJ2
            have hx4 := Lib.hid (hx2)
            go_upto_region 9 with (go_at_call 10; refine (hL3.out _ hE.out).mono ?_; rintro e w7 ⟨rfl, hb7⟩)
            have hx7 : w7.heap[w.heap.size]? = _ := (hb7.block _ (Nat.lt_of_lt_of_le hwlt hbx.size)).trans ((hbx.block _ hwlt).trans hx2)
            obtain ⟨k0, k1, k2, k3, k4, k5, k6, k7⟩ := box8 hx7
            have fz : ∀ o', w7.frozen? ⟨w.heap.size, o', none⟩ = false := fun o' => Lib.frozen_of_heap hx7 o'
            have q0 : w7.cell? ⟨wr.heap.size, 0, none⟩ = some (.int .i64 kind') := (hb7.cell (p := ⟨wr.heap.size, 0, none⟩) hps).trans g0
            have q1 : w7.cell? ⟨wr.heap.size, 1, none⟩ = some (.int .i64 fn') := (hb7.cell (p := ⟨wr.heap.size, 1, none⟩) hps).trans g1
            have q2 : w7.cell? ⟨wr.heap.size, 2, none⟩ = some (.int .i64 rd') := (hb7.cell (p := ⟨wr.heap.size, 2, none⟩) hps).trans g2
            have q3 : w7.cell? ⟨wr.heap.size, 3, none⟩ = some (.int .i64 rs1') := (hb7.cell (p := ⟨wr.heap.size, 3, none⟩) hps).trans g3
            have q4 : w7.cell? ⟨wr.heap.size, 4, none⟩ = some (.int .i64 rs2') := (hb7.cell (p := ⟨wr.heap.size, 4, none⟩) hps).trans g4
            have q5 : w7.cell? ⟨wr.heap.size, 5, none⟩ = some (.int .i64 imm') := (hb7.cell (p := ⟨wr.heap.size, 5, none⟩) hps).trans g5
            have q6 : w7.cell? ⟨wr.heap.size, 6, none⟩ = some (.int .i64 size') := (hb7.cell (p := ⟨wr.heap.size, 6, none⟩) hps).trans g6
            have q7 : w7.cell? ⟨wr.heap.size, 7, none⟩ = some (.bool sg') := (hb7.cell (p := ⟨wr.heap.size, 7, none⟩) hps).trans g7
            have bb : (lb.toList == lb.toList) = true := by simp
            clear g0 g1 g2 g3 g4 g5 g6 g7
            go_wp2
            refine bodyPost_ret (v := .tuple #[Ins.val ⟨kind', fn', rd', rs1', rs2', imm', size', sg'⟩, .bool true]) (by simp [results, Tryz.results13, go_sem, Ins.val, k0, k1, k2, k3, k4, k5, k6, k7]) rfl ⟨rfl, ?_⟩
            have hb8 : Below w.heap.size w w7 := (hbw2.trans (below_mono hbx (Nat.le_of_lt hwlt))).trans (below_mono hb7 (Nat.le_trans (Nat.le_of_lt hwlt) hbx.size))
            repeat' (first | (with_reducible exact hb8) | (with_reducible refine Below.setCell ?_ ?_ _) | (with_reducible exact Nat.le_refl _))
          · have HR2 := Lib.hid (HJ2.2 hfin)
            have hzz := Lib.hid (fun (w7 : World) h => hbx.trans (below_mono (w' := w7) h hbx.size))
            cases eb with
            | false =>
              clear HJ2 hfin
              go_wp2_with (go_at_call 10; refine (hL3.out _ hE.out).mono ?_; rintro e w7 ⟨rfl, hb7⟩)
              go_roundw
              case rel => exact ⟨k + 1, by omega, by go_num, hzz.out _ hb7, HR2⟩
              case measure => simp [intOf]; omega
            | true =>
              have hne : ¬ lb = line := fun h => hfin ⟨rfl, h⟩
              have bb : (lb.toList == line.toList) = false := by rw [beq_eq_false_iff_ne]; intro e; exact hne (by rw [Lib.toList_data, Lib.toList_data] at e; exact ByteArray.ext (Array.ext' e))
              clear HJ2 hfin hne
              go_wp2_with (go_at_call 10; refine (hL3.out _ hE.out).mono ?_; rintro e w7 ⟨rfl, hb7⟩)
              go_roundw
              case rel => exact ⟨k + 1, by omega, by go_num, hzz.out _ hb7, HR2⟩
              case measure => simp [intOf]; omega
    · have hk8 : k = 5800 := by omega
      subst hk8
      have hRn : R = none := by
        have := HR.out
        rw [List.drop_eq_nil_of_le (by omega)] at this
        exact this.symm
      subst hRn
      have hx7 : wr.heap[w.heap.size]? = _ := (hbr.block _ hwlt).trans hx2
      obtain ⟨k0, k1, k2, k3, k4, k5, k6, k7⟩ := box8 hx7
      have fz : ∀ o', wr.frozen? ⟨w.heap.size, o', none⟩ = false := fun o' => Lib.frozen_of_heap hx7 o'
      go_wp2
      refine bodyPost_ret (v := .tuple #[Ins.val {}, .bool false]) (by simp [results, Tryz.results13, go_sem, Ins.val, k0, k1, k2, k3, k4, k5, k6, k7]) rfl ⟨rfl, ?_⟩
      have hb8 : Below w.heap.size w wr := hbw2.trans (below_mono hbr (Nat.le_of_lt hwlt))
      repeat' (first | (with_reducible exact hb8) | (with_reducible refine Below.setCell ?_ ?_ _) | (with_reducible exact Nat.le_refl _))

theorem Parse_any (line : ByteArray) (w : World) (hs : line.size ≤ 1099511627775) (hw : Env w) :
    Calls Tryz.prog 13 #[.string line] w fun e w' => e = .returned (.tuple #[((parseOf line).getD {}).val, .bool (parseOf line).isSome]) ∧ Below w.heap.size w w' := by
  cases h : wordsOf line with
  | nil =>
    have : parseOf line = none := by unfold parseOf; rw [h]
    rw [this]
    exact Parse_none line w hs h
  | cons w0 rest => exact Parse_some line w hs hw w0 rest h
end Go.Proofs.YtmklpjelfonilaaGreatDoor
