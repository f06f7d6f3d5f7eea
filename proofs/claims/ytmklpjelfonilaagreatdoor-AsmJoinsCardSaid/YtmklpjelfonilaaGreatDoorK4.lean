/- Arguments that are slices: of instructions, of bytes; an argument reads behind the call as it did. -/
import Derived.Test.YtmklpjelfonilaaGreatDoorK2
import Derived.Test.YtmklpjelfonilaaGreatDoorJ1
import Derived.Deep.Slices
import Derived.Carry
namespace Go.Proofs.YtmklpjelfonilaaGreatDoor
open Go.Joins Go.ChangeShapes Go.WideShapes Go.ChangeAt Go.RowKit Go.Deep
set_option linter.unusedVariables false
set_option linter.constructorNameAsVariable false
theorem laidOutT : laidOutB Tryz.prog = true := by kernel_rfl
section
variable {H : Type} {enc : TypeId × Value → H} {w : World} {base : Nat} {spare : Nat → Bool} {held : Bool}
theorem stays_arg {t : TypeId} {v : Value} {d : DataW H} {ps : List MemPlace} {W W' : World} (hr : Tryz.prog.readableRec t = true) (hrow : t < Tryz.prog.types.size) (h : DataW.Trod enc Tryz.prog W 0 (fun _ => true) true t v d ps)
    (hb : Below W.heap.size W W') (hlt : ∀ x ∈ ps, x.block < W.heap.size) (sp : Nat → Bool) (hs : ∀ x ∈ ps, sp x.block = true) : DataW.Trod enc Tryz.prog W' 0 sp true t v d ps :=
  WideElems.Trod_stays laidOutT hr hrow h (fun x hx => hb.same (hlt x hx)) hs

set_option maxRecDepth 1000000 in
theorem inst_cells {fuel : Nat} {cs : List Value} {x : DataW H × List MemPlace} (h : DataW.trod enc Tryz.prog w base spare held fuel 23 cs = some x) : ∃ i : Ins, cs = i.cells ∧ i.wf7 := by
  obtain ⟨xs, n, _, hx, hcl, hlen, hg⟩ := DataW.trod_struct Tryz.underlying23 h
  rw [cells23] at hcl
  match cs, hcl with
  | [c0, c1, c2, c3, c4, c5, c6, c7], _ =>
    match xs, hlen with
    | [y0, y1, y2, y3, y4, y5, y6, y7], _ =>
      have h0 := hg 0 _ rfl
      have h1 := hg 1 _ rfl
      have h2 := hg 2 _ rfl
      have h3 := hg 3 _ rfl
      have h4 := hg 4 _ rfl
      have h5 := hg 5 _ rfl
      have h6 := hg 6 _ rfl
      have h7 := hg 7 _ rfl
      simp [cells3, cells4] at h0 h1 h2 h3 h4 h5 h6 h7
      obtain ⟨a0, rfl, _, w0⟩ := int_cell h0
      obtain ⟨a1, rfl, _, w1⟩ := int_cell h1
      obtain ⟨a2, rfl, _, w2⟩ := int_cell h2
      obtain ⟨a3, rfl, _, w3⟩ := int_cell h3
      obtain ⟨a4, rfl, _, w4⟩ := int_cell h4
      obtain ⟨a5, rfl, _, w5⟩ := int_cell h5
      obtain ⟨a6, rfl, _, w6⟩ := int_cell h6
      obtain ⟨a7, rfl, _⟩ := bool_cell h7
      exact ⟨⟨a0, a1, a2, a3, a4, a5, a6, a7⟩, rfl, w0, w1, w2, w3, w4, w5, w6⟩

instance : Inhabited Ins := ⟨{}⟩
theorem flat_len : ∀ L : List Ins, (L.flatMap Ins.cells).length = 8 * L.length
  | [] => rfl
  | i :: L => by rw [List.flatMap_cons, List.length_append, flat_len L]; simp [Ins.cells]; omega

set_option maxRecDepth 1000000 in
theorem open_insts {r : Reach} {b0 : Nat} {v : Value} {d : DataW H} {p : List MemPlace} (hv : Value.okWide Tryz.prog w r b0 41 v) (h : DataW.Trod enc Tryz.prog w base spare held 41 v d p) : ∃ is : List Ins, InsSl w v is ∧ (∀ i ∈ is, i.wf) ∧ is.length ≤ maxLen := by
  obtain ⟨ao, n, c, rfl⟩ := okWide_slice Tryz.underlying41 hv
  obtain ⟨fuel, hf⟩ := h
  rcases open_slice Tryz.underlying41 hf with ⟨hcs, _⟩ | ⟨a, len, cap, m, n', D, Pl, hcs, hb, hl, hm, hmm, _, hx⟩
  · simp [Value.cells] at hcs
    obtain ⟨rfl, rfl, rfl⟩ := hcs
    exact ⟨[], ⟨none, 0, rfl, .inl rfl⟩, by simp, by simp⟩
  · simp [Value.cells] at hcs
    obtain ⟨rfl, rfl, rfl⟩ := hcs
    have hlm : n ≤ m := by rw [hmm]; split <;> omega
    have each : ∀ i, i < n → ∃ q : Ins, q.wf7 ∧ ∀ j, j < 8 → w.cell? (a.add (i * 8 + j)) = q.cells[j]? := by
      intro i hi
      obtain ⟨cs', h1, h2⟩ := hx i (by omega)
      rw [cells23] at h1
      obtain ⟨q, rfl, hq⟩ := inst_cells h2
      obtain ⟨_, _, hc⟩ := World.cells?_some h1
      refine ⟨q, hq, fun j hj => ?_⟩
      rw [← add_add]
      exact hc j hj
    obtain ⟨q, hq⟩ := choose_lt each
    refine ⟨(List.range n).map q, ⟨some a, c, by simp, ?_⟩, ?_, by simp; omega⟩
    · by_cases h0 : n = 0
      · subst h0; exact .inl rfl
      · right
        obtain ⟨b, off, spot⟩ := a
        have hc0 := (hq 0 (by omega)).2 0 (by omega)
        have hspot : spot = none := by simpa [Addr.add] using World.cell?_spot (hc0.trans rfl)
        subst hspot
        refine ⟨b, off, rfl, World.block_lt_of_cell? _ _ (hc0.trans rfl), fun j u hj => ?_⟩
        have hjl : j < 8 * n := by
          have := (List.getElem?_eq_some_iff.1 hj).1
          rw [flat_len] at this
          simpa using this
        have hk : j / 8 < n := by omega
        have hjj : j = j / 8 * 8 + j % 8 := by omega
        have hL : ((List.range n).map q)[j / 8]? = some (q (j / 8)) := by simp [hk]
        have hcell := (hq (j / 8) hk).2 (j % 8) (by omega)
        rw [← flat_get _ _ _ _ hL (by omega), ← hjj, hj, add_plain] at hcell
        exact hcell
    · intro i hi
      obtain ⟨k, hk, rfl⟩ := List.mem_map.1 hi
      exact wf_of7 (hq k (List.mem_range.1 hk)).1

set_option maxRecDepth 1000000 in
theorem open_bytes {r : Reach} {b0 : Nat} {v : Value} {d : DataW H} {p : List MemPlace} (hv : Value.okWide Tryz.prog w r b0 38 v) (h : DataW.Trod enc Tryz.prog w base spare held 38 v d p) :
    ∃ xs : List Int, BytSl w v xs ∧ (∀ x ∈ xs, 0 ≤ x ∧ x < 256) ∧ (v = .slice none 0 0 ∨ ∃ ys sp, ys.length = xs.length ∧ d = .slice ys sp) ∧ ∀ ao n c, v = .slice ao n c → n ≤ c ∧ c ≤ maxLen := by
  obtain ⟨ao, n, c, rfl⟩ := okWide_slice Tryz.underlying38 hv
  obtain ⟨fuel, hf⟩ := h
  rcases open_slice Tryz.underlying38 hf with ⟨hcs, _⟩ | ⟨a, len, cap, m, n', D, Pl, hcs, hb, hl, hm, hmm, hd, hx⟩
  · simp [Value.cells] at hcs
    obtain ⟨rfl, rfl, rfl⟩ := hcs
    exact ⟨[], ⟨none, 0, rfl, .inl rfl⟩, by simp, .inl rfl, fun ao n c e => by injection e with _ e1 e2; subst e1; subst e2; exact ⟨Nat.le_refl _, Nat.zero_le _⟩⟩
  · simp [Value.cells] at hcs
    obtain ⟨rfl, rfl, rfl⟩ := hcs
    have hlm : n ≤ m := by rw [hmm]; split <;> omega
    have hc5 : Tryz.prog.cellsOf 5 = 1 := by kernel_rfl
    have each : ∀ i, i < n → ∃ q : Int, (0 ≤ q ∧ q < 256) ∧ w.cell? (a.add i) = some (.int .u8 q) := by
      intro i hi
      obtain ⟨cs', h1, h2⟩ := hx i (by omega)
      rw [hc5, Nat.mul_one] at h1
      obtain ⟨q, rfl, _, hq⟩ := DataW.trod_int Tryz.underlying5 h2
      have hq2 : 0 ≤ q ∧ q ≤ 255 := by simpa [Lit.wf, IntKind.min, IntKind.max, IntKind.signed, IntKind.bits] using hq
      exact ⟨q, ⟨hq2.1, by omega⟩, cell_of_cells?_one h1⟩
    obtain ⟨q, hq⟩ := choose_lt each
    refine ⟨(List.range n).map q, ⟨some a, c, by simp, ?_⟩, ?_, .inr ⟨(List.range n).map D, _, by simp, congrArg Prod.fst hd⟩, fun ao n' c' e => by injection e with _ e1 e2; subst e1; subst e2; exact ⟨hl, hm⟩⟩
    · by_cases h0 : n = 0
      · subst h0; exact .inl rfl
      · right
        obtain ⟨b, off, spot⟩ := a
        have hc0 := (hq 0 (by omega)).2
        have hspot : spot = none := by simpa [Addr.add] using World.cell?_spot hc0
        subst hspot
        refine ⟨b, off, rfl, World.block_lt_of_cell? _ _ hc0, fun j u hj => ?_⟩
        have hjl : j < n := by
          have := (List.getElem?_eq_some_iff.1 hj).1
          simpa using this
        have hcell := (hq j hjl).2
        rw [add_plain] at hcell
        simp [hjl] at hj
        rw [hj] at hcell
        exact hcell
    · intro i hi
      obtain ⟨k, hk, rfl⟩ := List.mem_map.1 hi
      exact (hq k (List.mem_range.1 hk)).1
end
end Go.Proofs.YtmklpjelfonilaaGreatDoor
