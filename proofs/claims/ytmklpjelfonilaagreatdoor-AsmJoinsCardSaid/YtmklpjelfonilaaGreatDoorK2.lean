/- Arguments and results of the rows: an instruction, a text; the row's last step. -/
import Derived.Test.YtmklpjelfonilaaGreatDoorK1
import Derived.Test.YtmklpjelfonilaaGreatDoorD1
import Derived.Lib.SmallJoins
import Derived.ChangeSame
namespace Go.Proofs.YtmklpjelfonilaaGreatDoor
open Go.Joins Go.ChangeShapes Go.WideShapes Go.ChangeAt Go.RowKit Go.Deep
set_option linter.unusedVariables false
section
variable {H : Type} {enc : TypeId × Value → H} {P : Program} {w : World} {base : Nat} {spare : Nat → Bool} {held : Bool}
theorem open_agg8 {r : Reach} {b0 : Nat} {t : TypeId} {f0 f1 f2 f3 f4 f5 f6 f7 : Field} {v : Value} {d : DataW H} {p : List MemPlace} (hs : P.underlying t = some (.struct #[f0, f1, f2, f3, f4, f5, f6, f7])) (hone : oneCellFields P #[f0, f1, f2, f3, f4, f5, f6, f7] = true) (hC : P.cellsOf t = 8)
    (hv : Value.okWide P w r b0 t v) (h : DataW.Trod enc P w base spare held t v d p) :
    ∃ (v0 v1 v2 v3 v4 v5 v6 v7 : Value) (y0 y1 y2 y3 y4 y5 y6 y7 : DataW H × List MemPlace) (n : Nat), v = .agg #[v0, v1, v2, v3, v4, v5, v6, v7] ∧ d = .agg [y0.1, y1.1, y2.1, y3.1, y4.1, y5.1, y6.1, y7.1] ∧ p = y0.2 ++ (y1.2 ++ (y2.2 ++ (y3.2 ++ (y4.2 ++ (y5.2 ++ (y6.2 ++ (y7.2))))))) ∧
      DataW.trod enc P w base spare held n f0.type [v0] = some y0 ∧ DataW.trod enc P w base spare held n f1.type [v1] = some y1 ∧ DataW.trod enc P w base spare held n f2.type [v2] = some y2 ∧ DataW.trod enc P w base spare held n f3.type [v3] = some y3 ∧ DataW.trod enc P w base spare held n f4.type [v4] = some y4 ∧ DataW.trod enc P w base spare held n f5.type [v5] = some y5 ∧ DataW.trod enc P w base spare held n f6.type [v6] = some y6 ∧ DataW.trod enc P w base spare held n f7.type [v7] = some y7 := by
  obtain ⟨cs, rfl, hsz⟩ := okWide_struct hs hv
  obtain ⟨l⟩ := cs
  match l, hsz.trans hC with
  | [c0, c1, c2, c3, c4, c5, c6, c7], _ =>
    obtain ⟨fuel, hf⟩ := h
    obtain ⟨xs, n, _, hx, _, hlen, hg⟩ := DataW.trod_struct hs hf
    obtain ⟨o0, k0⟩ := hone_of hone 0 f0 rfl
    obtain ⟨o1, k1⟩ := hone_of hone 1 f1 rfl
    obtain ⟨o2, k2⟩ := hone_of hone 2 f2 rfl
    obtain ⟨o3, k3⟩ := hone_of hone 3 f3 rfl
    obtain ⟨o4, k4⟩ := hone_of hone 4 f4 rfl
    obtain ⟨o5, k5⟩ := hone_of hone 5 f5 rfl
    obtain ⟨o6, k6⟩ := hone_of hone 6 f6 rfl
    obtain ⟨o7, k7⟩ := hone_of hone 7 f7 rfl
    match xs, hlen with
    | [y0, y1, y2, y3, y4, y5, y6, y7], _ =>
      simp only [Prod.mk.injEq] at hx
      exact ⟨c0, c1, c2, c3, c4, c5, c6, c7, y0, y1, y2, y3, y4, y5, y6, y7, n, rfl, by simpa using hx.1, by simpa using hx.2, by simpa [Value.cells, o0, k0] using hg 0 f0 rfl, by simpa [Value.cells, o1, k1] using hg 1 f1 rfl, by simpa [Value.cells, o2, k2] using hg 2 f2 rfl, by simpa [Value.cells, o3, k3] using hg 3 f3 rfl, by simpa [Value.cells, o4, k4] using hg 4 f4 rfl, by simpa [Value.cells, o5, k5] using hg 5 f5 rfl, by simpa [Value.cells, o6, k6] using hg 6 f6 rfl, by simpa [Value.cells, o7, k7] using hg 7 f7 rfl⟩

theorem post_of_below {f : Func} {s : ChangeSpec} {apart fresh handsOn again : Bool} {W W' : World} {args : Array Value} {v : Value} {ds gs : List (DataW H)} {before pa pv : List MemPlace}
    (hW : DataW.Whole enc P f.params.toList s.vars apart W args.toList ds gs before)
    (hres : ∀ (b : Nat) (sp : Nat → Bool) (hd : Bool), DataW.TrodAll enc P W' b sp hd f.resultTypes.toList (v.resultList f.resultTypes.size) (s.fn H (ds ++ gs)).results [])
    (hargs : ∀ sp : Nat → Bool, (∀ p ∈ before, sp p.block = true) → DataW.TrodAll enc P W' 0 sp true f.params.toList args.toList (s.fn H (ds ++ gs)).args pa)
    (hvars : ∀ sp : Nat → Bool, (∀ p ∈ before, sp p.block = true) → DataW.TrodVars enc P W' sp s.vars (s.fn H (ds ++ gs)).vars pv)
    (hps : before = pa ++ pv) (hb : Below W.heap.size W W')
    (hok : ∀ (j : Nat) (t : TypeId) (r : Value), f.resultTypes[j]? = some t → (v.resultList f.resultTypes.size)[j]? = some r → Value.okWide P W' .any 0 t r) :
    s.post enc P f apart fresh handsOn again W args v W' := by
  have hlt : ∀ p ∈ before, p.block < W.heap.size := fun p hp => hW.lt p hp
  have hold : ∀ p ∈ before, (fun b => decide (b < W.heap.size)) p.block = true := fun p hp => by simpa using hlt p hp
  refine ⟨ds, gs, before, [], pa, pv, hW, hres _ _ _, hargs _ hold, hvars _ hold, World.keptBut_mono (fun p hp => ⟨hp, ?_⟩) (hb.frame (· ∈ before)), fun _ => ?_⟩
  · rw [hps, List.mem_append] at hp
    exact Or.inr hp
  · obtain ⟨_, _, _, _, _, hz, hn⟩ := hW
    refine ⟨hok, _, _, ([] ++ pa) ++ pv, ⟨[] ++ pa, pv, trodAll_append (hargs _ (fun _ _ => rfl)) (hres _ _ _), hvars _ (fun _ _ => rfl), rfl, ?_, ?_⟩, ?_⟩
    · intro b off hp
      have hin : MemPlace.cell b off ∈ before := by rw [hps]; simpa using hp
      rw [hb.frozen (hlt _ hin)]
      exact hz b off hin
    · intro ha
      have := hn ha
      rw [hps] at this
      simpa using this
    · intro p hp _
      rw [hps]
      simpa using hp
end

theorem cells23 : Tryz.prog.cellsOf 23 = 8 := by kernel_rfl
theorem cells3 : Tryz.prog.cellsOf 3 = 1 := by kernel_rfl
theorem cells4 : Tryz.prog.cellsOf 4 = 1 := by kernel_rfl
section
variable {H : Type} {enc : TypeId × Value → H} {w : World} {base : Nat} {spare : Nat → Bool} {held : Bool}
/-- An instruction's reading. -/
def insD (i : Ins) : DataW H := .agg [.lit (.int .i64 i.kind), .lit (.int .i64 i.fn), .lit (.int .i64 i.rd), .lit (.int .i64 i.rs1), .lit (.int .i64 i.rs2), .lit (.int .i64 i.imm), .lit (.int .i64 i.size), .lit (.bool i.signed)]
/-- All its numbers are the machine's. -/
def Ins.wf7 (i : Ins) : Prop := (Lit.int .i64 i.kind).wf = true ∧ (Lit.int .i64 i.fn).wf = true ∧ (Lit.int .i64 i.rd).wf = true ∧ (Lit.int .i64 i.rs1).wf = true ∧ (Lit.int .i64 i.rs2).wf = true ∧ (Lit.int .i64 i.imm).wf = true ∧ (Lit.int .i64 i.size).wf = true

theorem int_cell {n : Nat} {v : Value} {y : DataW H × List MemPlace} (h : DataW.trod enc Tryz.prog w base spare held n 3 [v] = some y) : ∃ a, v = .int .i64 a ∧ y = (.lit (.int .i64 a), []) ∧ (Lit.int .i64 a).wf = true := by
  obtain ⟨a, hv, hy, hw⟩ := DataW.trod_int Tryz.underlying3 h
  exact ⟨a, by injection hv, hy, hw⟩
theorem bool_cell {n : Nat} {v : Value} {y : DataW H × List MemPlace} (h : DataW.trod enc Tryz.prog w base spare held n 4 [v] = some y) : ∃ a, v = .bool a ∧ y = (.lit (.bool a), []) := by
  obtain ⟨a, hv, hy⟩ := DataW.trod_bool Tryz.underlying4 h
  exact ⟨a, by injection hv, hy⟩

set_option maxRecDepth 1000000 in
theorem open_inst {r : Reach} {b0 : Nat} {v : Value} {d : DataW H} {p : List MemPlace} (hv : Value.okWide Tryz.prog w r b0 23 v) (h : DataW.Trod enc Tryz.prog w base spare held 23 v d p) : ∃ i : Ins, v = i.val ∧ d = insD i ∧ p = [] ∧ i.wf7 := by
  obtain ⟨v0, v1, v2, v3, v4, v5, v6, v7, y0, y1, y2, y3, y4, y5, y6, y7, n, rfl, rfl, rfl, h0, h1, h2, h3, h4, h5, h6, h7⟩ := open_agg8 Tryz.underlying23 (by kernel_rfl) cells23 hv h
  obtain ⟨a0, rfl, rfl, w0⟩ := int_cell h0
  obtain ⟨a1, rfl, rfl, w1⟩ := int_cell h1
  obtain ⟨a2, rfl, rfl, w2⟩ := int_cell h2
  obtain ⟨a3, rfl, rfl, w3⟩ := int_cell h3
  obtain ⟨a4, rfl, rfl, w4⟩ := int_cell h4
  obtain ⟨a5, rfl, rfl, w5⟩ := int_cell h5
  obtain ⟨a6, rfl, rfl, w6⟩ := int_cell h6
  obtain ⟨a7, rfl, rfl⟩ := bool_cell h7
  exact ⟨⟨a0, a1, a2, a3, a4, a5, a6, a7⟩, rfl, rfl, rfl, w0, w1, w2, w3, w4, w5, w6⟩

theorem shut_inst (i : Ins) (hi : i.wf7) : DataW.Trod enc Tryz.prog w base spare held 23 i.val (insD i) [] := by
  obtain ⟨w0, w1, w2, w3, w4, w5, w6⟩ := hi
  refine ⟨2, ?_⟩
  have hb : DataW.trod enc Tryz.prog w base spare held 1 4 [.bool i.signed] = some (.lit (.bool i.signed), []) := by simp [DataW.trod, Tryz.underlying4]
  exact trod_struct_mk (n := 1) (cs := [.int .i64 i.kind, .int .i64 i.fn, .int .i64 i.rd, .int .i64 i.rs1, .int .i64 i.rs2, .int .i64 i.imm, .int .i64 i.size, .bool i.signed])
    (xs := [(.lit (.int .i64 i.kind), []), (.lit (.int .i64 i.fn), []), (.lit (.int .i64 i.rd), []), (.lit (.int .i64 i.rs1), []), (.lit (.int .i64 i.rs2), []), (.lit (.int .i64 i.imm), []), (.lit (.int .i64 i.size), []), (.lit (.bool i.signed), [])]) Tryz.underlying23 (by rw [cells23]; rfl)
    (by simp [cells3, cells4, trod_int_mk 0 Tryz.underlying3 w0, trod_int_mk 0 Tryz.underlying3 w1, trod_int_mk 0 Tryz.underlying3 w2, trod_int_mk 0 Tryz.underlying3 w3, trod_int_mk 0 Tryz.underlying3 w4, trod_int_mk 0 Tryz.underlying3 w5, trod_int_mk 0 Tryz.underlying3 w6, hb])
set_option maxRecDepth 1000000 in
theorem wf_i64 {n : Int} (h : (Lit.int .i64 n).wf = true) : -9223372036854775808 ≤ n ∧ n ≤ 9223372036854775807 := by
  simpa [Lit.wf, IntKind.min, IntKind.max, IntKind.signed, IntKind.bits] using h
theorem wf_of7 {i : Ins} (h : i.wf7) : i.wf := by
  obtain ⟨_, _, w2, w3, w4, w5, _⟩ := h
  exact ⟨wf_i64 w2, wf_i64 w3, wf_i64 w4, wf_i64 w5⟩
end
end Go.Proofs.YtmklpjelfonilaaGreatDoor
