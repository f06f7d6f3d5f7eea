/- AsmJoins: what its two texts are put together to; slices of instructions. -/
import Derived.Test.YtmklpjelfonilaaGreatDoorM1
import Derived.Test.YtmklpjelfonilaaGreatDoorH2
namespace Go.Proofs.YtmklpjelfonilaaGreatDoor
open Go.RowKit
set_option linter.unusedVariables false
set_option linter.unusedSimpArgs false

/-! ### Texts of instructions -/
/-- Those that may be written. -/
def okOf (is : List Ins) : List Ins := is.filter fun i => (encodeOf i).isSome
/-- Their lines. -/
def srcL (is : List Ins) : List UInt8 := joinL ((okOf is).map lineL)
/-- Their words. -/
def binL (is : List Ins) : List Int := (okOf is).flatMap fun i => bytes4 ((encodeOf i).getD 0)
theorem okOf_some {is : List Ins} : ∀ i ∈ okOf is, (encodeOf i).isSome = true := fun i hi => (List.mem_filter.1 hi).2
theorem okOf_append (a b : List Ins) : okOf (a ++ b) = okOf a ++ okOf b := by unfold okOf; rw [List.filter_append]
theorem okOf_length (a : List Ins) : (okOf a).length ≤ a.length := List.length_filter_le _ _
theorem plain_lines (is : List Ins) : ∀ l ∈ (okOf is).map lineL, Plain l := by
  intro l hl
  obtain ⟨i, hi, rfl⟩ := List.mem_map.1 hl
  exact (line_told (good_some (okOf_some i hi))).toPlain
theorem src_lines (is : List Ins) : linesL (srcL is) = (okOf is).map lineL := lines_join _ (plain_lines is)
theorem src_append (a b : List Ins) : srcL (a ++ b) = srcL a ++ srcL b := by
  unfold srcL; rw [okOf_append, List.map_append, joinL_append]
theorem src_length (is : List Ins) : (srcL is).length ≤ 4001 * is.length := by
  induction is with
  | nil => simp [srcL, okOf, joinL]
  | cons i is ih =>
    rw [show i :: is = [i] ++ is from rfl, src_append, List.length_append, List.length_append]
    have : (srcL [i]).length ≤ 4001 := by
      unfold srcL okOf
      by_cases h : (encodeOf i).isSome = true
      · have := line_length i (good_some h).wf
        simp [h, joinL]; omega
      · simp [h, joinL]
    simp only [List.length_cons, List.length_nil]
    omega
theorem bin_append (a b : List Ins) : binL (a ++ b) = binL a ++ binL b := by unfold binL; rw [okOf_append, List.flatMap_append]
theorem bin_length (is : List Ins) : (binL is).length = 4 * (okOf is).length := by
  unfold binL
  induction okOf is with
  | nil => rfl
  | cons i l ih => rw [List.flatMap_cons, List.length_append, ih]; simp [bytes4]; omega
/-- What the lines are put together to. -/
theorem src_asm (is : List Ins) (h : is.length ≤ 16384) : asmOf (linesL (srcL is)) = .inr (binL is) := by
  rw [src_lines]
  unfold asmOf
  have := okOf_length is
  have h2 := asm_lines (placesL ((okOf is).map lineL)).1 (placesL ((okOf is).map lineL)).2 (okOf is) 0 [] [] okOf_some (by simp; omega)
  rw [List.append_nil] at h2
  rw [h2, asmFrom]
  simp [binL]
theorem src_asmB (is : List Ins) (h : is.length ≤ 16384) : asmB (srcL is) = binL is := by unfold asmB; rw [src_asm is h]; rfl
theorem src_asmW (is : List Ins) (h : is.length ≤ 16384) : asmW (srcL is) = 0 := by unfold asmW; rw [src_asm is h]; rfl

/-! ### The wrong line -/
theorem words_inj {i j : Ins} (hi : Good i) (hj : Good j) (h : wordsOf (mkB (lineL i)) = wordsOf (mkB (lineL j))) : i = j := by
  have w1 := line_words hi
  have w2 := line_words hj
  rw [h, w2] at w1
  injection w1 with hn hw
  have ht := tm_of_name hj hi hn
  have htm : j.tmpl = i.tmpl := by
    unfold Ins.tm at ht
    unfold Ins.tmpl
    injection ht with e1 e2
    injection e2 with e2 e3
    injection e3 with e3 e4
    rw [e1, e2, e3, e4]
  have f1 := fill_told hi
  have f2 := fill_told hj
  rw [htm, hw, f1] at f2
  exact Option.some.inj f2
/-- 'addi x1,x2,3' -/
def wrongLine : List UInt8 := [97, 100, 100, 105, 32, 120, 49, 44, 120, 50, 44, 51]
def lineNear : Ins := ⟨9, 1, 1, 2, 0, 3, 0, false⟩
theorem wrong_parse : parseOf ⟨wrongLine.toArray⟩ = none := by
  cases h : parseOf ⟨wrongLine.toArray⟩ with
  | none => rfl
  | some k =>
    exfalso
    obtain ⟨h1, h2⟩ := parse_sound h
    have hn : (encodeOf lineNear).isSome = true := by decide +kernel
    have hw : wordsOf (mkB (lineL lineNear)) = wordsOf ⟨wrongLine.toArray⟩ := by decide +kernel
    have hk := lineB_some h1
    rw [h2] at hk
    have := words_inj (good_some hn) (good_some h1) (by rw [hw, hk])
    subst this
    revert hk
    decide +kernel
theorem places_no : ∀ (ls : List (List UInt8)) (i bytes : Int) (m : (List UInt8 → Option Int) × (List UInt8 → Option Int)), (∀ l ∈ ls, markB l = false) → placesFrom ls i bytes m = m
  | [], _, _, _, _ => rfl
  | l :: ls, i, bytes, m, h => by
    have hl := h l (List.mem_cons_self ..)
    rw [placesFrom, hl]
    split
    · exact places_no ls _ _ _ (fun k hk => h k (List.mem_cons_of_mem _ hk))
    · rw [if_neg (by simp)]
      exact places_no ls _ _ _ (fun k hk => h k (List.mem_cons_of_mem _ hk))
theorem wrong_word (p : Int) : wordOf (fun _ => none) p ⟨wrongLine.toArray⟩ = none := by
  unfold wordOf
  rw [if_neg (by decide +kernel), wrong_parse]
  simp only
  split <;> rfl
theorem wrong_plain : Plain wrongLine := by
  refine ⟨⟨?_, ?_⟩, by decide⟩ <;> (intro c hc; simp [wrongLine] at hc; subst hc; decide)
theorem wrong_asm (a b : List Ins) (h : a.length ≤ 16384) : asmOf (linesL (srcL a ++ (wrongLine ++ [10]) ++ srcL b)) = .inl ((okOf a).length + 1) := by
  have e : srcL a ++ (wrongLine ++ [10]) ++ srcL b = joinL ((okOf a).map lineL ++ wrongLine :: (okOf b).map lineL) := by
    rw [joinL_append, joinL]; simp [srcL]
  rw [e, lines_join]
  · unfold asmOf placesL
    rw [places_no]
    · have := okOf_length a
      rw [asm_lines noMaps.1 noMaps.2 (okOf a) 0 [] _ okOf_some (by simp; omega), asmFrom, if_neg (by decide +kernel), if_neg (fun h => absurd h.1 (by decide +kernel))]
      rw [show noMaps.1 = fun _ => none from rfl, wrong_word]
      simp
    · intro l hl
      have key : ∀ is, ∀ l ∈ (okOf is).map lineL, markB l = false := by
        intro is l hl
        obtain ⟨i, hi, rfl⟩ := List.mem_map.1 hl
        exact told_mark (line_told (good_some (okOf_some i hi)))
      rcases List.mem_append.1 hl with h | h
      · exact key _ _ h
      · rcases List.mem_cons.1 h with rfl | h
        · decide +kernel
        · exact key _ _ h
  · intro l hl
    rcases List.mem_append.1 hl with h | h
    · exact plain_lines _ _ h
    · rcases List.mem_cons.1 h with rfl | h
      · exact wrong_plain
      · exact plain_lines _ _ h
theorem wrong_asmB (a b : List Ins) (h : a.length ≤ 16384) : asmB (srcL a ++ (wrongLine ++ [10]) ++ srcL b) = [] := by unfold asmB; rw [wrong_asm a b h]; rfl
theorem wrong_asmW (a b : List Ins) (h : a.length ≤ 16384) : asmW (srcL a ++ (wrongLine ++ [10]) ++ srcL b) = (okOf a).length + 1 := by unfold asmW; rw [wrong_asm a b h]; simp [resW]
theorem src_short (is : List Ins) (hz : is.length ≤ 16384) : ∀ l ∈ linesL (srcL is), l.length ≤ 900000000 := by
  intro l hl
  rw [src_lines] at hl
  obtain ⟨i, hi, rfl⟩ := List.mem_map.1 hl
  have := line_length i (good_some (okOf_some i hi)).wf
  omega
theorem wrong_short (a b : List Ins) : ∀ l ∈ linesL (srcL a ++ (wrongLine ++ [10]) ++ srcL b), l.length ≤ 900000000 := by
  intro l hl
  have e : srcL a ++ (wrongLine ++ [10]) ++ srcL b = joinL ((okOf a).map lineL ++ wrongLine :: (okOf b).map lineL) := by
    rw [joinL_append, joinL]; simp [srcL]
  have key : ∀ is, ∀ l ∈ (okOf is).map lineL, l.length ≤ 900000000 := by
    intro is l hl
    obtain ⟨i, hi, rfl⟩ := List.mem_map.1 hl
    have := line_length i (good_some (okOf_some i hi)).wf
    omega
  rw [e, lines_join] at hl
  · rcases List.mem_append.1 hl with h | h
    · exact key _ _ h
    · rcases List.mem_cons.1 h with rfl | h
      · decide
      · exact key _ _ h
  · intro l hl
    rcases List.mem_append.1 hl with h | h
    · exact plain_lines _ _ h
    · rcases List.mem_cons.1 h with rfl | h
      · exact wrong_plain
      · exact plain_lines _ _ h

/-! ### Slices of instructions -/
def InsSl (w : World) (v : Value) (is : List Ins) : Prop :=
  ∃ ao c, v = .slice ao is.length c ∧ (is = [] ∨ ∃ g o, ao = some ⟨g, o, none⟩ ∧ g < w.heap.size ∧ ∀ j u, (is.flatMap Ins.cells)[j]? = some u → w.cell? ⟨g, o + j, none⟩ = some u)
theorem InsSl.below {w w' : World} {v : Value} {is : List Ins} (h : InsSl w v is) (hb : Below w.heap.size w w') : InsSl w' v is := by
  obtain ⟨ao, c, e, h⟩ := h
  refine ⟨ao, c, e, ?_⟩
  rcases h with h | ⟨g, o, e1, h1, h2⟩
  · exact .inl h
  · exact .inr ⟨g, o, e1, Nat.lt_of_lt_of_le h1 hb.size, fun j x hj => (hb.cell (p := ⟨g, o + j, none⟩) h1).trans (h2 j x hj)⟩
theorem ins_cells_at {w : World} {g o : Nat} {L : List Ins} (hc : ∀ j u, (L.flatMap Ins.cells)[j]? = some u → w.cell? ⟨g, o + j, none⟩ = some u) {k : Nat} {kind fn rd rs1 rs2 imm size : Int} {sg : Bool} (hk : L[k]? = some ⟨kind, fn, rd, rs1, rs2, imm, size, sg⟩) :
    w.cell? ⟨g, o + k * 8, none⟩ = some (.int .i64 kind) ∧ w.cell? ⟨g, o + k * 8 + 1, none⟩ = some (.int .i64 fn) ∧ w.cell? ⟨g, o + k * 8 + 2, none⟩ = some (.int .i64 rd) ∧ w.cell? ⟨g, o + k * 8 + 3, none⟩ = some (.int .i64 rs1) ∧ w.cell? ⟨g, o + k * 8 + 4, none⟩ = some (.int .i64 rs2) ∧ w.cell? ⟨g, o + k * 8 + 5, none⟩ = some (.int .i64 imm) ∧ w.cell? ⟨g, o + k * 8 + 6, none⟩ = some (.int .i64 size) ∧ w.cell? ⟨g, o + k * 8 + 7, none⟩ = some (.bool sg) := by
  have f := fun m hm => flat_get L k _ m hk hm
  simp only [Nat.add_assoc]
  refine ⟨?_, ?_, ?_, ?_, ?_, ?_, ?_, ?_⟩
  · exact hc _ _ ((f 0 (by omega)).trans rfl)
  · exact hc _ _ ((f 1 (by omega)).trans rfl)
  · exact hc _ _ ((f 2 (by omega)).trans rfl)
  · exact hc _ _ ((f 3 (by omega)).trans rfl)
  · exact hc _ _ ((f 4 (by omega)).trans rfl)
  · exact hc _ _ ((f 5 (by omega)).trans rfl)
  · exact hc _ _ ((f 6 (by omega)).trans rfl)
  · exact hc _ _ ((f 7 (by omega)).trans rfl)
theorem ok_step {is : List Ins} {k : Nat} {i : Ins} (h : is[k]? = some i) :
    (encodeOf i = none → okOf (is.take (k + 1)) = okOf (is.take k)) ∧ ((encodeOf i).isSome = true → okOf (is.take (k + 1)) = okOf (is.take k) ++ [i]) := by
  have e : is.take (k + 1) = is.take k ++ [i] := by rw [List.take_add_one, h]; rfl
  rw [e, okOf_append]
  constructor
  · intro h; simp [okOf, h]
  · intro h; simp [okOf, h]
theorem src_step {is : List Ins} {k : Nat} {i : Ins} (h : is[k]? = some i) :
    (encodeOf i = none → srcL (is.take (k + 1)) = srcL (is.take k)) ∧ ((encodeOf i).isSome = true → srcL (is.take (k + 1)) = srcL (is.take k) ++ lineL i ++ [10]) := by
  obtain ⟨h1, h2⟩ := ok_step h
  unfold srcL
  constructor
  · intro h; rw [h1 h]
  · intro h; rw [h2 h, List.map_append, joinL_append]; simp [joinL]
end Go.Proofs.YtmklpjelfonilaaGreatDoor
