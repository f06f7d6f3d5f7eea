/- Plain law: programs that are written line by line: their lines; Assemble of lines that instructions have. -/
import Derived.Test.YtmklpjelfonilaaGreatDoorH1
namespace Go.Proofs.YtmklpjelfonilaaGreatDoor
open Go.RowKit
set_option linter.unusedVariables false
set_option linter.unusedSimpArgs false

/-! ### Cutting at the ends of lines -/
theorem index_nl (w rest : List UInt8) (h : ∀ c ∈ w, c ≠ 10) : Lib.index (w ++ 10 :: rest) [10] = w.length := by
  induction w with
  | nil => simp [Lib.index]
  | cons c w ih =>
    have hc := h c (List.mem_cons_self ..)
    have ih := ih (fun d hd => h d (List.mem_cons_of_mem _ hd))
    rw [List.cons_append, Lib.index, ih]
    have : (List.isPrefixOf [10] (c :: (w ++ 10 :: rest))) = false := by
      simp [List.isPrefixOf]; exact fun e => hc e.symm
    rw [this]
    have h2 : ((w.length : Int) == -1) = false := by rw [beq_eq_false_iff_ne]; omega
    simp [h2]
theorem cut_nl (w rest : List UInt8) (h : ∀ c ∈ w, c ≠ 10) : Lib.cut (w ++ 10 :: rest) [10] = (w, rest, true) := by
  unfold Lib.cut
  rw [index_nl w rest h, if_pos (by omega)]
  simp
theorem index_no (w : List UInt8) (h : ∀ c ∈ w, c ≠ 10) : Lib.index w [10] = -1 := by
  induction w with
  | nil => simp [Lib.index]
  | cons c w ih =>
    have hc := h c (List.mem_cons_self ..)
    have ih := ih (fun d hd => h d (List.mem_cons_of_mem _ hd))
    rw [Lib.index, ih]
    have : (List.isPrefixOf [10] (c :: w)) = false := by
      simp [List.isPrefixOf]; exact fun e => hc e.symm
    rw [this]; rfl
theorem cut_no (w : List UInt8) (h : ∀ c ∈ w, c ≠ 10) : Lib.cut w [10] = (w, [], false) := by
  unfold Lib.cut
  rw [index_no w h, if_neg (by decide)]

/-- A text whose ends are no blanks. -/
def NoEnds (l : List UInt8) : Prop := (∀ c, l.head? = some c → c ≠ 32) ∧ ∀ c, l.getLast? = some c → c ≠ 32
theorem dropWhile_id {l : List UInt8} (h : ∀ c, l.head? = some c → c ≠ 32) : l.dropWhile (· == 32) = l := by
  cases l with
  | nil => rfl
  | cons c l => rw [List.dropWhile_cons, if_neg (by simpa using h c rfl)]
theorem trim_id {l : List UInt8} (h : NoEnds l) : Lib.trimB l 32 = l := by
  unfold Lib.trimB Lib.trimLeftB Lib.trimRightB
  rw [dropWhile_id (l := l.reverse) (by rw [List.head?_reverse]; exact h.2), List.reverse_reverse, dropWhile_id h.1]

/-- A text that is one line, as it stands. -/
structure Plain (l : List UInt8) : Prop where
  ends : NoEnds l
  nl : ∀ c ∈ l, c ≠ 10
def joinL : List (List UInt8) → List UInt8
  | [] => []
  | l :: ls => l ++ 10 :: joinL ls
theorem joinL_append : ∀ (a b : List (List UInt8)), joinL (a ++ b) = joinL a ++ joinL b
  | [], b => rfl
  | l :: a, b => by simp [joinL, joinL_append a b]
theorem lines_join : ∀ (ls : List (List UInt8)), (∀ l ∈ ls, Plain l) → linesL (joinL ls) = ls
  | [], _ => rfl
  | l :: ls, h => by
    have hl := h l (List.mem_cons_self ..)
    rw [joinL, linesL_cons _ (by simp), cut_nl l _ hl.nl]
    simp only
    rw [trim_id hl.ends, lines_join ls (fun k hk => h k (List.mem_cons_of_mem _ hk))]
/-- .. and one line more that no line's end follows. -/
theorem lines_join_last (ls : List (List UInt8)) (h : ∀ l ∈ ls, Plain l) (z : List UInt8) (hz : Plain z) (hne : z ≠ []) : linesL (joinL ls ++ z) = ls ++ [z] := by
  induction ls with
  | nil =>
    rw [joinL, List.nil_append, linesL_cons _ hne, cut_no z hz.nl]
    simp only
    rw [trim_id hz.ends]; rfl
  | cons l ls ih =>
    have hl := h l (List.mem_cons_self ..)
    rw [joinL, List.append_assoc, List.cons_append, linesL_cons _ (by simp), cut_nl l _ hl.nl]
    simp only
    rw [trim_id hl.ends, ih (fun k hk => h k (List.mem_cons_of_mem _ hk))]; rfl

/-! ### The lines of instructions -/
/-- A sign of an instruction's line. -/
def lineSign (c : UInt8) : Prop := c ≠ 10 ∧ c ≠ 58
theorem names_signs : tmplList.all (fun t => (nmL t).all (fun c => decide (c ≠ 10) && decide (c ≠ 58)) && (match (nmL t).head? with | some c => decide (97 ≤ c.toNat) && decide (c.toNat ≤ 122) | none => false) && (match (nmL t).getLast? with | some c => decide (c ≠ 32) | none => false)) = true := by decide +kernel
theorem name_signs {i : Ins} (h : Good i) : (∀ c ∈ (nameOf i).data.toList, lineSign c) ∧ (∃ c, (nameOf i).data.toList.head? = some c ∧ 97 ≤ c.toNat ∧ c.toNat ≤ 122) ∧ ∃ c, (nameOf i).data.toList.getLast? = some c ∧ c ≠ 32 := by
  have := List.all_eq_true.1 names_signs _ h.tm
  simp only [Bool.and_eq_true, List.all_eq_true, decide_eq_true_eq] at this
  rw [nmL_of]
  obtain ⟨⟨h1, h2⟩, h3⟩ := this
  refine ⟨fun c hc => h1 c hc, ?_, ?_⟩
  · cases hh : (nmL i.tm).head? with
    | none => rw [hh] at h2; simp at h2
    | some c => rw [hh] at h2; exact ⟨c, rfl, by simpa using h2⟩
  · cases hh : (nmL i.tm).getLast? with
    | none => rw [hh] at h3; simp at h3
    | some c => rw [hh] at h3; exact ⟨c, rfl, by simpa using h3⟩
theorem arg_sign {c : UInt8} (h : argSign c) : lineSign c ∧ c ≠ 32 := by
  rcases h with rfl | rfl | ⟨h1, h2⟩
  · unfold lineSign; decide
  · unfold lineSign; decide
  · refine ⟨⟨?_, ?_⟩, ?_⟩ <;> (intro e; subst e; revert h1 h2; decide)

/-- A shape's signs, and its end. -/
def shapeSigns (s : List UInt8) : Bool := s.all (fun c => decide (c ≠ 10) && decide (c ≠ 58)) && (match s.getLast? with | some c => decide (c ≠ 32) | none => true)
def shapesB : List ByteArray := [⟨#[32, 37, 44, 32, 37]⟩, ⟨#[32, 37, 44, 32, 37, 40, 37, 41]⟩, ⟨#[32, 37, 44, 32, 37, 44, 32, 37]⟩, ⟨#[32, 37, 44, 32, 40, 37, 41]⟩, ⟨#[32, 37, 44, 32, 37, 44, 32, 40, 37, 41]⟩, ⟨#[]⟩]
theorem shape_signs (kind : Int) : shapeSigns (shapeOf kind).data.toList = true := by
  have key : ∀ s : ByteArray, s ∈ shapesB → shapeSigns s.data.toList = true := by
    intro s hs
    exact List.all_eq_true.1 (show (shapesB.all fun s => shapeSigns s.data.toList) = true by decide +kernel) s hs
  have key2 : ∀ (c : Prop) [Decidable c] (a b : ByteArray), a ∈ shapesB → b ∈ shapesB → (if c then a else b) ∈ shapesB := by
    intro c _ a b ha hb; split <;> assumption
  apply key
  unfold shapeOf
  repeat' (refine key2 _ _ _ ?_ ?_)
  all_goals simp [shapesB]

theorem render_signs (tl : Int → List UInt8) (ht : ∀ a, tl a ≠ [] ∧ ∀ c ∈ tl a, argSign c) : ∀ (s : List UInt8) (l : List Int), shapeSigns s = true → (∀ c ∈ renderL tl s l, lineSign c) ∧ (∀ c, (renderL tl s l).getLast? = some c → c ≠ 32)
  | [], l, _ => by simp [renderL]
  | d :: ds, l, h => by
    have hd : lineSign d := by
      unfold shapeSigns at h
      simp only [Bool.and_eq_true, List.all_cons, decide_eq_true_eq] at h
      exact h.1.1
    have hds : ds ≠ [] → shapeSigns ds = true := by
      intro hne
      unfold shapeSigns at h ⊢
      simp only [Bool.and_eq_true, List.all_cons] at h ⊢
      refine ⟨h.1.2, ?_⟩
      have e : (d :: ds).getLast? = ds.getLast? := by
        cases ds with
        | nil => exact absurd rfl hne
        | cons a as' => rfl
      rw [e] at h
      exact h.2
    have hlast : ds = [] → d ≠ 32 := by
      rintro rfl
      unfold shapeSigns at h
      simp at h
      exact h.2
    have app : ∀ (a b : List UInt8), a ≠ [] → (∀ c ∈ a, lineSign c ∧ c ≠ 32) → ((∀ c ∈ b, lineSign c) ∧ ∀ c, b.getLast? = some c → c ≠ 32) → (∀ c ∈ a ++ b, lineSign c) ∧ ∀ c, (a ++ b).getLast? = some c → c ≠ 32 := by
      intro a b hne ha hb
      refine ⟨fun c hc => (List.mem_append.1 hc).elim (fun h => (ha c h).1) (hb.1 c), fun c hc => ?_⟩
      rw [List.getLast?_append] at hc
      cases hbl : b.getLast? with
      | none => rw [hbl] at hc; exact (ha c (List.mem_of_getLast? (by simpa using hc))).2
      | some e => rw [hbl] at hc; simp at hc; subst hc; exact hb.2 _ hbl
    unfold renderL
    split
    · refine app _ _ (ht _).1 (fun c hc => arg_sign ((ht _).2 c hc)) ?_
      by_cases hne : ds = []
      · subst hne; simp [renderL]
      · exact render_signs tl ht ds _ (hds hne)
    · by_cases hne : ds = []
      · subst hne
        simp only [renderL, List.mem_singleton, forall_eq]
        exact ⟨hd, fun c hc => by simp at hc; subst hc; exact hlast rfl⟩
      · obtain ⟨r1, r2⟩ := render_signs tl ht ds l (hds hne)
        refine ⟨fun c hc => (List.mem_cons.1 hc).elim (fun e => e ▸ hd) (r1 c), fun c hc => ?_⟩
        cases hr : renderL tl ds l with
        | nil =>
          exfalso
          cases ds with
          | nil => exact hne rfl
          | cons a as' =>
            unfold renderL at hr
            split at hr
            · exact (ht _).1 (List.append_eq_nil_iff.1 hr).1
            · cases hr
        | cons a as' =>
          rw [hr] at hc r2
          exact r2 c (by simpa [List.getLast?_cons_cons] using hc)

/-- What a line of an instruction is: one line, no comment, no mark, no .word. -/
structure Told (l : List UInt8) : Prop extends Plain l where
  ne : l ≠ []
  letter : ∃ c r, l = c :: r ∧ 97 ≤ c.toNat ∧ c.toNat ≤ 122
  mark : ∀ c ∈ l, c ≠ 58
theorem line_told {i : Ins} (h : Good i) : Told (lineL i) := by
  obtain ⟨n1, ⟨c0, n2, n3⟩, ⟨c1, n4, n5⟩⟩ := name_signs h
  obtain ⟨r1, r2⟩ := render_signs (toldL i) (fun a => ⟨(told_bytes i a).1, told_signs i a⟩) (shapeOf i.kind).data.toList (argsOf i.kind) (shape_signs i.kind)
  have hall : ∀ c ∈ lineL i, lineSign c := by
    intro c hc
    unfold lineL at hc
    exact (List.mem_append.1 hc).elim (n1 c) (r1 c)
  obtain ⟨nr, hnr⟩ : ∃ nr, (nameOf i).data.toList = c0 :: nr := by
    cases hn : (nameOf i).data.toList with
    | nil => rw [hn] at n2; cases n2
    | cons a as' => rw [hn] at n2; simp at n2; subst n2; exact ⟨as', rfl⟩
  have hl : lineL i = c0 :: (nr ++ renderL (toldL i) (shapeOf i.kind).data.toList (argsOf i.kind)) := by
    unfold lineL; rw [hnr]; rfl
  refine ⟨⟨⟨?_, ?_⟩, fun c hc => (hall c hc).1⟩, by rw [hl]; simp, ⟨c0, _, hl, n3⟩, fun c hc => (hall c hc).2⟩
  · intro c hc
    rw [hl] at hc
    simp at hc
    subst hc
    intro e; subst e; revert n3; decide
  · intro c hc
    unfold lineL at hc
    rw [List.getLast?_append] at hc
    cases hr : (renderL (toldL i) (shapeOf i.kind).data.toList (argsOf i.kind)).getLast? with
    | none => rw [hr, n4] at hc; simp at hc; subst hc; exact n5
    | some e => rw [hr] at hc; simp at hc; subst hc; exact r2 _ hr

theorem told_nothing {l : List UInt8} (h : Told l) : nothingL l = false := by
  obtain ⟨c, r, rfl, h1, _⟩ := h.letter
  unfold nothingL
  rw [decide_eq_false_iff_not]
  intro e; subst e; revert h1; decide
theorem no_colon {l : List UInt8} (h : ∀ c ∈ l, c ≠ 58) : markB l = false := by
  unfold markB
  have : Lib.hasSuffix l [58] = false := by
    unfold Lib.hasSuffix
    rw [Bool.eq_false_iff]
    intro hs
    have hs := List.isSuffixOf_iff_suffix.1 hs
    exact h 58 (hs.subset (by simp)) rfl
  rw [this]; rfl
theorem told_mark {l : List UInt8} (h : Told l) : markB l = false := no_colon h.mark
theorem told_dot {l : List UInt8} (h : Told l) : Lib.hasPrefix l dotWord = false := by
  obtain ⟨c, r, rfl, h1, _⟩ := h.letter
  unfold Lib.hasPrefix dotWord
  rw [Bool.eq_false_iff]
  intro hs
  simp [List.isPrefixOf] at hs
  rw [← hs.1] at h1
  revert h1; decide
theorem word_line {i : Ins} (h : (encodeOf i).isSome = true) (f : List UInt8 → Option Int) (p : Int) : wordOf f p ⟨(lineL i).toArray⟩ = encodeOf i := by
  have ht := line_told (good_some h)
  unfold wordOf
  rw [data_mk, if_neg (by simp [told_dot ht])]
  have : parseOf ⟨(lineL i).toArray⟩ = some i := by
    have := parse_line h
    rw [lineB_some h] at this
    exact this
  rw [this]

/-- Lines of instructions, put together. -/
theorem asm_lines (f g : List UInt8 → Option Int) : ∀ (is : List Ins) (k : Nat) (b : List Int) (rest : List (List UInt8)), (∀ i ∈ is, (encodeOf i).isSome = true) → b.length + 4 * is.length ≤ 65536 →
    asmFrom f g (is.map lineL ++ rest) k b = asmFrom f g rest (k + is.length) (b ++ is.flatMap fun i => bytes4 ((encodeOf i).getD 0))
  | [], k, b, rest, _, _ => by simp
  | i :: is, k, b, rest, h, hl => by
    have hi := h i (List.mem_cons_self ..)
    have ht := line_told (good_some hi)
    obtain ⟨x, hx⟩ := Option.isSome_iff_exists.1 hi
    simp only [List.length_cons] at hl
    rw [List.map_cons, List.cons_append, asmFrom, if_neg (by simp [told_nothing ht]), if_neg (by simp [told_mark ht]), word_line hi, hx]
    simp only
    rw [if_neg (by omega), asm_lines f g is (k + 1) _ rest (fun j hj => h j (List.mem_cons_of_mem _ hj)) (by simp [bytes4]; omega)]
    rw [List.length_cons, show k + 1 + is.length = k + (is.length + 1) from by omega, List.flatMap_cons, hx, List.append_assoc]
    rfl
end Go.Proofs.YtmklpjelfonilaaGreatDoor
