/- Plain law: a line's words; fill reads them back; two instructions of one line are one; what Parse finds. -/
import Derived.Test.YtmklpjelfonilaaGreatDoorF2
namespace Go.Proofs.YtmklpjelfonilaaGreatDoor
open Go.RowKit
set_option linter.unusedVariables false
set_option linter.unusedSimpArgs false

def mkB (l : List UInt8) : ByteArray := ⟨l.toArray⟩
theorem mkB_inj {a b : List UInt8} (h : mkB a = mkB b) : a = b := by
  unfold mkB at h
  injection h with h
  have := congrArg Array.toList h
  simpa using this
theorem mkB_data (b : ByteArray) : mkB b.data.toList = b := by
  apply ByteArray.ext
  simp [mkB]

def nmL (t : Int × Int × Int × Bool) : List UInt8 := (nameP t.1 t.2.1 t.2.2.1 t.2.2.2).data.toList
theorem nmL_of (i : Ins) : (nameOf i).data.toList = nmL i.tm := rfl

theorem names_fine : tmplList.all (fun t => !(nmL t).isEmpty && (nmL t).all (fun c => !isSep c && decide (c.toNat < 128))) = true := by decide +kernel
theorem names_apart : tmplList.all (fun t => tmplList.all (fun u => nmL t != nmL u || t == u)) = true := by decide +kernel
theorem tm_ranges : tmplList.all (fun t => decide (1 ≤ t.1 ∧ t.1 ≤ 20 ∧ 0 ≤ t.2.1 ∧ t.2.1 < 29) && sizes5.contains t.2.2.1) = true := by decide +kernel

theorem name_fine {i : Ins} (h : Good i) : (nameOf i).data.toList ≠ [] ∧ ∀ c ∈ (nameOf i).data.toList, isSep c = false ∧ c.toNat < 128 := by
  have := List.all_eq_true.1 names_fine _ h.tm
  simp only [Bool.and_eq_true, Bool.not_eq_true', List.isEmpty_eq_false_iff, List.all_eq_true, decide_eq_true_eq] at this
  rw [nmL_of]
  exact this
theorem tm_of_name {i j : Ins} (hi : Good i) (hj : Good j) (h : nameOf i = nameOf j) : i.tm = j.tm := by
  have := List.all_eq_true.1 (List.all_eq_true.1 names_apart _ hi.tm) _ hj.tm
  rw [← nmL_of, ← nmL_of, h] at this
  simpa using this

theorem tm_range {i : Ins} (h : Good i) : (1 ≤ i.kind ∧ i.kind ≤ 20 ∧ 0 ≤ i.fn ∧ i.fn < 29) ∧ i.size ∈ sizes5 := by
  have := List.all_eq_true.1 tm_ranges _ h.tm
  rw [Bool.and_eq_true] at this
  exact ⟨of_decide_eq_true this.1, by have h2 := this.2; simp only [List.contains_eq_mem, decide_eq_true_eq] at h2; exact h2⟩

/-! ### The templates -/
theorem mem_sizesL (kind fn z : Int) (sg : Bool) : ∀ l, z ∈ l → (⟨kind, fn, 0, 0, 0, 0, z, sg⟩ : Ins) ∈ sizesL kind fn l
  | [], h => by cases h
  | y :: l, h => by
    unfold sizesL
    rcases List.mem_cons.1 h with rfl | h
    · cases sg <;> simp
    · exact List.mem_cons_of_mem _ (List.mem_cons_of_mem _ (mem_sizesL kind fn z sg l h))
theorem mem_fnsL (kind : Int) (fn : Nat) (x : Ins) (hx : x ∈ sizesL kind fn sizes5) : ∀ (n f : Nat), f ≤ fn → fn < f + n → x ∈ fnsL kind n f
  | 0, f, h0, h1 => by omega
  | n + 1, f, h0, h1 => by
    unfold fnsL
    by_cases e : f = fn
    · subst e; exact List.mem_append_left _ hx
    · exact List.mem_append_right _ (mem_fnsL kind fn x hx n (f + 1) (by omega) (by omega))
theorem mem_kindsL (kind : Nat) (x : Ins) (hx : x ∈ fnsL kind 29 0) : ∀ (n k : Nat), k ≤ kind → kind < k + n → x ∈ kindsL n k
  | 0, k, h0, h1 => by omega
  | n + 1, k, h0, h1 => by
    unfold kindsL
    by_cases e : k = kind
    · subst e; exact List.mem_append_left _ hx
    · exact List.mem_append_right _ (mem_kindsL kind x hx n (k + 1) (by omega) (by omega))
theorem tmpl_mem {i : Ins} (h : Good i) : i.tmpl ∈ allIns := by
  obtain ⟨⟨a, b, c, d⟩, e⟩ := tm_range h
  clear h
  obtain ⟨kind, fn, rd, rs1, rs2, imm, size, sg⟩ := i
  dsimp only at a b c d e
  obtain ⟨k, rfl⟩ := Int.eq_ofNat_of_zero_le (show 0 ≤ kind by omega)
  obtain ⟨f, rfl⟩ := Int.eq_ofNat_of_zero_le c
  exact mem_kindsL k _ (mem_fnsL k f _ (mem_sizesL _ _ _ _ _ e) 29 0 (by omega) (by omega)) 20 1 (by omega) (by omega)

/-! ### The words of a line -/
def exL (s : ByteArray) (g p : Nat) : List UInt8 := (s.data.toList.drop g).take (p - g)
theorem extract_mk (s : ByteArray) (g p : Nat) : s.extract g p = mkB (exL s g p) := by
  apply ByteArray.ext
  unfold mkB exL
  simp only [ByteArray.data_extract]
  apply Array.ext'
  simp [List.extract_eq_take_drop]
def curOf (s : ByteArray) : Option Nat → Nat → List UInt8
  | none, _ => []
  | some g, p => exL s g p
theorem parts_sep (c : UInt8) : parts c.toNat = isSep c := by
  unfold parts isSep
  have e : ∀ n : Nat, n < 256 → (c.toNat == n) = decide (c = UInt8.ofNat n) := by
    intro n hn
    rw [Bool.eq_iff_iff]
    simp only [beq_iff_eq, decide_eq_true_eq]
    constructor
    · intro h; apply UInt8.toNat_inj.1; rw [h, UInt8.toNat_ofNat', Nat.mod_eq_of_lt (by omega)]
    · intro h; rw [h, UInt8.toNat_ofNat', Nat.mod_eq_of_lt (by omega)]
  rw [e 32 (by omega), e 44 (by omega), e 40 (by omega), e 41 (by omega)]
  rfl
theorem exL_snoc (s : ByteArray) (g p : Nat) (h1 : g ≤ p) (h2 : p < s.size) : exL s g (p + 1) = exL s g p ++ [s[p]'h2] := by
  unfold exL
  have hl : p - g < (s.data.toList.drop g).length := by
    rw [List.length_drop]
    have : s.data.toList.length = s.size := rfl
    omega
  rw [show p + 1 - g = (p - g) + 1 from by omega, List.take_succ_eq_append_getElem hl]
  congr 2
  rw [List.getElem_drop]
  simp only [show g + (p - g) = p from by omega]
  rfl
theorem exL_ne (s : ByteArray) (g p : Nat) (h1 : g < p) (h2 : p ≤ s.size) : exL s g p ≠ [] := by
  unfold exL
  intro h
  have := congrArg List.length h
  simp only [List.length_take, List.length_drop, List.length_nil] at this
  have e : s.data.toList.length = s.size := rfl
  omega

theorem words_from (s : ByteArray) (ha : ∀ c ∈ s.data.toList, c.toNat < 128) : ∀ (fuel pos : Nat) (fr : Option Nat), (∀ g, fr = some g → g < pos ∧ pos ≤ s.size) → s.size ≤ pos + fuel →
    wordsFrom s fuel pos fr = (splitFrom (curOf s fr pos) (s.data.toList.drop pos)).map mkB := by
  have hend : ∀ (fuel pos : Nat) (fr : Option Nat), (∀ g, fr = some g → g < pos ∧ pos ≤ s.size) → ¬ pos < s.size → wordsFrom s fuel pos fr = (splitFrom (curOf s fr pos) (s.data.toList.drop pos)).map mkB := by
    intro fuel pos fr hfr hp
    rw [wordsFrom_end s fuel pos fr hp]
    rw [List.drop_eq_nil_of_le (show s.data.toList.length ≤ pos from by have : s.data.toList.length = s.size := rfl; omega)]
    cases fr with
    | none => rfl
    | some g =>
      obtain ⟨h1, h2⟩ := hfr g rfl
      have e : pos = s.size := by omega
      rw [show curOf s (some g) pos = exL s g pos from rfl, split_end _ (exL_ne s g pos h1 h2), ← e]
      simp only [List.map_cons, List.map_nil, extract_mk]
  intro fuel
  induction fuel with
  | zero => intro pos fr hfr hs; exact hend 0 pos fr hfr (by omega)
  | succ f ih =>
    intro pos fr hfr hs
    by_cases hp : pos < s.size
    · have hc := ha (s[pos]'hp) (by
        have : s.data.toList[pos]'(by simpa using hp) ∈ s.data.toList := List.getElem_mem _
        exact this)
      have hd := decode_ascii s pos hp hc
      rw [drop_step s pos hp]
      generalize hcc : s[pos]'hp = c at *
      cases hsep : isSep c with
      | true =>
        have hpr : parts (Utf8.decode s pos).1 = true := by rw [hd]; show parts c.toNat = true; rw [parts_sep, hsep]
        cases fr with
        | none =>
          rw [wf_skip hp hpr, hd, show curOf s none pos = [] from rfl, split_sep c hsep]
          exact ih (pos + 1) none (by simp) (by omega)
        | some g =>
          obtain ⟨h1, h2⟩ := hfr g rfl
          rw [wf_cut hp hpr, hd, show curOf s (some g) pos = exL s g pos from rfl, split_cut _ (exL_ne s g pos h1 h2) c hsep, List.map_cons, extract_mk]
          congr 1
          exact ih (pos + 1) none (by simp) (by omega)
      | false =>
        have hpr : parts (Utf8.decode s pos).1 = false := by rw [hd]; show parts c.toNat = false; rw [parts_sep, hsep]
        cases fr with
        | none =>
          rw [wf_open hp hpr, hd, show curOf s none pos = [] from rfl, splitFrom, if_neg (by simp [hsep])]
          have := ih (pos + 1) (some pos) (by intro g e; cases e; omega) (by omega)
          rw [this, show curOf s (some pos) (pos + 1) = exL s pos (pos + 1) from rfl, exL_snoc s pos pos (by omega) hp, hcc]
          simp [exL]
        | some g =>
          obtain ⟨h1, h2⟩ := hfr g rfl
          rw [wf_in hp hpr, hd, show curOf s (some g) pos = exL s g pos from rfl, splitFrom, if_neg (by simp [hsep])]
          have := ih (pos + 1) (some g) (by intro g' e; cases e; omega) (by omega)
          rw [this, show curOf s (some g) (pos + 1) = exL s g (pos + 1) from rfl, exL_snoc s g pos (by omega) hp, hcc]
    · exact hend _ pos fr hfr hp

theorem words_ascii (s : ByteArray) (ha : ∀ c ∈ s.data.toList, c.toNat < 128) : wordsOf s = (splitL s.data.toList).map mkB :=
  words_from s ha s.size 0 none (by simp) (by omega)

/-- A shape in which each % stands between signs that part. -/
def okS : List UInt8 → Bool
  | [] => true
  | c :: cs => if c = 37 then (match cs with | [] => true | d :: _ => isSep d) && okS cs else isSep c && okS cs

theorem sep_37 {c : UInt8} (h : isSep c = true) : ¬ c = 37 := by intro e; subst e; exact absurd h (by decide)

theorem render_words (tl : Int → List UInt8) (ht : ∀ a, tl a ≠ [] ∧ ∀ c ∈ tl a, isSep c = false) : ∀ (s : List UInt8) (l : List Int), okS s = true → (s.filter (· = 37)).length = l.length → splitFrom [] (renderL tl s l) = l.map tl
  | [], l, _, h => by
    have : l = [] := List.eq_nil_of_length_eq_zero (by simpa using h.symm)
    subst this; rfl
  | c :: cs, l, hk, h => by
    unfold okS at hk
    by_cases hc : c = 37
    · rw [if_pos hc] at hk
      subst hc
      obtain ⟨a, l', rfl⟩ : ∃ a l', l = a :: l' := by
        cases l with
        | nil => simp at h
        | cons a l' => exact ⟨a, l', rfl⟩
      have hlen : (cs.filter (· = 37)).length = l'.length := by simpa using h
      rw [Bool.and_eq_true] at hk
      have ih := render_words tl ht cs l' hk.2 hlen
      rw [renderL_pct, split_word _ (ht a).2, List.nil_append]
      cases cs with
      | nil =>
        have : l' = [] := List.eq_nil_of_length_eq_zero (by simpa using hlen.symm)
        subst this
        rw [show renderL tl [] [] = [] from rfl, split_end _ (ht a).1]; rfl
      | cons d ds =>
        have hd : isSep d = true := hk.1
        rw [renderL_sign _ _ _ _ (sep_37 hd)] at ih ⊢
        rw [split_sep d hd] at ih
        rw [split_cut _ (ht a).1 d hd, ih]; rfl
    · rw [if_neg hc, Bool.and_eq_true] at hk
      rw [renderL_sign _ _ _ _ hc, split_sep c hk.1]
      exact render_words tl ht cs l hk.2 (by simpa [hc] using h)

theorem sep_of_digit {c : UInt8} (h : c = 120 ∨ c = 45 ∨ (48 ≤ c.toNat ∧ c.toNat ≤ 57)) : isSep c = false ∧ c.toNat < 128 := by
  rcases h with rfl | rfl | ⟨h1, h2⟩
  · decide
  · decide
  · refine ⟨?_, by omega⟩
    rw [← parts_sep]
    simp [parts]
    omega
theorem told_bytes (i : Ins) (a : Int) : toldL i a ≠ [] ∧ ∀ c ∈ toldL i a, isSep c = false ∧ c.toNat < 128 := by
  have key : ∀ n : Int, Lib.itoa n ≠ [] ∧ ∀ c ∈ Lib.itoa n, isSep c = false ∧ c.toNat < 128 := fun n => ⟨itoa_ne n, fun c hc => sep_of_digit (.inr (itoa_bytes n c hc))⟩
  have key2 : ∀ n : Int, (120 :: Lib.itoa n) ≠ [] ∧ ∀ c ∈ (120 :: Lib.itoa n), isSep c = false ∧ c.toNat < 128 := fun n => ⟨by simp, fun c hc => by
    rcases List.mem_cons.1 hc with h | h
    · exact sep_of_digit (.inl h)
    · exact (key n).2 c h⟩
  unfold toldL
  repeat' split
  all_goals first | exact key2 _ | exact key _

def ShapeFine (s : List UInt8) (l : List Int) : Prop := okS s = true ∧ (s = [] ∨ ∃ d ds, s = d :: ds ∧ isSep d = true) ∧ (∀ a ∈ l, 0 ≤ a ∧ a ≤ 5)
theorem fine_of {s : List UInt8} {l : List Int} (h : (okS s && (match s with | [] => true | d :: _ => isSep d)) = true) (ha : ∀ a ∈ l, 0 ≤ a ∧ a ≤ 5) : ShapeFine s l := by
  rw [Bool.and_eq_true] at h
  refine ⟨h.1, ?_, ha⟩
  cases s with
  | nil => exact .inl rfl
  | cons d ds => exact .inr ⟨d, ds, rfl, h.2⟩
theorem shape_fine (kind : Int) : ShapeFine (shapeOf kind).data.toList (argsOf kind) := by
  by_cases c1 : kind = 1
  · subst c1; exact fine_of (by decide) (by decide)
  by_cases c2 : kind = 2
  · subst c2; exact fine_of (by decide) (by decide)
  by_cases c3 : kind = 3
  · subst c3; exact fine_of (by decide) (by decide)
  by_cases c4 : kind = 4
  · subst c4; exact fine_of (by decide) (by decide)
  by_cases c6 : kind = 6
  · subst c6; exact fine_of (by decide) (by decide)
  by_cases c5 : kind = 5
  · subst c5; exact fine_of (by decide) (by decide)
  by_cases c7 : kind = 7
  · subst c7; exact fine_of (by decide) (by decide)
  by_cases c8 : kind = 8
  · subst c8; exact fine_of (by decide) (by decide)
  by_cases c9 : kind = 9
  · subst c9; exact fine_of (by decide) (by decide)
  by_cases c13 : kind = 13
  · subst c13; exact fine_of (by decide) (by decide)
  by_cases c14 : kind = 14
  · subst c14; exact fine_of (by decide) (by decide)
  by_cases c15 : kind = 15
  · subst c15; exact fine_of (by decide) (by decide)
  by_cases c16 : kind = 16
  · subst c16; exact fine_of (by decide) (by decide)
  by_cases c17 : kind = 17
  · subst c17; exact fine_of (by decide) (by decide)
  by_cases c20 : kind = 20
  · subst c20; exact fine_of (by decide) (by decide)
  have e1 : shapeOf kind = ⟨#[]⟩ := by unfold shapeOf; simp only [c1, c2, c3, c4, c6, c5, c7, c8, c9, c13, c14, c15, c16, c17, c20, or_self, if_false]
  have e2 : argsOf kind = [] := by unfold argsOf; simp only [c1, c2, c3, c4, c6, c5, c7, c8, c9, c13, c14, c15, c16, c17, c20, or_self, if_false]
  rw [e1, e2]; exact fine_of (by decide) (by decide)

theorem line_split {i : Ins} (h : Good i) : splitL (lineL i) = (nameOf i).data.toList :: (argsOf i.kind).map (toldL i) := by
  obtain ⟨hk, hh, _⟩ := shape_fine i.kind
  obtain ⟨hn, hns⟩ := name_fine h
  have hcnt := (shape_ok i.kind).2.2.1
  have hr := render_words (toldL i) (fun a => ⟨(told_bytes i a).1, fun c hc => ((told_bytes i a).2 c hc).1⟩) _ _ hk hcnt
  unfold splitL lineL
  rw [split_word _ (fun c hc => (hns c hc).1), List.nil_append]
  rcases hh with hh | ⟨d, ds, hh, hd⟩
  · rw [hh] at hr hcnt ⊢
    have : argsOf i.kind = [] := List.eq_nil_of_length_eq_zero (by simpa using hcnt.symm)
    rw [this, show renderL (toldL i) [] [] = [] from rfl, split_end _ hn]; rfl
  · rw [hh] at hr ⊢
    rw [renderL_sign _ _ _ _ (sep_37 hd)] at hr ⊢
    rw [split_sep d hd] at hr
    rw [split_cut _ hn d hd, hr]

theorem render_ascii (tl : Int → List UInt8) (ht : ∀ a, ∀ c ∈ tl a, c.toNat < 128) : ∀ (s : List UInt8) (l : List Int), (∀ c ∈ s, c.toNat < 128) → ∀ c ∈ renderL tl s l, c.toNat < 128
  | [], l, _, c, hc => by cases hc
  | d :: ds, l, hs, c, hc => by
    unfold renderL at hc
    split at hc
    · rcases List.mem_append.1 hc with hc | hc
      · exact ht _ c hc
      · exact render_ascii tl ht ds _ (fun e he => hs e (List.mem_cons_of_mem _ he)) c hc
    · rcases List.mem_cons.1 hc with rfl | hc
      · exact hs _ (List.mem_cons_self ..)
      · exact render_ascii tl ht ds _ (fun e he => hs e (List.mem_cons_of_mem _ he)) c hc
theorem line_ascii {i : Ins} (h : Good i) : ∀ c ∈ lineL i, c.toNat < 128 := by
  intro c hc
  unfold lineL at hc
  rcases List.mem_append.1 hc with hc | hc
  · exact ((name_fine h).2 c hc).2
  · exact render_ascii _ (fun a c hc => ((told_bytes i a).2 c hc).2) _ _ (shape_ok i.kind).2.1 c hc

theorem line_words {i : Ins} (h : Good i) : wordsOf (mkB (lineL i)) = nameOf i :: (argsOf i.kind).map (fun a => mkB (toldL i a)) := by
  have e : (mkB (lineL i)).data.toList = lineL i := by simp [mkB]
  rw [words_ascii _ (by rw [e]; exact line_ascii h), e, line_split h, List.map_cons, mkB_data, List.map_map]
  rfl

/-! ### fill reads them back -/
def argV (i : Ins) (a : Int) : Int := if a = 0 then i.rd else if a = 1 ∨ a = 5 then i.rs1 else if a = 2 then i.rs2 else if a = 4 then i.imm.tdiv 4096 else i.imm

theorem num_told {i : Ins} (h : Good i) (a : Int) (h0 : 0 ≤ a) (h5 : a ≤ 5) : numOf (bareW a (mkB (toldL i a))) = some (argV i a) := by
  have hr := h.rd
  have hs := h.rs1
  have ht := h.rs2
  have hm := h.imm
  unfold Reg at hr hs ht
  unfold Imm at hm
  have key : ∀ n : Int, -4294967296 ≤ n → n ≤ 4294967296 → numOf (mkB (Lib.itoa n)) = some n := by
    intro n a b
    unfold numOf
    rw [show (mkB (Lib.itoa n)).data.toList = Lib.itoa n from by simp [mkB], atoi_itoa n (by omega) (by omega)]
    simp only
    rw [if_pos ⟨a, b⟩]
  have keyx : ∀ n : Int, -4294967296 ≤ n → n ≤ 4294967296 → numOf (⟨(Lib.trimPrefix (mkB (120 :: Lib.itoa n)).data.toList [120]).toArray⟩) = some n := by
    intro n a b
    rw [show (mkB (120 :: Lib.itoa n)).data.toList = 120 :: Lib.itoa n from by simp [mkB]]
    rw [show Lib.trimPrefix (120 :: Lib.itoa n) [120] = Lib.itoa n from by simp [Lib.trimPrefix, Lib.hasPrefix]]
    exact key n a b
  have hc : a = 0 ∨ a = 1 ∨ a = 2 ∨ a = 3 ∨ a = 4 ∨ a = 5 := by omega
  have ht4 : -4294967296 ≤ i.imm.tdiv 4096 ∧ i.imm.tdiv 4096 ≤ 4294967296 := by
    rw [Int.tdiv_eq_ediv]
    split <;> (try simp only [Int.sign]) <;> omega
  rcases hc with rfl | rfl | rfl | rfl | rfl | rfl
  · exact keyx i.rd (by omega) (by omega)
  · exact keyx i.rs1 (by omega) (by omega)
  · exact keyx i.rs2 (by omega) (by omega)
  · exact key i.imm (by omega) (by omega)
  · exact key _ ht4.1 ht4.2
  · exact key i.rs1 (by omega) (by omega)

def setAll (i : Ins) : Ins → List Int → Ins
  | cur, [] => cur
  | cur, a :: l => setAll i (setArg cur a (argV i a)) l
theorem fill_all {i : Ins} (h : Good i) : ∀ (l : List Int) (cur : Ins), (∀ a ∈ l, 0 ≤ a ∧ a ≤ 5) → fillL cur l (l.map fun a => mkB (toldL i a)) = some (setAll i cur l)
  | [], cur, _ => rfl
  | a :: l, cur, hl => by
    have ha := hl a (List.mem_cons_self ..)
    rw [List.map_cons, fillL, num_told h a ha.1 ha.2]
    exact fill_all h l _ (fun b hb => hl b (List.mem_cons_of_mem _ hb))

theorem up_back (x : Int) (h : x % 4096 = 0) : x.tdiv 4096 * 4096 = x := by
  rw [Int.tdiv_eq_ediv]
  split <;> (try simp only [Int.sign]) <;> omega

theorem setAll_is {i : Ins} (h : Good i) : setAll i i.tmpl (argsOf i.kind) = i := by
  obtain ⟨⟨k1, k2, _⟩, _⟩ := tm_range h
  obtain ⟨_, _, _, _, _, up, z0, z1, z2, z3⟩ := h
  obtain ⟨kind, fn, rd, rs1, rs2, imm, size, sg⟩ := i
  dsimp only at *
  have hk : kind = 1 ∨ kind = 2 ∨ kind = 3 ∨ kind = 4 ∨ kind = 5 ∨ kind = 6 ∨ kind = 7 ∨ kind = 8 ∨ kind = 9 ∨ kind = 10 ∨ kind = 11 ∨ kind = 12 ∨ kind = 13 ∨ kind = 14 ∨ kind = 15 ∨ kind = 16 ∨ kind = 17 ∨ kind = 18 ∨ kind = 19 ∨ kind = 20 := by omega
  rcases hk with rfl | rfl | rfl | rfl | rfl | rfl | rfl | rfl | rfl | rfl | rfl | rfl | rfl | rfl | rfl | rfl | rfl | rfl | rfl | rfl
  all_goals
    simp [argsOf] at z0 z1 z2 z3 up
    simp [argsOf, Ins.tmpl, setAll, setArg, argV]
    first
      | done
      | (simp_all; done)
      | (refine ⟨?_, ?_, ?_⟩ <;> first | omega | (symm; assumption) | exact up_back _ (by omega))

theorem fill_told {i : Ins} (h : Good i) : fillOf i.tmpl ((argsOf i.kind).map fun a => mkB (toldL i a)) = some i := by
  unfold fillOf
  rw [show i.tmpl.kind = i.kind from rfl, if_pos (by simp), fill_all h _ _ (shape_fine i.kind).2.2, setAll_is h]

/-- Two of one line are one. -/
theorem line_inj {i j : Ins} (hi : Good i) (hj : Good j) (h : lineL i = lineL j) : i = j := by
  have w1 := line_words hi
  have w2 := line_words hj
  rw [h, w2] at w1
  injection w1 with hn hw
  have ht := tm_of_name hj hi hn
  have hk : j.kind = i.kind := congrArg (·.1) ht
  have htm : j.tmpl = i.tmpl := by
    unfold Ins.tm at ht
    unfold Ins.tmpl
    injection ht with e1 e2
    injection e2 with e2 e3
    injection e3 with e3 e4
    rw [e1, e2, e3, e4]
  have f1 := fill_told hi
  have f2 := fill_told hj
  rw [htm, hw, f1] at f2
  exact Option.some.inj f2

/-! ### What Parse finds -/
def parseHit (line w0 : ByteArray) (rest : List ByteArray) (j : Ins) : Option Ins :=
  if nameOf j = w0 then (match fillOf j rest with | some k => if (encodeOf k).isSome = true ∧ lineB k = line then some k else none | none => none) else none
/-- `Parse(line)`. -/
def parseOf (line : ByteArray) : Option Ins := match wordsOf line with | [] => none | w0 :: rest => allIns.findSome? (parseHit line w0 rest)

theorem hit_sound {line w0 : ByteArray} {rest : List ByteArray} {j k : Ins} (h : parseHit line w0 rest j = some k) : (encodeOf k).isSome = true ∧ lineB k = line := by
  unfold parseHit at h
  split at h
  · split at h
    · split at h
      · rename_i hk
        cases h
        exact hk
      · cases h
    · cases h
  · cases h
theorem parse_sound {line : ByteArray} {k : Ins} (h : parseOf line = some k) : (encodeOf k).isSome = true ∧ lineB k = line := by
  unfold parseOf at h
  split at h
  · cases h
  · obtain ⟨j, _, hj⟩ := List.exists_of_findSome?_eq_some h
    exact hit_sound hj
theorem lineB_some {i : Ins} (h : (encodeOf i).isSome = true) : lineB i = mkB (lineL i) := by unfold lineB; rw [if_pos h]; rfl
theorem good_some {i : Ins} (h : (encodeOf i).isSome = true) : Good i := by
  obtain ⟨x, hx⟩ := Option.isSome_iff_exists.1 h
  exact good_enc hx
theorem parse_line {i : Ins} (h : (encodeOf i).isSome = true) : parseOf (lineB i) = some i := by
  have hg := good_some h
  have hw := line_words hg
  have hb := lineB_some h
  cases hp : parseOf (lineB i) with
  | some k =>
    obtain ⟨h1, h2⟩ := parse_sound hp
    rw [lineB_some h1, hb] at h2
    rw [line_inj (good_some h1) hg (mkB_inj h2)]
  | none =>
    exfalso
    unfold parseOf at hp
    rw [hb, hw] at hp
    simp only [List.findSome?_eq_none_iff] at hp
    have := hp _ (tmpl_mem hg)
    unfold parseHit at this
    rw [if_pos (show nameOf i.tmpl = nameOf i from rfl), fill_told hg] at this
    simp only at this
    rw [if_pos ⟨h, hb⟩] at this
    cases this
theorem Good.wf {i : Ins} (h : Good i) : i.wf := by
  have hr := h.rd
  have hs := h.rs1
  have ht := h.rs2
  have hm := h.imm
  unfold Reg at hr hs ht
  unfold Imm at hm
  unfold Ins.wf
  omega
end Go.Proofs.YtmklpjelfonilaaGreatDoor
