/- Package asm: lines: a program's lines, without blanks at their ends. -/
import Derived.Test.YtmklpjelfonilaaGreatDoorE1
import Derived.Test.YtmklpjelfonilaaGreatDoorG1
namespace Go.Proofs.YtmklpjelfonilaaGreatDoor
open Go.RowKit
attribute [local go_sem] alloc_drewN setCell_drewN wext_size wext_drewN wext_drew wext_setCell wext_cell wext_frozen wext_wext lt_e1 lt_e2 lt_e3 lt_e4 lt_e5 lt_e6
set_option linter.unusedVariables false
set_option linter.unusedSimpArgs false

def linesFuel : Nat → List UInt8 → List (List UInt8)
  | 0, _ => []
  | f + 1, t => if t = [] then [] else Lib.trimB (Lib.cut t [10]).1 32 :: linesFuel f (Lib.cut t [10]).2.1
/-- `lines(text)`. -/
def linesL (t : List UInt8) : List (List UInt8) := linesFuel t.length t

theorem cut_rest (t : List UInt8) (h : t ≠ []) : (Lib.cut t [10]).2.1.length < t.length := by
  have hl : 0 < t.length := List.length_pos_iff.2 h
  unfold Lib.cut
  split
  · simp only [List.length_drop, List.length_singleton]; omega
  · simpa using hl
theorem cut_first (t s : List UInt8) : (Lib.cut t s).1.length ≤ t.length := by
  unfold Lib.cut
  split
  · simp only [List.length_take]; omega
  · simp
theorem trimB_le (l : List UInt8) (c : UInt8) : (Lib.trimB l c).length ≤ l.length := by
  unfold Lib.trimB Lib.trimLeftB Lib.trimRightB
  refine Nat.le_trans (List.dropWhile_sublist _).length_le ?_
  rw [List.length_reverse]
  refine Nat.le_trans (List.dropWhile_sublist _).length_le ?_
  simp

theorem linesFuel_done (t : List UInt8) : ∀ f, t.length ≤ f → linesFuel f t = linesL t := by
  have key : ∀ n (t : List UInt8), t.length ≤ n → ∀ f g, t.length ≤ f → t.length ≤ g → linesFuel f t = linesFuel g t := by
    intro n
    induction n with
    | zero =>
      intro t ht f g hf hg
      have : t = [] := List.eq_nil_of_length_eq_zero (by omega)
      subst this
      cases f <;> cases g <;> simp [linesFuel]
    | succ n ih =>
      intro t ht f g hf hg
      by_cases h : t = []
      · subst h; cases f <;> cases g <;> simp [linesFuel]
      · have hl : 0 < t.length := List.length_pos_iff.2 h
        have hc := cut_rest t h
        obtain ⟨f, rfl⟩ : ∃ m, f = m + 1 := ⟨f - 1, by omega⟩
        obtain ⟨g, rfl⟩ : ∃ m, g = m + 1 := ⟨g - 1, by omega⟩
        simp only [linesFuel, if_neg h]
        rw [ih _ (by omega) f g (by omega) (by omega)]
  intro f hf
  exact key t.length t (Nat.le_refl _) f t.length hf (Nat.le_refl _)
theorem linesL_cons (t : List UInt8) (h : t ≠ []) : linesL t = Lib.trimB (Lib.cut t [10]).1 32 :: linesL (Lib.cut t [10]).2.1 := by
  have hl : 0 < t.length := List.length_pos_iff.2 h
  have hc := cut_rest t h
  rw [linesL, show t.length = (t.length - 1) + 1 from by omega, linesFuel, if_neg h, linesFuel_done _ _ (by omega)]
theorem linesL_nil : linesL [] = [] := rfl
theorem linesL_length (t : List UInt8) : (linesL t).length ≤ t.length := by
  have key : ∀ n (t : List UInt8), t.length ≤ n → (linesL t).length ≤ t.length := by
    intro n
    induction n with
    | zero => intro t ht; have : t = [] := List.eq_nil_of_length_eq_zero (by omega); subst this; simp [linesL_nil]
    | succ n ih =>
      intro t ht
      by_cases h : t = []
      · subst h; simp [linesL_nil]
      · have hc := cut_rest t h
        rw [linesL_cons t h, List.length_cons]
        have := ih (Lib.cut t [10]).2.1 (by omega)
        omega
  exact key t.length t (Nat.le_refl _)
theorem linesL_size (t : List UInt8) : ∀ l ∈ linesL t, l.length ≤ t.length := by
  have key : ∀ n (t : List UInt8), t.length ≤ n → ∀ l ∈ linesL t, l.length ≤ t.length := by
    intro n
    induction n with
    | zero => intro t ht; have : t = [] := List.eq_nil_of_length_eq_zero (by omega); subst this; simp [linesL_nil]
    | succ n ih =>
      intro t ht
      by_cases h : t = []
      · subst h; simp [linesL_nil]
      · have hc := cut_rest t h
        rw [linesL_cons t h]
        intro l hl
        rcases List.mem_cons.1 hl with rfl | hl
        · exact Nat.le_trans (trimB_le _ _) (cut_first _ _)
        · have := ih (Lib.cut t [10]).2.1 (by omega) l hl
          omega
  exact key t.length t (Nat.le_refl _)

theorem own_below {w w' : World} {B : Nat} {e : TypeId} {size : Nat} {v : Value} {n : Nat} {xs : List Value} (h : w.ownsRowF B e size v n xs) (hb : Below w.heap.size w w') : w'.ownsRowF B e size v n xs :=
  h.kept (row := none) ⟨hb.os, hb.tape, hb.output, hb.size, fun k hk _ => hb.block k hk⟩ (Classical.em _)

/-- The world's own variable MaxLen is a number. -/
def MaxL (w : World) : Prop := ∃ m, w.cell? ⟨0, 0, none⟩ = some (.int .i64 m)
theorem MaxL.pos {w : World} (h : MaxL w) : 0 < w.heap.size := by
  obtain ⟨m, h⟩ := h
  rcases Nat.lt_or_ge 0 w.heap.size with h' | h'
  · exact h'
  · simp [World.cell?, Array.getElem?_eq_none h'] at h
theorem MaxL.below {w w' : World} (h : MaxL w) (hb : Below w.heap.size w w') : MaxL w' := by
  have hp := h.pos
  obtain ⟨m, h⟩ := h
  exact ⟨m, (hb.cell (p := ⟨0, 0, none⟩) hp).trans h⟩

theorem Cut_any (s sep : ByteArray) (w : World) (hs : s.size < 4294967281) (hm : MaxL w) :
    Calls Tryz.prog 69 #[.string s, .string sep] w fun e w' => e = .returned (.tuple #[.string ⟨(Lib.cut s.data.toList sep.data.toList).1.toArray⟩, .string ⟨(Lib.cut s.data.toList sep.data.toList).2.1.toArray⟩, .bool (Lib.cut s.data.toList sep.data.toList).2.2]) ∧ Below w.heap.size w w' := by
  obtain ⟨m, hm⟩ := hm
  refine (Tryz.strings_Cut s sep m w hs hm).mono ?_
  rintro e w' ⟨rfl, n, rfl⟩
  exact ⟨rfl, below_drewN (Below.refl _ _) _⟩
theorem Trim_any (s : ByteArray) (w : World) (hs : s.size ≤ 9223372036854775807) :
    Calls Tryz.prog 70 #[.string s, .string ⟨#[32]⟩] w fun e w' => e = .returned (.string ⟨(Lib.trimB s.data.toList 32).toArray⟩) ∧ Below w.heap.size w w' := by
  refine (Tryz.strings_Trim_one s 32 (by decide) w hs).mono ?_
  rintro e w' ⟨rfl, rfl | rfl⟩
  · exact ⟨rfl, Below.refl _ _⟩
  · exact ⟨rfl, (Below.refl _ _).drew⟩

set_option maxHeartbeats 1600000 in
set_option maxRecDepth 1000000 in
theorem lines_any (s : ByteArray) (w : World) (hs : s.size ≤ 4000000000) (hm : MaxL w) :
    Calls Tryz.prog 45 #[.string s] w fun e w' => ∃ v, e = .returned v ∧ w'.ownsRowF w.heap.size 9 1 v (linesL s.data.toList).length (((linesL s.data.toList).map fun l => (⟨l.toArray⟩ : ByteArray)).map Value.string) ∧ Below w.heap.size w w' := by
  obtain ⟨R, hR⟩ : ∃ R, linesL s.data.toList = R := ⟨_, rfl⟩
  have hR := Lib.hid hR
  have hp := hm.pos
  have hMB := Lib.hid (fun (w' : World) (h : Below w.heap.size w w') => hm.below h)
  go_enter Tryz.func45, Tryz.ntmps45
  go_wp2
  go_loopw [0, 3] (fun v0 v3 wr => ∃ (t : ByteArray) (acc : List ByteArray), v0 = .string t ∧ wr.ownsRowF w.heap.size 9 1 v3 acc.length (acc.map Value.string) ∧ Below w.heap.size w wr ∧ Hid (acc ++ (linesL t.data.toList).map (fun l => (⟨l.toArray⟩ : ByteArray)) = (linesL s.data.toList).map (fun l => (⟨l.toArray⟩ : ByteArray))) ∧ acc.length + t.size ≤ s.size) (fun v0 v3 wr => match v0 with | .string t => t.size | _ => 0)
  case atStart => exact ⟨s, [], rfl, ⟨rfl, .inl ⟨rfl, rfl⟩⟩, Below.refl _ _, Lib.hid rfl, by simp⟩
  case round =>
    obtain ⟨t, acc, rfl, hO, hbw, HA, hal⟩ := hrel
    have hsz := hbw.size
    by_cases ht : t.data.toList = []
    · have hz : t.size = 0 := by rw [show t.size = t.data.toList.length from rfl, ht]; rfl
      have HF := Lib.hid (show acc = (linesL s.data.toList).map (fun l => (⟨l.toArray⟩ : ByteArray)) by rw [← HA.out, ht, linesL_nil]; simp)
      have hd : decide (0 < t.size) = false := decide_eq_false (by omega)
      clear HA ht hz
      go_wp2
      go_ret
      refine ⟨_, rfl, ?_, hbw⟩
      have : (linesL s.data.toList).length = acc.length := by rw [HF.out]; simp
      rw [this, ← HF.out]
      exact hO
    · have hpos : 0 < t.size := List.length_pos_iff.2 ht
      have hcr : (Lib.cut t.data.toList [10]).2.1.length < t.size := cut_rest t.data.toList ht
      have hcf : (Lib.cut t.data.toList [10]).1.length ≤ t.size := cut_first t.data.toList [10]
      have HL := Lib.hid (linesL_cons t.data.toList ht)
      have hC := fun w h => Cut_any t ⟨#[10]⟩ w (by omega) h
      rw [show (ByteArray.mk #[10]).data.toList = [10] from rfl] at hC
      obtain ⟨c, hc⟩ : ∃ c, Lib.cut t.data.toList [10] = c := ⟨_, rfl⟩
      obtain ⟨c1, c2, c3⟩ := c
      rw [hc] at hC hcr hcf
      have HL2 := HL.out
      rw [hc] at HL2
      simp only at hC hcr hcf HL2
      have hT := fun w => Trim_any ⟨c1.toArray⟩ w (by have : (ByteArray.mk c1.toArray).size = c1.length := rfl; omega)
      rw [show (ByteArray.mk c1.toArray).data.toList = c1 from by simp] at hT
      obtain ⟨tr, htr⟩ : ∃ tr, Lib.trimB c1 32 = tr := ⟨_, rfl⟩
      rw [htr] at hT HL2
      have hT := Lib.hid hT
      have hC := Lib.hid hC
      have HA2 := Lib.hid (show (acc ++ [⟨tr.toArray⟩]) ++ (linesL (ByteArray.mk c2.toArray).data.toList).map (fun l => (⟨l.toArray⟩ : ByteArray)) = (linesL s.data.toList).map (fun l => (⟨l.toArray⟩ : ByteArray)) by
        rw [← HA.out, HL2]; simp)
      have hc2 : (ByteArray.mk c2.toArray).size < t.size := hcr
      clear HL HL2 hc htr HA hcr ht hcf
      have hMw := Lib.hid (hMB.out _ hbw)
      have hd : decide (0 < t.size) = true := decide_eq_true (by omega)
      go_upto_region 4 with (go_at_call 69; refine (hC.out _ hMw.out).mono ?_; rintro e w5 ⟨rfl, hb5⟩)
      have hO5 := own_below hO hb5
      have hz5 := hb5.size
      have hbw5 := hbw.trans (below_mono hb5 (by omega))
      go_wp2_with (first
        | (go_at_call 70; refine (hT.out _).mono ?_; rintro e w6 ⟨rfl, hb6⟩)
        | (at_builtin; refine wpAppStr rfl _ _ rfl w.heap.size _ acc rfl (own_below hO5 hb6) _ rfl (by omega) (by have := hb6.size; omega) ?_; intro v' w7 hown' hgrow))
      have hbw7 : Below w.heap.size w w7 := ((hbw5.trans (below_mono hb6 (by omega))).alloc (by have := hb6.size; omega) _).grown hgrow (by have := hb6.size; simp; omega) (fun k hk => ((own_below hO5 hb6).lt k hk).1)
      go_wp2
      go_roundw
      case rel => exact ⟨⟨c2.toArray⟩, acc ++ [⟨tr.toArray⟩], rfl, hown', hbw7, HA2, by simp; omega⟩
      case measure => simpa using hc2
end Go.Proofs.YtmklpjelfonilaaGreatDoor
