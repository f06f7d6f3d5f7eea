/- awake: a line that the document tells, and a program of three lines. -/
import Derived.Test.YtmklpjelfonilaaGreatDoorG7
namespace Go.Proofs.YtmklpjelfonilaaGreatDoor
open Go.RowKit
attribute [local go_sem] alloc_drewN setCell_drewN wext_size wext_drewN wext_drew wext_setCell wext_cell wext_frozen wext_wext lt_e1 lt_e2 lt_e3 lt_e4 lt_e5 lt_e6
set_option linter.unusedVariables false
set_option linter.unusedSimpArgs false

def argSign (c : UInt8) : Prop := c = 120 ∨ c = 45 ∨ (48 ≤ c.toNat ∧ c.toNat ≤ 57)
theorem told_signs (i : Ins) (a : Int) : ∀ c ∈ toldL i a, argSign c := by
  have key : ∀ n : Int, ∀ c ∈ Lib.itoa n, argSign c := fun n c hc => .inr (itoa_bytes n c hc)
  have key2 : ∀ n : Int, ∀ c ∈ (120 :: Lib.itoa n), argSign c := fun n c hc => by
    rcases List.mem_cons.1 hc with h | h
    · exact .inl h
    · exact key n c h
  unfold toldL
  repeat' split
  all_goals first | exact key2 _ | exact key _

/-- No instruction has a word, behind its name, of other signs than those of numbers. -/
theorem parse_no {line w0 : ByteArray} {rest : List ByteArray} (hw : wordsOf line = w0 :: rest) {t : ByteArray} (ht : t ∈ rest) {c : UInt8} (hc : c ∈ t.data.toList) (hbad : ¬ argSign c) : parseOf line = none := by
  cases hp : parseOf line with
  | none => rfl
  | some k =>
    exfalso
    obtain ⟨h1, h2⟩ := parse_sound hp
    have hg := good_some h1
    have := line_words hg
    rw [← lineB_some h1, h2, hw] at this
    injection this with _ hr
    rw [hr] at ht
    obtain ⟨a, _, rfl⟩ := List.mem_map.1 ht
    have e : (mkB (toldL k a)).data.toList = toldL k a := by simp [mkB]
    rw [e] at hc
    exact hbad (told_signs k a c hc)

def lineAddi : Ins := ⟨9, 1, 1, 1, 0, 1, 0, false⟩
def lineBne : Ins := ⟨5, 2, 0, 1, 2, -4, 0, false⟩
def lineFirst : Ins := ⟨9, 1, 1, 2, 0, -5, 0, false⟩
def awakeText : List UInt8 := [97, 58, 10, 97, 100, 100, 105, 32, 120, 49, 44, 32, 120, 49, 44, 32, 49, 10, 98, 110, 101, 32, 120, 49, 44, 32, 120, 50, 44, 32, 97, 10]
theorem enc_addi : encodeOf lineAddi = some 1081491 := by decide +kernel
theorem enc_bne : encodeOf lineBne = some 4263550691 := by decide +kernel
theorem line_addi : lineB lineAddi = ⟨[97, 100, 100, 105, 32, 120, 49, 44, 32, 120, 49, 44, 32, 49].toArray⟩ := by decide +kernel
theorem line_bne : lineB lineBne = ⟨[98, 110, 101, 32, 120, 49, 44, 32, 120, 50, 44, 32, 45, 52].toArray⟩ := by decide +kernel
theorem awake_lines : linesL awakeText = [[97, 58], [97, 100, 100, 105, 32, 120, 49, 44, 32, 120, 49, 44, 32, 49], [98, 110, 101, 32, 120, 49, 44, 32, 120, 50, 44, 32, 97]] := by decide +kernel
theorem bne_words : wordsOf ⟨[98, 110, 101, 32, 120, 49, 44, 32, 120, 50, 44, 32, 97].toArray⟩ = [⟨#[98, 110, 101]⟩, ⟨#[120, 49]⟩, ⟨#[120, 50]⟩, ⟨#[97]⟩] := by decide +kernel

theorem addi_parse : parseOf ⟨[97, 100, 100, 105, 32, 120, 49, 44, 32, 120, 49, 44, 32, 49].toArray⟩ = some lineAddi := by
  rw [← line_addi]; exact parse_line (by rw [enc_addi]; rfl)
theorem bne_parse : parseOf ⟨[98, 110, 101, 32, 120, 49, 44, 32, 120, 50, 44, 32, 45, 52].toArray⟩ = some lineBne := by
  rw [← line_bne]; exact parse_line (by rw [enc_bne]; rfl)
theorem bne_not : parseOf ⟨[98, 110, 101, 32, 120, 49, 44, 32, 120, 50, 44, 32, 97].toArray⟩ = none :=
  parse_no bne_words (t := ⟨#[97]⟩) (c := 97) (by simp) (by simp) (by unfold argSign; decide)

theorem word_addi (f : List UInt8 → Option Int) (p : Int) : wordOf f p ⟨[97, 100, 100, 105, 32, 120, 49, 44, 32, 120, 49, 44, 32, 49].toArray⟩ = some 1081491 := by
  unfold wordOf
  rw [if_neg (by decide +kernel), addi_parse]
  exact enc_addi
theorem word_bne (f : List UInt8 → Option Int) (hf : f [97] = some 0) : wordOf f 4 ⟨[98, 110, 101, 32, 120, 49, 44, 32, 120, 50, 44, 32, 97].toArray⟩ = some 4263550691 := by
  unfold wordOf
  rw [if_neg (by decide +kernel), bne_not]
  have hc : cutAt ⟨[98, 110, 101, 32, 120, 49, 44, 32, 120, 50, 44, 32, 97].toArray⟩ = 12 := by decide +kernel
  simp only [hc]
  rw [if_neg (by decide)]
  have he : ((ByteArray.mk [98, 110, 101, 32, 120, 49, 44, 32, 120, 50, 44, 32, 97].toArray).extract (12 : Int).toNat (ByteArray.mk [98, 110, 101, 32, 120, 49, 44, 32, 120, 50, 44, 32, 97].toArray).size).data.toList = [97] := by decide +kernel
  rw [he, hf]
  have hx : (ByteArray.mk [98, 110, 101, 32, 120, 49, 44, 32, 120, 50, 44, 32, 97].toArray).extract 0 (12 : Int).toNat ++ ⟨(Lib.itoa (0 - 4)).toArray⟩ = ⟨[98, 110, 101, 32, 120, 49, 44, 32, 120, 50, 44, 32, 45, 52].toArray⟩ := by decide +kernel
  simp only [hx, bne_parse]
  exact enc_bne

theorem awake_asm : asmOf (linesL awakeText) = .inr [147, 128, 16, 0, 227, 158, 32, 254] := by
  rw [awake_lines]
  have h1 : (placesL [[97, 58], [97, 100, 100, 105, 32, 120, 49, 44, 32, 120, 49, 44, 32, 49], [98, 110, 101, 32, 120, 49, 44, 32, 120, 50, 44, 32, 97]]).1 [97] = some 0 := by decide +kernel
  have h2 : (placesL [[97, 58], [97, 100, 100, 105, 32, 120, 49, 44, 32, 120, 49, 44, 32, 49], [98, 110, 101, 32, 120, 49, 44, 32, 120, 50, 44, 32, 97]]).2 [97] = some 0 := by decide +kernel
  unfold asmOf
  generalize (placesL [[97, 58], [97, 100, 100, 105, 32, 120, 49, 44, 32, 120, 49, 44, 32, 49], [98, 110, 101, 32, 120, 49, 44, 32, 120, 50, 44, 32, 97]]).1 = f at *
  generalize (placesL [[97, 58], [97, 100, 100, 105, 32, 120, 49, 44, 32, 120, 49, 44, 32, 49], [98, 110, 101, 32, 120, 49, 44, 32, 120, 50, 44, 32, 97]]).2 = g at *
  rw [asmFrom, if_neg (by decide), if_pos ⟨by decide +kernel, by rw [show markText [97, 58] = [97] from by decide +kernel, h2]; rfl⟩]
  rw [asmFrom, if_neg (by decide), if_neg (fun h => absurd h.1 (by decide +kernel)), word_addi]
  simp only
  rw [if_neg (by decide)]
  rw [asmFrom, if_neg (by decide), if_neg (fun h => absurd h.1 (by decide +kernel))]
  rw [show (((([] : List Int) ++ bytes4 1081491).length : Nat) : Int) = 4 from rfl, word_bne f h1]
  simp only
  rw [if_neg (by decide)]
  rfl

theorem awakeB : asmB awakeText = [147, 128, 16, 0, 227, 158, 32, 254] := by unfold asmB; rw [awake_asm]; rfl
theorem awakeW : asmW awakeText = 0 := by unfold asmW; rw [awake_asm]; rfl
theorem enc_first : encodeOf lineFirst = some 4289790099 := by decide +kernel
theorem line_first : lineB lineFirst = ⟨#[97, 100, 100, 105, 32, 120, 49, 44, 32, 120, 50, 44, 32, 45, 53]⟩ := by decide +kernel

theorem awake_short : ∀ l ∈ linesL awakeText, l.length ≤ 900000000 := by
  rw [awake_lines]; intro l hl
  simp only [List.mem_cons, List.mem_nil_iff, or_false] at hl
  rcases hl with rfl | rfl | rfl <;> decide

set_option maxHeartbeats 1600000 in
set_option maxRecDepth 1000000 in
theorem awake_any (w : World) (hw : Env w) (hm : MaxL w) : Calls Tryz.prog 12 #[] w fun e w' => e = .returned (.bool true) ∧ Below w.heap.size w w' := by
  have hLn := fun w hw => Line_any lineFirst (by unfold Ins.wf lineFirst; dsimp only; omega) w hw
  rw [line_first, enc_first] at hLn
  have hLn2 : ∀ w, Env w → Calls Tryz.prog 10 #[.agg #[.int .i64 9, .int .i64 1, .int .i64 1, .int .i64 2, .int .i64 0, .int .i64 (-5), .int .i64 0, .bool false]] w fun e w' => e = .returned (.tuple #[.string ⟨#[97, 100, 100, 105, 32, 120, 49, 44, 32, 120, 50, 44, 32, 45, 53]⟩, .bool true]) ∧ Below w.heap.size w w' := hLn
  have hAs := fun w hw hm => Assemble_any ⟨#[97, 58, 10, 97, 100, 100, 105, 32, 120, 49, 44, 32, 120, 49, 44, 32, 49, 10, 98, 110, 101, 32, 120, 49, 44, 32, 120, 50, 44, 32, 97, 10]⟩ w (by decide) awake_short hw hm
  rw [show asmB (ByteArray.mk #[97, 58, 10, 97, 100, 100, 105, 32, 120, 49, 44, 32, 120, 49, 44, 32, 49, 10, 98, 110, 101, 32, 120, 49, 44, 32, 120, 50, 44, 32, 97, 10]).data.toList = _ from awakeB, show asmW (ByteArray.mk #[97, 58, 10, 97, 100, 100, 105, 32, 120, 49, 44, 32, 120, 49, 44, 32, 49, 10, 98, 110, 101, 32, 120, 49, 44, 32, 120, 50, 44, 32, 97, 10]).data.toList = _ from awakeW] at hAs
  have hLn3 := Lib.hid hLn2
  have hAs := Lib.hid hAs
  have hE := Lib.hid (fun w' (h : Below w.heap.size w w') => hw.below h)
  have hM := Lib.hid (fun w' (h : Below w.heap.size w w') => hm.below h)
  clear hLn hLn2
  go_enter Tryz.func12, Tryz.ntmps12
  go_wp2_with (first
    | (go_at_call 10; refine (hLn3.out _ hw).mono ?_; rintro e w1 ⟨rfl, hb1⟩)
    | (go_at_call 18; refine (hAs.out _ (hE.out _ hb1) (hM.out _ hb1)).mono ?_; rintro e w2 ⟨v, rfl, hO, hb2⟩; have hA := Lib.hid (BytSl.of_own hO); have hbA := Lib.hid (hb1.trans (below_mono hb2 hb1.size)); have hz2 := Lib.hid (Nat.le_trans hb1.size hb2.size); clear hO; obtain ⟨ao, c, rfl, _⟩ := hA.out)
    | (go_at_call 20; refine (SameBytes_any _ _ [147, 128, 16, 0, 227, 158, 32, 254] [147, 128, 16, 0, 227, 158, 32, 254] _ (hA.out.below ((Below.refl _ _).alloc (Nat.le_refl _) _)) ⟨_, 8, rfl, .inr ⟨_, 0, rfl, by simp, ?hcell⟩⟩ (by decide) (by decide)).mono ?_; (case hcell => intro j x hj; rw [Nat.zero_add, Lib.cell_of_heap (heap_alloc_new _ _)]; (match j, hj with | 0, hj | 1, hj | 2, hj | 3, hj | 4, hj | 5, hj | 6, hj | 7, hj => simp at hj; subst hj; rfl)); rintro e w3 ⟨rfl, hb3⟩))
  go_ret
  exact ⟨by simp, (hbA.out.alloc hz2.out _).trans (below_mono hb3 (by have := hz2.out; simp; omega))⟩
end Go.Proofs.YtmklpjelfonilaaGreatDoor
