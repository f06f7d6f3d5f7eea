/- AsmBack: what is written is read as the same instruction; what is read is written as the same text: the walk. -/
import Derived.Test.YtmklpjelfonilaaGreatDoorH1
namespace Go.Proofs.YtmklpjelfonilaaGreatDoor
open Go.RowKit
attribute [local go_sem] alloc_drewN setCell_drewN wext_size wext_drewN wext_drew wext_setCell wext_cell wext_frozen wext_wext lt_e1 lt_e2 lt_e3 lt_e4 lt_e5 lt_e6
set_option linter.unusedVariables false
set_option linter.unusedSimpArgs false

theorem render_length (tl : Int → List UInt8) (h : ∀ a, (tl a).length ≤ 22) : ∀ (s : List UInt8) (l : List Int), (renderL tl s l).length ≤ 22 * s.length
  | [], l => by simp [renderL]
  | c :: cs, l => by
    unfold renderL
    split
    · have := render_length tl h cs l.tail
      have := h (l.headD 3)
      simp only [List.length_append, List.length_cons]; omega
    · have := render_length tl h cs l
      simp only [List.length_cons]; omega
theorem line_length (i : Ins) (hi : i.wf) : (lineL i).length ≤ 4000 := by
  have h1 := nameOf_size i
  have h2 := render_length (toldL i) (toldL_length i hi) (shapeOf i.kind).data.toList (argsOf i.kind)
  have h3 := (shape_ok i.kind).1
  have h4 : (nameOf i).data.toList.length = (nameOf i).size := rfl
  unfold lineL
  rw [List.length_append]
  omega
theorem lineB_size (i : Ins) (hi : i.wf) : (lineB i).size ≤ 4000 := by
  unfold lineB
  split
  · exact line_length i hi
  · decide

/-- What the law does first: it writes the instruction, and reads its line. -/
def BackOk (i : Ins) : Prop := (encodeOf i).isSome = true → parseOf (lineB i) = some i

set_option maxHeartbeats 6400000 in
set_option maxRecDepth 1000000 in
theorem AsmBack_any (i : Ins) (hi : i.wf) (line : ByteArray) (hs : line.size ≤ 1048576) (w : World) (hw : Env w) (hm : MaxL w) :
    Calls Tryz.prog 5 #[i.val, .string line] w fun e w' => e = .returned (.bool true) ∧ Below w.heap.size w w' := by
  obtain ⟨lb, hlb⟩ : ∃ lb, lineB i = lb := ⟨_, rfl⟩
  obtain ⟨o, ho⟩ : ∃ o, encodeOf i = o := ⟨_, rfl⟩
  have hls := lineB_size i hi
  have hLn := fun w hw => Line_any i hi w hw
  have hEn := fun w => Encode_any i w
  have hP1 := fun w hw => Parse_any (lineB i) w (by omega) hw
  have hPi := fun (h : (encodeOf i).isSome = true) => parse_line h
  have hP2 := fun w hw => Parse_any line w (by omega) hw
  have hPs := fun k (h : parseOf line = some k) => parse_sound h
  obtain ⟨po, hpo⟩ : ∃ po, parseOf line = po := ⟨_, rfl⟩
  rw [hlb, ho] at hLn
  rw [ho] at hEn hPi
  rw [hlb] at hP1 hPi hls
  rw [hpo] at hP2 hPs
  obtain ⟨kind, fn, rd, rs1, rs2, imm, size, sg⟩ := i
  unfold Ins.val at *
  have hLn := Lib.hid hLn
  have hEn := Lib.hid hEn
  have hE := Lib.hid (fun w' (h : Below w.heap.size w w') => hw.below h)
  have hM := Lib.hid (fun w' (h : Below w.heap.size w w') => hm.below h)
  have hAw := Lib.hid (fun w' (h : Below w.heap.size w w') => awake_any w' (hw.below h) (hm.below h))
  have hPs := Lib.hid hPs
  clear hlb ho hpo
  go_enter Tryz.func5, Tryz.ntmps5
  have hb0 : Below w.heap.size w (w.alloc (.cells #[.int .i64 kind, .int .i64 fn, .int .i64 rd, .int .i64 rs1, .int .i64 rs2, .int .i64 imm, .int .i64 size, .bool sg] 23)) := (Below.refl _ w).alloc (Nat.le_refl _) _
  have hx0 := heap_alloc_new w (.cells #[.int .i64 kind, .int .i64 fn, .int .i64 rd, .int .i64 rs1, .int .i64 rs2, .int .i64 imm, .int .i64 size, .bool sg] 23)
  have hb0 := Lib.hid hb0
  have hx0 := Lib.hid hx0
  go_upto_region 2 with (go_at_call 10; refine (hLn.out _ (hE.out _ hb0.out)).mono ?_; rintro e w1 ⟨rfl, hb1⟩)
  have hx1 : w1.heap[w.heap.size]? = _ := (hb1.block _ (by simp)).trans hx0.out
  obtain ⟨g0, g1, g2, g3, g4, g5, g6, g7⟩ := box8 hx1
  have HB1 := Lib.hid (hb0.out.trans (below_mono hb1 hb0.out.size))
  have hlt1 : w.heap.size < w1.heap.size := (Array.getElem?_eq_some_iff.1 hx1).1
  clear hb1
  cases o with
  | none =>
    clear hP1 hPi
    go_upto_region 9 with (go_at_call 15; refine (hEn.out _).mono ?_; rintro e w2 ⟨rfl, hb2⟩)
    have HB := Lib.hid (HB1.out.trans (below_mono hb2 HB1.out.size))
    clear hb2 g0 g1 g2 g3 g4 g5 g6 g7 hx1 hlt1
    cases po with
    | none =>
      have hP2' : ∀ w, Env w → Calls Tryz.prog 13 #[.string line] w fun e w' => e = .returned (.tuple #[.agg #[.int .i64 0, .int .i64 0, .int .i64 0, .int .i64 0, .int .i64 0, .int .i64 0, .int .i64 0, .bool false], .bool false]) ∧ Below w.heap.size w w' := hP2
      have hP3 := Lib.hid hP2'
      clear hP2 hP2'
      go_wp2_with (first
        | (go_at_call 13; refine (hP3.out _ (hE.out _ HB.out)).mono ?_; rintro e w5 ⟨rfl, hb5⟩; have HC := Lib.hid (HB.out.trans (below_mono hb5 HB.out.size)))
        | (go_at_call 12; refine (hAw.out _ (HC.out.alloc HC.out.size _)).mono ?_; rintro e w6 ⟨rfl, hb6⟩))
      go_ret
      exact ⟨rfl, (HC.out.alloc HC.out.size _).trans (below_mono hb6 (HC.out.alloc HC.out.size _).size)⟩
    | some k =>
      obtain ⟨h1, h2⟩ := hPs.out k rfl
      have hkw := (good_some h1).wf
      have hLk := fun w hw => Line_any k hkw w hw
      rw [h1, h2] at hLk
      obtain ⟨k0, k1, k2, k3, k4, k5, k6, k7⟩ := k
      have hP2' : ∀ w, Env w → Calls Tryz.prog 13 #[.string line] w fun e w' => e = .returned (.tuple #[.agg #[.int .i64 k0, .int .i64 k1, .int .i64 k2, .int .i64 k3, .int .i64 k4, .int .i64 k5, .int .i64 k6, .bool k7], .bool true]) ∧ Below w.heap.size w w' := hP2
      have hLk' : ∀ w, Env w → Calls Tryz.prog 10 #[.agg #[.int .i64 k0, .int .i64 k1, .int .i64 k2, .int .i64 k3, .int .i64 k4, .int .i64 k5, .int .i64 k6, .bool k7]] w fun e w' => e = .returned (.tuple #[.string line, .bool true]) ∧ Below w.heap.size w w' := hLk
      have hP3 := Lib.hid hP2'
      have hL3 := Lib.hid hLk'
      clear hP2 hP2' hLk hLk' h1 h2 hkw
      go_wp2_with (first
        | (go_at_call 13; refine (hP3.out _ (hE.out _ HB.out)).mono ?_; rintro e w5 ⟨rfl, hb5⟩; have HC := Lib.hid (HB.out.trans (below_mono hb5 HB.out.size)))
        | (go_at_call 10; refine (hL3.out _ (hE.out _ (HC.out.alloc HC.out.size _))).mono ?_; rintro e w6 ⟨rfl, hb6⟩; have HD := Lib.hid ((HC.out.alloc HC.out.size _).trans (below_mono hb6 (HC.out.alloc HC.out.size _).size)))
        | (go_at_call 12; refine (hAw.out _ HD.out).mono ?_; rintro e w7 ⟨rfl, hb7⟩))
      go_ret
      exact ⟨rfl, HD.out.trans (below_mono hb7 HD.out.size)⟩
  | some x =>
    rw [hPi rfl] at hP1
    have hP1' : ∀ w, Env w → Calls Tryz.prog 13 #[.string lb] w fun e w' => e = .returned (.tuple #[.agg #[.int .i64 kind, .int .i64 fn, .int .i64 rd, .int .i64 rs1, .int .i64 rs2, .int .i64 imm, .int .i64 size, .bool sg], .bool true]) ∧ Below w.heap.size w w' := hP1
    have hP4 := Lib.hid hP1'
    clear hP1 hPi hP1'
    go_upto_region 7 with (first
      | (go_at_call 15; refine (hEn.out _).mono ?_; rintro e w2 ⟨rfl, hb2⟩; have HB2 := Lib.hid (HB1.out.trans (below_mono hb2 HB1.out.size)))
      | (go_at_call 13; refine (hP4.out _ (hE.out _ HB2.out)).mono ?_; rintro e w3 ⟨rfl, hb3⟩; have HB3 := Lib.hid (HB2.out.trans (below_mono hb3 HB2.out.size))))
    have hx3 : w3.heap[w.heap.size]? = _ := (hb3.block _ (Nat.lt_of_lt_of_le hlt1 hb2.size)).trans ((hb2.block _ hlt1).trans hx1)
    have hlt3 : w.heap.size < w3.heap.size := (Array.getElem?_eq_some_iff.1 hx3).1
    clear g0 g1 g2 g3 g4 g5 g6 g7 hb2 hb3 hx1
    obtain ⟨g0, g1, g2, g3, g4, g5, g6, g7⟩ := box8 hx3
    have HB := Lib.hid (HB3.out.alloc HB3.out.size (.cells #[.int .i64 kind, .int .i64 fn, .int .i64 rd, .int .i64 rs1, .int .i64 rs2, .int .i64 imm, .int .i64 size, .bool sg] 23))
    go_upto_region 9 with fail
    clear g0 g1 g2 g3 g4 g5 g6 g7 hx3 hlt3 hlt1
    cases po with
    | none =>
      have hP2' : ∀ w, Env w → Calls Tryz.prog 13 #[.string line] w fun e w' => e = .returned (.tuple #[.agg #[.int .i64 0, .int .i64 0, .int .i64 0, .int .i64 0, .int .i64 0, .int .i64 0, .int .i64 0, .bool false], .bool false]) ∧ Below w.heap.size w w' := hP2
      have hP3 := Lib.hid hP2'
      clear hP2 hP2'
      go_wp2_with (first
        | (go_at_call 13; refine (hP3.out _ (hE.out _ HB.out)).mono ?_; rintro e w5 ⟨rfl, hb5⟩; have HC := Lib.hid (HB.out.trans (below_mono hb5 HB.out.size)))
        | (go_at_call 12; refine (hAw.out _ (HC.out.alloc HC.out.size _)).mono ?_; rintro e w6 ⟨rfl, hb6⟩))
      go_ret
      exact ⟨rfl, (HC.out.alloc HC.out.size _).trans (below_mono hb6 (HC.out.alloc HC.out.size _).size)⟩
    | some k =>
      obtain ⟨h1, h2⟩ := hPs.out k rfl
      have hkw := (good_some h1).wf
      have hLk := fun w hw => Line_any k hkw w hw
      rw [h1, h2] at hLk
      obtain ⟨k0, k1, k2, k3, k4, k5, k6, k7⟩ := k
      have hP2' : ∀ w, Env w → Calls Tryz.prog 13 #[.string line] w fun e w' => e = .returned (.tuple #[.agg #[.int .i64 k0, .int .i64 k1, .int .i64 k2, .int .i64 k3, .int .i64 k4, .int .i64 k5, .int .i64 k6, .bool k7], .bool true]) ∧ Below w.heap.size w w' := hP2
      have hLk' : ∀ w, Env w → Calls Tryz.prog 10 #[.agg #[.int .i64 k0, .int .i64 k1, .int .i64 k2, .int .i64 k3, .int .i64 k4, .int .i64 k5, .int .i64 k6, .bool k7]] w fun e w' => e = .returned (.tuple #[.string line, .bool true]) ∧ Below w.heap.size w w' := hLk
      have hP3 := Lib.hid hP2'
      have hL3 := Lib.hid hLk'
      clear hP2 hP2' hLk hLk' h1 h2 hkw
      go_wp2_with (first
        | (go_at_call 13; refine (hP3.out _ (hE.out _ HB.out)).mono ?_; rintro e w5 ⟨rfl, hb5⟩; have HC := Lib.hid (HB.out.trans (below_mono hb5 HB.out.size)))
        | (go_at_call 10; refine (hL3.out _ (hE.out _ (HC.out.alloc HC.out.size _))).mono ?_; rintro e w6 ⟨rfl, hb6⟩; have HD := Lib.hid ((HC.out.alloc HC.out.size _).trans (below_mono hb6 (HC.out.alloc HC.out.size _).size)))
        | (go_at_call 12; refine (hAw.out _ HD.out).mono ?_; rintro e w7 ⟨rfl, hb7⟩))
      go_ret
      exact ⟨rfl, HD.out.trans (below_mono hb7 HD.out.size)⟩
end Go.Proofs.YtmklpjelfonilaaGreatDoor
