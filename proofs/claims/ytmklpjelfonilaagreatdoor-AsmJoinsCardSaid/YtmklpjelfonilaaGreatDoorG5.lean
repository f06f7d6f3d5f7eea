/- Package asm: word: the number that a line says, at a place. -/
import Derived.Test.YtmklpjelfonilaaGreatDoorE4
import Derived.Test.YtmklpjelfonilaaGreatDoorG3
import Derived.Test.YtmklpjelfonilaaGreatDoorG4
import Derived.IntWalk
namespace Go.Proofs.YtmklpjelfonilaaGreatDoor
open Go.RowKit
attribute [local go_sem] alloc_drewN setCell_drewN wext_size wext_drewN wext_drew wext_setCell wext_cell wext_frozen wext_wext lt_e1 lt_e2 lt_e3 lt_e4 lt_e5 lt_e6
set_option linter.unusedVariables false
set_option linter.unusedSimpArgs false

def dotWord : List UInt8 := [46, 119, 111, 114, 100, 32]
/-- The number of a .word line's rest; none: it is none. -/
def wordNum (l : List UInt8) : Option Int := match Lib.parseUintB 32 l with | .ok u => if Lib.decDigits u = l then some (u : Int) else none | _ => none
def cutAt (line : ByteArray) : Int := Lib.lastIndex line.data.toList [32] + 1
/-- `word(line, at, place)`. -/
def wordOf (f : List UInt8 → Option Int) (place : Int) (line : ByteArray) : Option Int :=
  if Lib.hasPrefix line.data.toList dotWord then wordNum (Lib.trimPrefix line.data.toList dotWord)
  else match parseOf line with
    | some i => encodeOf i
    | none => if cutAt line = 0 then none else match f (line.extract (cutAt line).toNat line.size).data.toList with
      | none => none
      | some tgt => match parseOf (line.extract 0 (cutAt line).toNat ++ ⟨(Lib.itoa (tgt - place)).toArray⟩) with
        | some j => encodeOf j
        | none => none

def WordPost (o : Option Int) (w : World) (e : Ending) (w' : World) : Prop := ∃ r : Int, e = .returned (.tuple #[.int .u32 r, .bool o.isSome]) ∧ (∀ v, o = some v → r = v) ∧ Below w.heap.size w w'

theorem parseUintB_lt {l : List UInt8} {n : Nat} (h : Lib.parseUintB 32 l = .ok n) : n < 4294967296 := by
  unfold Lib.parseUintB at h
  split at h
  · cases h
  · have := Lib.parseUintM_le (2 ^ 32 - 1) l 0 n (by omega) h
    omega
/-- ParseUint at base 10 and 32 bits, at every text, in a world whose variables stand. -/
theorem ParseUint_any (t : ByteArray) (hl : t.size ≤ 281474976710656) (w : World) (hw : Env w) :
    Calls Tryz.prog 74 #[.string t, .int .i64 10, .int .i64 32] w fun e w' => (∃ (n : Nat) (er : Value), e = .returned (.tuple #[.int .u64 n, er]) ∧ n < 4294967296 ∧ ((Lib.parseUintB 32 t.data.toList = .ok n ∧ er = .nilIface) ∨ ((∀ m, Lib.parseUintB 32 t.data.toList ≠ .ok m) ∧ ∃ N, er = .iface 137 (.pointer (some ⟨N, 0, none⟩))))) ∧ Below w.heap.size w w' := by
  obtain ⟨tp, p, hs⟩ := hw.syn
  obtain ⟨tq, q, hr⟩ := hw.rng
  cases h : Lib.parseUintB 32 t.data.toList with
  | ok n =>
    refine (Tryz.strconv_ParseUint_10_at32_ok t (by omega) n h w).mono ?_
    rintro e w' ⟨rfl, hw'⟩
    have hn : n < 4294967296 := by
      exact parseUintB_lt h
    refine ⟨⟨n, _, rfl, hn, .inl ⟨rfl, rfl⟩⟩, ?_⟩
    rcases hw' with rfl | rfl
    · exact Below.refl _ _
    · exact ⟨rfl, rfl, rfl, by rw [Lib.bytesWorld_size]; omega, fun j hj => Lib.bytesWorld_at_old w 5 t j hj⟩
  | range =>
    refine (Tryz.strconv_ParseUint_10_at32_range_var t hl h tq q w hr).mono ?_
    rintro e w' ⟨N, rfl, _, _, hb⟩
    exact ⟨⟨4294967295, _, rfl, by omega, .inr ⟨(fun m e => by cases e), N, rfl⟩⟩, hb⟩
  | _ =>
    refine (Tryz.strconv_ParseUint_10_at32_syntax_var t hl h tp p w hs).mono ?_
    rintro e w' ⟨N, rfl, _, _, hb⟩
    exact ⟨⟨0, _, rfl, by omega, .inr ⟨(fun m e => by cases e), N, rfl⟩⟩, hb⟩

theorem trimPrefix_le (l p : List UInt8) : (Lib.trimPrefix l p).length ≤ l.length := by
  unfold Lib.trimPrefix
  split
  · rw [List.length_drop]; omega
  · exact Nat.le_refl _

theorem CutPrefix_any (s : ByteArray) (w : World) : Calls Tryz.prog 73 #[.string s, .string ⟨#[46, 119, 111, 114, 100, 32]⟩] w fun e w' => e = .returned (.tuple #[.string ⟨(Lib.trimPrefix s.data.toList dotWord).toArray⟩, .bool (Lib.hasPrefix s.data.toList dotWord)]) ∧ w = w' :=
  (Tryz.strings_CutPrefix s ⟨#[46, 119, 111, 114, 100, 32]⟩ w).mono fun _ _ ⟨a, b⟩ => ⟨a, b.symm⟩

theorem cutAt_bound (line : ByteArray) : 0 ≤ cutAt line ∧ cutAt line ≤ line.size := by
  unfold cutAt Lib.lastIndex
  have hs : line.data.toList.length = line.size := rfl
  split
  · rename_i h
    rcases Lib.lastOcc_spec line.data.toList [32] (line.data.toList.length - [(32 : UInt8)].length + 1) with ⟨e, _⟩ | ⟨i, hi, e, _⟩
    · rw [e]; omega
    · rw [e]; simp only [List.length_singleton] at hi h; omega
  · omega
theorem LastIndex_any (s : ByteArray) (w : World) (hs : s.size ≤ 1000000000) : Calls Tryz.prog 75 #[.string s, .string ⟨#[32]⟩] w fun e w' => e = .returned (.int .i64 (cutAt s - 1)) ∧ w = w' := by
  refine (Tryz.strings_LastIndex s ⟨#[32]⟩ (by omega) w).mono ?_
  rintro e w' ⟨rfl, rfl⟩
  refine ⟨?_, rfl⟩
  unfold cutAt
  rw [show Lib.lastIndex s.data.toList [32] + 1 - 1 = Lib.lastIndex s.data.toList [32] from by omega]

set_option maxHeartbeats 1600000 in
set_option maxRecDepth 1000000 in
/-- The lines that begin as .word lines. -/
theorem word_dot (line : ByteArray) (m : Value) (place : Int) (w : World) (hs : line.size ≤ 1000000000) (hw : Env w) (hp : Lib.hasPrefix line.data.toList dotWord = true) :
    Calls Tryz.prog 49 #[.string line, m, .int .i64 place] w (WordPost (wordNum (Lib.trimPrefix line.data.toList dotWord)) w) := by
  have hC := CutPrefix_any line
  have hle := trimPrefix_le line.data.toList dotWord
  obtain ⟨t, ht⟩ : ∃ t, Lib.trimPrefix line.data.toList dotWord = t := ⟨_, rfl⟩
  rw [hp, ht] at hC
  rw [ht] at hle ⊢
  have hsz : line.data.toList.length = line.size := rfl
  have hU := fun w hw => ParseUint_any ⟨t.toArray⟩ (by show t.length ≤ _; omega) w hw
  rw [data_mk] at hU
  have hC := Lib.hid hC
  have hU := Lib.hid hU
  have hE := Lib.hid (fun w' (h : Below w.heap.size w w') => hw.below h)
  clear hp ht
  go_enter Tryz.func49, Tryz.ntmps49
  go_upto_region 4 with (first
    | (go_at_call 73; refine (hC.out _).mono ?_; rintro e w1 ⟨rfl, rfl⟩)
    | (go_at_call 74; refine (hU.out _ hw).mono ?_; rintro e w2 ⟨⟨n, er, rfl, hn, her⟩, hb2⟩))
  have hw2 := Lib.hid (hE.out _ hb2)
  rcases her with ⟨hok, rfl⟩ | ⟨hno, N, rfl⟩
  · have hF := Lib.hid (fun w hw => FormatUint_any n (by omega) w hw)
    have hnn : (0 : Int) ≤ n ∧ (n : Int) < 4294967296 := by omega
    by_cases hd : Lib.decDigits n = t
    · have hwn : wordNum t = some (n : Int) := by unfold wordNum; rw [hok]; simp only; rw [if_pos hd]
      have HW := Lib.hid hwn
      have hb : (Lib.decDigits n == t) = true := by rw [hd]; simp
      clear hok hd hwn hU hC
      go_wp2_with (go_at_call 54; refine (hF.out _ hw2.out).mono ?_; rintro e w3 ⟨rfl, hb3⟩)
      go_ret2
      exact ⟨n, by rw [HW.out]; rfl, fun v h => (by rw [HW.out] at h; exact Option.some.inj h), hb2.trans (below_mono hb3 hb2.size)⟩
    · have hwn : wordNum t = none := by unfold wordNum; rw [hok]; simp only; rw [if_neg hd]
      have HW := Lib.hid hwn
      have hb : (Lib.decDigits n == t) = false := by rw [beq_eq_false_iff_ne]; exact hd
      clear hok hd hwn hU hC
      go_wp2_with (go_at_call 54; refine (hF.out _ hw2.out).mono ?_; rintro e w3 ⟨rfl, hb3⟩)
      go_ret2
      exact ⟨n, by rw [HW.out]; rfl, fun v h => (by rw [HW.out] at h; cases h), hb2.trans (below_mono hb3 hb2.size)⟩
  · have hwn : wordNum t = none := by
      unfold wordNum
      split
      · rename_i m hm; exact absurd hm (hno m)
      · rfl
    have HW := Lib.hid hwn
    have hnn : (0 : Int) ≤ n ∧ (n : Int) < 4294967296 := by omega
    clear hno hwn hU hC
    go_wp2
    go_ret2
    exact ⟨n, by rw [HW.out]; rfl, fun v h => (by rw [HW.out] at h; cases h), hb2⟩

set_option maxHeartbeats 1600000 in
set_option maxRecDepth 1000000 in
/-- The lines that Parse reads. -/
theorem word_parsed (line : ByteArray) (m : Value) (place : Int) (w : World) (hs : line.size ≤ 1000000000) (hw : Env w) (hp : Lib.hasPrefix line.data.toList dotWord = false) (i : Ins) (hi : parseOf line = some i) :
    Calls Tryz.prog 49 #[.string line, m, .int .i64 place] w (WordPost (encodeOf i) w) := by
  have hC := CutPrefix_any line
  have hP := fun w hw => Parse_any line w (by omega) hw
  rw [hp] at hC
  rw [hi] at hP
  obtain ⟨kind, fn, rd, rs1, rs2, imm, size, sg⟩ := i
  have hP : ∀ w, Env w → Calls Tryz.prog 13 #[.string line] w fun e w' => e = .returned (.tuple #[.agg #[.int .i64 kind, .int .i64 fn, .int .i64 rd, .int .i64 rs1, .int .i64 rs2, .int .i64 imm, .int .i64 size, .bool sg], .bool true]) ∧ Below w.heap.size w w' := hP
  have hEn : ∀ w, Calls Tryz.prog 15 #[.agg #[.int .i64 kind, .int .i64 fn, .int .i64 rd, .int .i64 rs1, .int .i64 rs2, .int .i64 imm, .int .i64 size, .bool sg]] w fun e w' => e = .returned (.tuple #[.int .u32 ((encodeOf ⟨kind, fn, rd, rs1, rs2, imm, size, sg⟩).getD 0), .bool (encodeOf ⟨kind, fn, rd, rs1, rs2, imm, size, sg⟩).isSome]) ∧ Below w.heap.size w w' := fun w => Encode_any ⟨kind, fn, rd, rs1, rs2, imm, size, sg⟩ w
  obtain ⟨o, ho⟩ : ∃ o, encodeOf ⟨kind, fn, rd, rs1, rs2, imm, size, sg⟩ = o := ⟨_, rfl⟩
  rw [ho] at hEn ⊢
  have hC := Lib.hid hC
  have hP := Lib.hid hP
  have hEn := Lib.hid hEn
  clear hp hi ho
  go_enter Tryz.func49, Tryz.ntmps49
  go_wp2_with (first
    | (go_at_call 73; refine (hC.out _).mono ?_; rintro e w1 ⟨rfl, rfl⟩)
    | (go_at_call 13; refine (hP.out _ hw).mono ?_; rintro e w2 ⟨rfl, hb2⟩)
    | (go_at_call 15; refine (hEn.out _).mono ?_; rintro e w3 ⟨rfl, hb3⟩))
  go_ret2
  exact ⟨_, rfl, fun v h => by rw [h]; rfl, (hb2.alloc hb2.size _).trans (below_mono hb3 (by have := hb2.size; simp; omega))⟩

theorem set8 {w : World} {p : Nat} {a0 a1 a2 a3 a4 a5 a6 a7 b0 b1 b2 b3 b4 b5 b6 b7 : Value} {fz : Nat × Nat} (h : w.heap[p]? = some (.cells #[a0, a1, a2, a3, a4, a5, a6, a7] 23 fz)) :
    ((((((((w.setCell ⟨p, 0, none⟩ b0).setCell ⟨p, 1, none⟩ b1).setCell ⟨p, 2, none⟩ b2).setCell ⟨p, 3, none⟩ b3).setCell ⟨p, 4, none⟩ b4).setCell ⟨p, 5, none⟩ b5).setCell ⟨p, 6, none⟩ b6).setCell ⟨p, 7, none⟩ b7).heap[p]? = some (.cells #[b0, b1, b2, b3, b4, b5, b6, b7] 23 fz) := by
  have := block_setCell6 (i := 7) (block_setCell6 (i := 6) (block_setCell6 (i := 5) (block_setCell6 (i := 4) (block_setCell6 (i := 3) (block_setCell6 (i := 2) (block_setCell6 (i := 1) (block_setCell6 (i := 0) h b0) b1) b2) b3) b4) b5) b6) b7
  simpa using this
theorem below_set8 {B : Nat} {a w : World} {p : Nat} (h : Below B a w) (hp : B ≤ p) (b0 b1 b2 b3 b4 b5 b6 b7 : Value) :
    Below B a ((((((((w.setCell ⟨p, 0, none⟩ b0).setCell ⟨p, 1, none⟩ b1).setCell ⟨p, 2, none⟩ b2).setCell ⟨p, 3, none⟩ b3).setCell ⟨p, 4, none⟩ b4).setCell ⟨p, 5, none⟩ b5).setCell ⟨p, 6, none⟩ b6).setCell ⟨p, 7, none⟩ b7) :=
  (((((((h.setCell hp _).setCell hp _).setCell hp _).setCell hp _).setCell hp _).setCell hp _).setCell hp _).setCell hp _

/-- `word`, where Parse reads nothing. -/
def restOf (f : List UInt8 → Option Int) (place : Int) (line : ByteArray) : Option Int :=
  if cutAt line = 0 then none else match f (line.extract (cutAt line).toNat line.size).data.toList with
    | none => none
    | some tgt => match parseOf (line.extract 0 (cutAt line).toNat ++ ⟨(Lib.itoa (tgt - place)).toArray⟩) with
      | some j => encodeOf j
      | none => none

set_option maxHeartbeats 1600000 in
set_option maxRecDepth 1000000 in
theorem word_rest (line : ByteArray) (b n : Nat) (f : List UInt8 → Option Int) (place : Int) (w : World) (hs : line.size ≤ 900000000) (hw : Env w) (hp : Lib.hasPrefix line.data.toList dotWord = false) (hi : parseOf line = none) (hM : MapIs w b n f) (hf : ∀ k v, f k = some v → 0 ≤ v ∧ v ≤ 1099511627776) (h0 : 0 ≤ place) (h1 : place ≤ 65536) :
    Calls Tryz.prog 49 #[.string line, .map (some b), .int .i64 place] w (WordPost (restOf f place line) w) := by
  have hC := CutPrefix_any line
  have hP := fun w hw => Parse_any line w (by omega) hw
  have hL := fun w => LastIndex_any line w (by omega)
  have hcb := cutAt_bound line
  rw [hp] at hC
  rw [hi] at hP
  have hP : ∀ w, Env w → Calls Tryz.prog 13 #[.string line] w fun e w' => e = .returned (.tuple #[.agg #[.int .i64 0, .int .i64 0, .int .i64 0, .int .i64 0, .int .i64 0, .int .i64 0, .int .i64 0, .bool false], .bool false]) ∧ Below w.heap.size w w' := hP
  have hC := Lib.hid hC
  have hP := Lib.hid hP
  have hE := Lib.hid (fun w' (h : Below w.heap.size w w') => hw.below h)
  have hMb := Lib.hid (fun w' (h : Below w.heap.size w w') => hM.below h)
  clear hp hi
  by_cases hq : cutAt line = 0
  · rw [hq] at hL
    have hL := Lib.hid hL
    have hR := Lib.hid (show restOf f place line = none by unfold restOf; rw [if_pos hq])
    clear hq hcb
    go_enter Tryz.func49, Tryz.ntmps49
    go_upto_region 8 with (first
      | (go_at_call 73; refine (hC.out _).mono ?_; rintro e w1 ⟨rfl, rfl⟩)
      | (go_at_call 13; refine (hP.out _ hw).mono ?_; rintro e w2 ⟨rfl, hb2⟩)
      | (go_at_call 75; refine (hL.out _).mono ?_; rintro e w3 ⟨rfl, rfl⟩))
    have hmz : line.size ≤ maxLen := by unfold maxLen; omega
    have hMa := (hMb.out _ hb2).alloc (.cells #[.int .i64 0, .int .i64 0, .int .i64 0, .int .i64 0, .int .i64 0, .int .i64 0, .int .i64 0, .bool false] 23)
    have hlook := hMa.look_ok line hmz
    have hlook2 := hMa.look_ok (line.extract 0 line.size) (by rw [ByteArray.size_extract]; omega)
    have hbx : Below w.heap.size w (w2.alloc (.cells #[.int .i64 0, .int .i64 0, .int .i64 0, .int .i64 0, .int .i64 0, .int .i64 0, .int .i64 0, .bool false] 23)) := hb2.alloc hb2.size _
    go_wp2
    go_ret2
    exact ⟨0, by rw [hR.out]; rfl, fun v h => (by rw [hR.out] at h; cases h), hbx⟩
  · obtain ⟨q, hq2⟩ : ∃ q : Nat, cutAt line = ((q : Nat) : Int) + 1 := ⟨(cutAt line - 1).toNat, by omega⟩
    have hqs : q + 1 ≤ line.size := by omega
    rw [hq2, show ((q : Int) + 1 - 1) = (q : Int) from by omega] at hL
    have hL := Lib.hid hL
    have hR := Lib.hid (show restOf f place line = (match f (line.extract (q + 1) line.size).data.toList with
      | none => none
      | some tgt => match parseOf (line.extract 0 (q + 1) ++ ⟨(Lib.itoa (tgt - place)).toArray⟩) with
        | some j => encodeOf j
        | none => none) by unfold restOf; rw [if_neg hq, hq2, show ((q : Int) + 1).toNat = q + 1 from by omega])
    clear hq hq2 hcb
    go_enter Tryz.func49, Tryz.ntmps49
    go_upto_region 8 with (first
      | (go_at_call 73; refine (hC.out _).mono ?_; rintro e w1 ⟨rfl, rfl⟩)
      | (go_at_call 13; refine (hP.out _ hw).mono ?_; rintro e w2 ⟨rfl, hb2⟩)
      | (go_at_call 75; refine (hL.out _).mono ?_; rintro e w3 ⟨rfl, rfl⟩))
    have hmz : line.size ≤ maxLen := by unfold maxLen; omega
    have hMa := (hMb.out _ hb2).alloc (.cells #[.int .i64 0, .int .i64 0, .int .i64 0, .int .i64 0, .int .i64 0, .int .i64 0, .int .i64 0, .bool false] 23)
    have hlook := hMa.look_ok (line.extract (q + 1) line.size) (by rw [ByteArray.size_extract]; omega)
    have hbx : Below w.heap.size w (w2.alloc (.cells #[.int .i64 0, .int .i64 0, .int .i64 0, .int .i64 0, .int .i64 0, .int .i64 0, .int .i64 0, .bool false] 23)) := hb2.alloc hb2.size _
    have e0 : ((q : Int) + 1 == 0) = false := by rw [beq_eq_false_iff_ne]; omega
    obtain ⟨fo, hfo⟩ : ∃ fo, f (line.extract (q + 1) line.size).data.toList = fo := ⟨_, rfl⟩
    have hR2 := hR.out
    rw [hfo] at hlook hR2
    cases fo with
    | none =>
      simp only [Option.getD_none, Option.isSome_none] at hlook
      have HR := Lib.hid hR2
      clear hfo hR2 hR hMa
      go_wp2
      go_ret2
      exact ⟨0, by rw [HR.out]; rfl, fun v h => (by rw [HR.out] at h; cases h), hbx⟩
    | some tgt =>
      obtain ⟨ht0, ht1⟩ := hf _ _ hfo
      simp only [Option.getD_some, Option.isSome_some] at hlook
      have hitl := Lib.itoa_length_le (tgt - place) (by omega) (by omega)
      obtain ⟨x, hx⟩ : ∃ x, line.extract 0 (q + 1) ++ (⟨(Lib.itoa (tgt - place)).toArray⟩ : ByteArray) = x := ⟨_, rfl⟩
      have hxs : x.size ≤ 1000000000 := by
        rw [← hx, ByteArray.size_append, ByteArray.size_extract]
        have : (ByteArray.mk (Lib.itoa (tgt - place)).toArray).size = (Lib.itoa (tgt - place)).length := rfl
        omega
      have HR := Lib.hid (show restOf f place line = (match parseOf x with | some j => encodeOf j | none => none) by rw [← hx]; exact hR2)
      have HX := Lib.hid hx
      have hPx := Lib.hid (fun w hw => Parse_any x w (by omega) hw)
      have hIt := Lib.hid (fun w hw => Itoa_any (tgt - place) (by omega) (by omega) w hw)
      clear hfo hR2 hR hMa hx
      have hwr : IntKind.i64.wrap (tgt - place) = tgt - place := IntWalk.i64_in _ (by omega)
      obtain ⟨po, hpo⟩ : ∃ po, parseOf x = po := ⟨_, rfl⟩
      obtain ⟨j, hj⟩ : ∃ j, po.getD {} = j := ⟨_, rfl⟩
      have hPx2 := hPx.out
      have HR2 := HR.out
      rw [hpo] at hPx2 HR2
      rw [hj] at hPx2
      have HR2 := Lib.hid HR2
      have HJ := Lib.hid hj
      obtain ⟨kind, fn, rd, rs1, rs2, imm, size, sg⟩ := j
      have hPx3 : ∀ w, Env w → Calls Tryz.prog 13 #[.string x] w fun e w' => e = .returned (.tuple #[.agg #[.int .i64 kind, .int .i64 fn, .int .i64 rd, .int .i64 rs1, .int .i64 rs2, .int .i64 imm, .int .i64 size, .bool sg], .bool po.isSome]) ∧ Below w.heap.size w w' := hPx2
      have hPx3 := Lib.hid hPx3
      clear hPx2 hPx HR hpo hj
      have hbz := hb2.size
      go_upto_region 11 with fail
      clear hlook
      have hq0 : (0 : Int) ≤ (q : Int) + 1 := by omega
      have hq1 : (q : Int) + 1 ≤ (line.size : Int) := by omega
      have hqt : ((q : Int) + 1).toNat = q + 1 := by omega
      have hqd : decide (q + 1 ≤ line.size) = true := decide_eq_true hqs
      have hz1 : (ByteArray.mk (Lib.itoa (tgt - place)).toArray).size ≤ 21 := hitl
      have hz2 : (line.extract 0 (q + 1)).size ≤ 900000000 := by rw [ByteArray.size_extract]; omega
      have hadd : ∀ W, (Op.stringOp .add (line.extract 0 (q + 1)) ⟨(Lib.itoa (tgt - place)).toArray⟩).run Tryz.prog W = .ok (.string x) W := fun W => by rw [run_string_add_sum W _ _ (by omega), HX.out]
      clear hz1 hz2
      go_cut [13] (fun s13 wx => s13 = .bool po.isSome ∧ Below w.heap.size w wx ∧ wx.heap[w2.heap.size]? = some (.cells #[.int .i64 kind, .int .i64 fn, .int .i64 rd, .int .i64 rs1, .int .i64 rs2, .int .i64 imm, .int .i64 size, .bool sg] 23 (0, 0)))
      case first =>
        go_region_with (first
          | (go_at_call 60; refine (hIt.out _ (hE.out _ (by first | exact hbx | exact hbx.drew))).mono ?_; rintro e w5 ⟨rfl, hb5⟩; have hbA := Lib.hid (show Below w.heap.size w w5 from by first | exact hbx.trans (below_mono hb5 hbx.size) | exact hbx.drew.trans (below_mono hb5 hbx.drew.size)); have hxA := Lib.hid (show w5.heap[w2.heap.size]? = some (.cells #[.int .i64 0, .int .i64 0, .int .i64 0, .int .i64 0, .int .i64 0, .int .i64 0, .int .i64 0, .bool false] 23 (0, 0)) from (hb5.block _ (by simp)).trans (heap_alloc_new w2 _)))
          | (go_at_call 13; refine (hPx3.out _ (hE.out _ (by first | exact hbA.out | exact hbA.out.drew))).mono ?_; rintro e w6 ⟨rfl, hb6⟩; have hbB := Lib.hid (show Below w.heap.size w w6 from by first | exact hbA.out.trans (below_mono hb6 hbA.out.size) | exact hbA.out.drew.trans (below_mono hb6 hbA.out.drew.size)); have hxB := (hb6.block w2.heap.size (Array.getElem?_eq_some_iff.1 hxA.out).1).trans hxA.out; obtain ⟨g0, g1, g2, g3, g4, g5, g6, g7⟩ := box8 hxB; have fz : ∀ o', w6.frozen? ⟨w2.heap.size, o', none⟩ = false := fun o' => Lib.frozen_of_heap hxB o'))
        all_goals go_wp2_with fail
        all_goals
          go_meet
          exact ⟨rfl, below_set8 hbB.out hbz _ _ _ _ _ _ _ _, set8 hxB⟩
      case rest =>
        obtain ⟨rfl, hbx2, hx2⟩ := hcut
        cases po with
        | none =>
          go_wp2
          go_ret2
          exact ⟨0, (by first | rfl | (rw [HR2.out]; rfl)), fun v h => (by first | (cases h; done) | (rw [HR2.out] at h; cases h)), hbx2⟩
        | some j =>
          have hjj : j = ⟨kind, fn, rd, rs1, rs2, imm, size, sg⟩ := HJ.out
          subst hjj
          have hEn : ∀ w, Calls Tryz.prog 15 #[.agg #[.int .i64 kind, .int .i64 fn, .int .i64 rd, .int .i64 rs1, .int .i64 rs2, .int .i64 imm, .int .i64 size, .bool sg]] w fun e w' => e = .returned (.tuple #[.int .u32 ((encodeOf ⟨kind, fn, rd, rs1, rs2, imm, size, sg⟩).getD 0), .bool (encodeOf ⟨kind, fn, rd, rs1, rs2, imm, size, sg⟩).isSome]) ∧ Below w.heap.size w w' := fun w => Encode_any ⟨kind, fn, rd, rs1, rs2, imm, size, sg⟩ w
          have HR3 := HR2.out
          simp only at HR3
          obtain ⟨o, ho⟩ : ∃ o, encodeOf ⟨kind, fn, rd, rs1, rs2, imm, size, sg⟩ = o := ⟨_, rfl⟩
          rw [ho] at hEn HR3
          have hEn := Lib.hid hEn
          have HR3 := Lib.hid HR3
          obtain ⟨g0, g1, g2, g3, g4, g5, g6, g7⟩ := box8 hx2
          clear ho hx2
          go_wp2_with (go_at_call 15; refine (hEn.out _).mono ?_; rintro e w7 ⟨rfl, hb7⟩)
          go_ret2
          exact ⟨o.getD 0, (by first | rfl | (rw [HR3.out]; rfl)), fun v h => (by first | (rw [h]; rfl) | (rw [HR3.out] at h; rw [h]; rfl)), hbx2.trans (below_mono hb7 hbx2.size)⟩

theorem word_any (line : ByteArray) (b n : Nat) (f : List UInt8 → Option Int) (place : Int) (w : World) (hs : line.size ≤ 900000000) (hw : Env w) (hM : MapIs w b n f) (hf : ∀ k v, f k = some v → 0 ≤ v ∧ v ≤ 1099511627776) (h0 : 0 ≤ place) (h1 : place ≤ 65536) :
    Calls Tryz.prog 49 #[.string line, .map (some b), .int .i64 place] w (WordPost (wordOf f place line) w) := by
  cases hp : Lib.hasPrefix line.data.toList dotWord with
  | true =>
    have : wordOf f place line = wordNum (Lib.trimPrefix line.data.toList dotWord) := by unfold wordOf; rw [if_pos hp]
    rw [this]
    exact word_dot line _ place w (by omega) hw hp
  | false =>
    cases hi : parseOf line with
    | some i =>
      have : wordOf f place line = encodeOf i := by unfold wordOf; rw [if_neg (by simp [hp]), hi]
      rw [this]
      exact word_parsed line _ place w (by omega) hw hp i hi
    | none =>
      have : wordOf f place line = restOf f place line := by unfold wordOf; rw [if_neg (by simp [hp]), hi]; rfl
      rw [this]
      exact word_rest line b n f place w hs hw hp hi hM hf h0 h1
end Go.Proofs.YtmklpjelfonilaaGreatDoor
