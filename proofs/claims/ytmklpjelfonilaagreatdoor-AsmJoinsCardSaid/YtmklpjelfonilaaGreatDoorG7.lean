/- Package asm: Assemble: lines as bytes. -/
import Derived.Test.YtmklpjelfonilaaGreatDoorG5
import Derived.Test.YtmklpjelfonilaaGreatDoorG6
namespace Go.Proofs.YtmklpjelfonilaaGreatDoor
open Go.RowKit
attribute [local go_sem] alloc_drewN setCell_drewN wext_size wext_drewN wext_drew wext_setCell wext_cell wext_frozen wext_wext lt_e1 lt_e2 lt_e3 lt_e4 lt_e5 lt_e6
set_option linter.unusedVariables false
set_option linter.unusedSimpArgs false

/-- A word's four bytes. -/
def bytes4 (v : Int) : List Int := [v % 256, v / 256 % 256, v / 65536 % 256, v / 16777216 % 256]

/-- `Assemble`, from a line on: the number of the wrong line, or all bytes. -/
def asmFrom (f g : List UInt8 → Option Int) : List (List UInt8) → Nat → List Int → Nat ⊕ List Int
  | [], _, b => .inr b
  | l :: ls, i, b =>
    if nothingL l = true then asmFrom f g ls (i + 1) b
    else if markB l = true ∧ (g (markText l)).getD 0 = (i : Int) then asmFrom f g ls (i + 1) b
    else match wordOf f b.length ⟨l.toArray⟩ with
      | none => .inl (i + 1)
      | some v => if 65536 < b.length + 4 then .inl (i + 1) else asmFrom f g ls (i + 1) (b ++ bytes4 v)
def asmOf (ls : List (List UInt8)) : Nat ⊕ List Int := asmFrom (placesL ls).1 (placesL ls).2 ls 0 []
/-- `Assemble(text)`: the bytes, and the number of the first wrong line. -/
def resB : Nat ⊕ List Int → List Int | .inl _ => [] | .inr b => b
def resW : Nat ⊕ List Int → Int | .inl k => k | .inr _ => 0
def asmB (t : List UInt8) : List Int := resB (asmOf (linesL t))
def asmW (t : List UInt8) : Int := resW (asmOf (linesL t))

/-- What stands in a map of marks lies within the program. -/
def Bounded (m : List UInt8 → Option Int) (n : Int) : Prop := ∀ k v, m k = some v → 0 ≤ v ∧ v ≤ n
theorem places_bound : ∀ (ls : List (List UInt8)) (i bytes : Int) (m : (List UInt8 → Option Int) × (List UInt8 → Option Int)) (n : Int), 0 ≤ bytes → bytes + 4 * ls.length ≤ n → Bounded m.1 n → Bounded (placesFrom ls i bytes m).1 n
  | [], i, bytes, m, n, h0, h1, hm => hm
  | l :: ls, i, bytes, m, n, h0, h1, hm => by
    simp only [List.length_cons] at h1
    rw [placesFrom]
    split
    · exact places_bound ls _ _ _ n h0 (by omega) hm
    split
    · refine places_bound ls _ _ _ n h0 (by omega) ?_
      intro k v hk
      simp only [updF] at hk
      split at hk
      · injection hk with hk; omega
      · exact hm k v hk
    · exact places_bound ls _ _ _ n (by omega) (by omega) hm
theorem placesL_bound (ls : List (List UInt8)) : Bounded (placesL ls).1 (4 * ls.length) :=
  places_bound ls 0 0 noMaps _ (by omega) (by omega) (fun k v h => by cases h)


theorem wpApp4 {ops : Array Oper} {rest : List Oper} {o : Oper} {a : Act} {Q : Exit → Act → World → Prop} {w : World} (hgd : o.guard = none) (s x : Operand)
    (ho : o.op = .call { callee := .builtin .append, args := #[s, x], argTypes := #[38, 38] }) (B : Nat) (v : Value) (acc : List Int) (hs : a.eval s = v) (hown : w.ownsRowF B 5 1 v acc.length (acc.map (Value.int .u8))) (c0 c1 c2 c3 : Int)
    (hx : a.eval x = .slice (some ⟨w.heap.size, 0, none⟩) 4 4) (hlen : acc.length ≤ 1099511627776) (hB : B ≤ w.heap.size)
    (h : ∀ v' w', w'.ownsRowF B 5 1 v' (acc ++ [c0, c1, c2, c3]).length ((acc ++ [c0, c1, c2, c3]).map (Value.int .u8)) → (w.alloc (.cells #[.int .u8 c0, .int .u8 c1, .int .u8 c2, .int .u8 c3] 5)).grownBy w' v.ownBlock → wpList Tryz.prog ops Q rest (a.put o.dst v') w') :
    wpList Tryz.prog ops Q (o :: rest) a (w.alloc (.cells #[.int .u8 c0, .int .u8 c1, .int .u8 c2, .int .u8 c3] 5)) := by
  obtain ⟨i0, hi, hz0, hz1, hz2⟩ := info_parts infoByte
  refine wpList_append_ownF _ hgd s x 38 ho B 5 i0 (.int .u8 0) 1 1 Tryz.underlying38 hi hz0 hz1 hz2 rfl (by decide) v acc.length _ hs (hown.alloc _) ⟨w.heap.size, 0, none⟩ 4 4 [.int .u8 c0, .int .u8 c1, .int .u8 c2, .int .u8 c3] hx rfl ?c1 ?c2 ?c3 ?c4 ?c5 ?c6
  case c1 =>
    intro k u hk
    rw [show (⟨w.heap.size, 0, none⟩ : Addr).add k = ⟨w.heap.size, k, none⟩ from by unfold Addr.add; split <;> simp_all]
    rw [Lib.cell_of_heap (heap_alloc_new _ _)]
    simpa using hk
  case c2 => intro u hu; simp at hu; rcases hu with h | h | h | h <;> subst h <;> rfl
  case c3 => unfold maxLen; omega
  case c4 => omega
  case c5 => simp; omega
  case c6 =>
    intro v' w2 h1 h2 _
    exact h v' w2 (by simpa using h1) h2

theorem wordOf_range {f : List UInt8 → Option Int} {place : Int} {line : ByteArray} {v : Int} (h : wordOf f place line = some v) : 0 ≤ v ∧ v < 4294967296 := by
  have henc : ∀ i x, encodeOf i = some x → 0 ≤ x ∧ x < 4294967296 := by
    intro i x hx
    unfold encodeOf at hx
    split at hx
    · injection hx with hx; rw [← hx]; exact encOf_range i
    · cases hx
  unfold wordOf at h
  split at h
  · unfold wordNum at h
    split at h
    · rename_i u hu
      split at h
      · injection h with h
        have := parseUintB_lt hu
        omega
      · cases h
    · cases h
  · split at h
    · exact henc _ _ h
    · split at h
      · cases h
      · split at h
        · cases h
        · split at h
          · exact henc _ _ h
          · cases h

theorem strsl_of {w : World} {B : Nat} {v : Value} {ls : List ByteArray} {n : Nat} (h : w.ownsRowF B 9 1 v n (ls.map Value.string)) (hn : n = ls.length) :
    ∃ ao c, v = .slice ao ls.length c ∧ (ls = [] ∨ ∃ g, ao = some ⟨g, 0, none⟩ ∧ g < w.heap.size ∧ ∀ j t, ls[j]? = some t → w.cell? ⟨g, j, none⟩ = some (.string t)) := by
  subst hn
  rcases row_viewB h with ⟨rfl, h0⟩ | ⟨g, cap, rfl, _, h1, hc⟩
  · have : ls = [] := List.eq_nil_of_length_eq_zero h0
    subst this
    exact ⟨none, 0, rfl, .inl rfl⟩
  · exact ⟨_, cap, rfl, .inr ⟨g, rfl, h1, fun j t hj => hc j _ (by simp [hj])⟩⟩

theorem asmFrom_wrong : ∀ (ls : List (List UInt8)) (f g : List UInt8 → Option Int) (i : Nat) (b : List Int) (k : Nat), asmFrom f g ls i b = .inl k → k ≤ i + ls.length
  | [], f, g, i, b, k, h => by simp [asmFrom] at h
  | l :: ls, f, g, i, b, k, h => by
    rw [asmFrom] at h
    simp only [List.length_cons]
    split at h
    · have := asmFrom_wrong ls f g _ _ k h; omega
    split at h
    · have := asmFrom_wrong ls f g _ _ k h; omega
    split at h
    · injection h with h; omega
    · split at h
      · injection h with h; omega
      · have := asmFrom_wrong ls f g _ _ k h; omega

set_option maxHeartbeats 6400000 in
set_option maxRecDepth 1000000 in
theorem Assemble_any (s : ByteArray) (w : World) (hs : s.size ≤ 4000000000) (hl : ∀ l ∈ linesL s.data.toList, l.length ≤ 900000000) (hw : Env w) (hm : MaxL w) :
    Calls Tryz.prog 18 #[.string s] w fun e w' => ∃ v, e = .returned (.tuple #[v, .int .i64 (asmW s.data.toList)]) ∧ w'.ownsRowF w.heap.size 5 1 v (asmB s.data.toList).length ((asmB s.data.toList).map (Value.int .u8)) ∧ Below w.heap.size w w' := by
  obtain ⟨LS, hLS⟩ : ∃ LS, linesL s.data.toList = LS := ⟨_, rfl⟩
  obtain ⟨R, hR⟩ : ∃ R, asmOf LS = R := ⟨_, rfl⟩
  have hLl : LS.length ≤ 4000000000 := by rw [← hLS]; exact Nat.le_trans (linesL_length _) hs
  have hAB : asmB s.data.toList = resB R := by unfold asmB; rw [hLS, hR]
  have hAW : asmW s.data.toList = resW R := by unfold asmW; rw [hLS, hR]
  have hLn := fun w hm => lines_any s w hs hm
  rw [hLS] at hLn hl
  rw [hAB, hAW]
  obtain ⟨bs, hbs⟩ : ∃ bs, LS.map (fun l => (⟨l.toArray⟩ : ByteArray)) = bs := ⟨_, rfl⟩
  have hbl : bs.length = LS.length := by rw [← hbs]; simp
  have hbm : bs.map (·.data.toList) = LS := by rw [← hbs, List.map_map]; conv => rhs; rw [← List.map_id LS]
                                               apply List.map_congr_left; intro a _; simp
  have hbz : ∀ t ∈ bs, t.size ≤ 4294967296 := by
    rw [← hbs]; intro t ht
    obtain ⟨l, hl1, rfl⟩ := List.mem_map.1 ht
    have := hl l hl1
    show l.length ≤ _
    omega
  rw [hbs] at hLn
  obtain ⟨f, hf⟩ : ∃ f, (placesL LS).1 = f := ⟨_, rfl⟩
  obtain ⟨g, hg⟩ : ∃ g, (placesL LS).2 = g := ⟨_, rfl⟩
  have hfb : ∀ k v, f k = some v → 0 ≤ v ∧ v ≤ 1099511627776 := by
    rw [← hf]; intro k v hk
    have := placesL_bound LS k v hk
    omega
  have hPl := fun v w h => places_any v bs w h (by omega) hbz
  rw [hbm, hf, hg] at hPl
  unfold asmOf at hR
  rw [hf, hg] at hR
  have HR := Lib.hid (show asmFrom f g (LS.drop 0) 0 [] = R from hR)
  have HL := Lib.hid hl
  have HLn := Lib.hid hLn
  have HPl := Lib.hid hPl
  have HBS := Lib.hid hbs
  have HF := Lib.hid hfb
  have Hbl := Lib.hid hbl
  have hbl2 : bs.length ≤ 4000000000 := by omega
  clear hbl hR hl hLn hPl hbs hbz hbm hf hg hfb hAB hAW hLS
  go_enter Tryz.func18, Tryz.ntmps18
  go_upto_region 4 with (first
    | (go_at_call 45; (with_reducible refine (HLn.out _ hm).mono ?_); rintro e w1 ⟨v, rfl, hO, hb1⟩; obtain ⟨ao, c, rfl, hsl⟩ := strsl_of hO Hbl.out.symm; have hst := Lib.hid (show StrSl w1 (.slice ao bs.length c) bs from ⟨ao, c, rfl, hsl⟩))
    | (go_at_call 46; (with_reducible refine (HPl.out _ _ hst.out).mono ?_); rintro e w2 ⟨b1, b2, n, rfl, hM1, hM2, hb2⟩))
  have hbw2 : Below w.heap.size w w2 := hb1.trans (below_mono hb2 hb1.size)
  have hsl2 : Hid (bs = [] ∨ ∃ g, ao = some ⟨g, 0, none⟩ ∧ g < w2.heap.size ∧ ∀ j t, bs[j]? = some t → w2.cell? ⟨g, j, none⟩ = some (.string t)) := Lib.hid (by
    rcases hsl with h | ⟨g, e, h1, h2⟩
    · exact .inl h
    · exact .inr ⟨g, e, Nat.lt_of_lt_of_le h1 hb2.size, fun j t hj => (hb2.cell (p := ⟨g, j, none⟩) h1).trans (h2 j t hj)⟩)
  have HE := Lib.hid (fun w' (h : Below w2.heap.size w2 w') => hw.below (hbw2.trans (below_mono h hbw2.size)))
  have HM1 := Lib.hid (fun w' (h : Below w2.heap.size w2 w') => hM1.below h)
  have HM2 := Lib.hid (fun w' (h : Below w2.heap.size w2 w') => hM2.below h)
  clear hsl hst hO hb1 hb2 hM1 hM2 HLn HPl
  go_loopw [2, 22] (fun v2 v22 wr => ∃ (k : Nat) (b : List Int), k ≤ bs.length ∧ v22 = .int .i64 (k : Int) ∧ wr.ownsRowF w2.heap.size 5 1 v2 b.length (b.map (Value.int .u8)) ∧ Below w2.heap.size w2 wr ∧ b.length ≤ 65536 ∧ Hid (asmFrom f g (LS.drop k) k b = R)) (fun v2 v22 wr => bs.length - (intOf v22).toNat)
  case atStart => exact ⟨0, [], by omega, rfl, ⟨rfl, .inl ⟨rfl, rfl⟩⟩, Below.refl _ _, by simp, HR⟩
  case round =>
    clear HR
    obtain ⟨k, b, hk, rfl, hO, hbr, hb6, HA⟩ := hrel
    obtain ⟨bo, bc, rfl, _⟩ := row_slice hO
    have hbz := hbr.size
    by_cases hkl : k < bs.length
    · have hd : decide ((k : Int) < (bs.length : Int)) = true := decide_eq_true (by omega)
      have hkL : k < LS.length := by have := Hbl.out; omega
      obtain ⟨l, hl⟩ : ∃ l, LS[k]? = some l := ⟨_, List.getElem?_eq_getElem hkL⟩
      obtain ⟨t, ht⟩ : ∃ t : ByteArray, t = ⟨l.toArray⟩ := ⟨_, rfl⟩
      have htd : t.data.toList = l := by rw [ht, data_mk]
      have hbk : bs[k]? = some t := by rw [← HBS.out, List.getElem?_map, hl, ht]; rfl
      have hlz := HL.out l (List.mem_of_getElem? hl)
      have htz : t.size ≤ 900000000 := by rw [ht]; exact hlz
      obtain ⟨gl, rfl, hg, hc⟩ : ∃ gl, ao = some ⟨gl, 0, none⟩ ∧ gl < w2.heap.size ∧ w2.cell? ⟨gl, k, none⟩ = some (.string t) := by
        rcases hsl2.out with h | ⟨g, e1, h1, h2⟩
        · rw [h] at hkl; simp at hkl
        · exact ⟨g, e1, h1, h2 k t hbk⟩
      have hcr : wr.cell? ⟨gl, k, none⟩ = some (.string t) := (hbr.cell (p := ⟨gl, k, none⟩) hg).trans hc
      have HA2 : asmFrom f g (l :: LS.drop (k + 1)) k b = R := by
        rw [← HA.out, List.drop_eq_getElem_cons hkL]
        congr 2
        rw [List.getElem?_eq_getElem hkL] at hl
        injection hl with hl
        exact hl.symm
      rw [asmFrom, ← ht] at HA2
      have hN := fun w => nothing_any t w
      have hK := fun w => mark_any t w (by omega)
      have hWd := fun w (h : Below w2.heap.size w2 w) => word_any t b1 n f (b.length : Int) w htz (HE.out w h) (HM1.out w h) HF.out (by omega) (by omega)
      rw [htd] at hN hK
      have hml := markText_le l
      obtain ⟨mt, hmt⟩ : ∃ mt, markText l = mt := ⟨_, rfl⟩
      rw [hmt] at hK HA2 hml
      have hmz : mt.length ≤ maxLen := by unfold maxLen; omega
      obtain ⟨wo, hwo⟩ : ∃ wo, wordOf f (b.length : Int) t = wo := ⟨_, rfl⟩
      have hwr : ∀ v, wo = some v → 0 ≤ v ∧ v < 4294967296 := fun v h => wordOf_range (hwo.trans h)
      rw [hwo] at hWd HA2
      have hWd := Lib.hid hWd
      have hwr := Lib.hid hwr
      clear hl ht htd hbk hlz htz hc hmt hwo HA
      cases hnl : nothingL l with
      | true =>
        rw [hnl] at hN HA2
        rw [if_pos rfl] at HA2
        have hN := Lib.hid hN
        have HA3 := Lib.hid HA2
        clear hnl HA2 hK
        go_wp2_with (go_at_call 47; refine (hN.out _).mono ?_; rintro e w5 ⟨rfl, rfl⟩)
        go_roundw
        case rel => exact ⟨k + 1, b, by omega, by go_num, hO, hbr, hb6, HA3⟩
        case measure => simp [intOf]; omega
      | false =>
        rw [hnl] at hN HA2
        rw [if_neg (by decide)] at HA2
        have hN := Lib.hid hN
        clear hnl
        obtain ⟨mb, hmb⟩ : ∃ mb, markB l = mb := ⟨_, rfl⟩
        obtain ⟨gv, hgv⟩ : ∃ gv, (g mt).getD 0 = gv := ⟨_, rfl⟩
        rw [hmb] at hK
        rw [hmb, hgv] at HA2
        have hK := Lib.hid hK
        have hgv := Lib.hid hgv
        have HA2 := Lib.hid HA2
        clear hmb
        go_upto_region 8 with (first
          | (go_at_call 47; refine (hN.out _).mono ?_; rintro e w5 ⟨rfl, rfl⟩)
          | (go_at_call 48; refine (hK.out _).mono ?_; rintro e w6 ⟨rfl, hb6'⟩))
        have hO6 := own_below hO hb6'
        have hbr6 := hbr.trans (below_mono hb6' hbr.size)
        have hlook := (HM2.out _ hbr6).lookL mt hmz
        rw [hgv.out] at hlook
        have hlook := Lib.hid hlook
        clear hO hbr hb6' hcr
        go_cut [41] (fun s41 wx => s41 = .bool (mb && decide (gv = (k : Int))) ∧ w6 = wx)
        case first =>
          cases mb with
          | false =>
            go_wp2
            go_meet
            exact ⟨rfl, rfl⟩
          | true =>
            have hlk := hlook.out
            by_cases hgk : gv = (k : Int)
            · have e1 : (gv == (k : Int)) = true := by simp [hgk]
              have HG := Lib.hid hgk
              clear hgk
              go_wp2
              go_meet
              exact ⟨by simp [HG.out], rfl⟩
            · have e1 : (gv == (k : Int)) = false := by simp [hgk]
              have HG := Lib.hid hgk
              clear hgk
              go_wp2
              go_meet
              exact ⟨by simp [HG.out], rfl⟩
        case rest =>
          obtain ⟨rfl, rfl⟩ := hcut
          clear hlook
          by_cases hmk : mb = true ∧ gv = (k : Int)
          · have e2 : (mb && decide (gv = (k : Int))) = true := by simp [hmk.1, hmk.2]
            rw [e2]
            have HA3 := Lib.hid (show asmFrom f g (LS.drop (k + 1)) (k + 1) b = R by rw [← HA2.out, if_pos hmk])
            clear HA2 hmk e2
            go_wp2
            go_roundw
            case rel => exact ⟨k + 1, b, by omega, by go_num, hO6, hbr6, hb6, HA3⟩
            case measure => simp [intOf]; omega
          · have e2 : (mb && decide (gv = (k : Int))) = false := by
              cases mb
              · rfl
              · simp only [Bool.true_and, decide_eq_false_iff_not]; exact fun h => hmk ⟨rfl, h⟩
            rw [e2]
            have HA3 := HA2.out
            rw [if_neg hmk] at HA3
            have HA3 := Lib.hid HA3
            clear HA2 hmk e2
            cases wo with
            | none =>
              have HR2 := Lib.hid (show (.inl (k + 1) : Nat ⊕ List Int) = R from HA3.out)
              have hWn := Lib.hid (hWd.out _ hbr6)
              clear hWd hwr HA3
              go_wp2_with (go_at_call 49; refine hWn.out.mono ?_; rintro e w7 ⟨r, rfl, hr, hb7⟩)
              go_ret2
              refine ⟨.slice none 0 0, ?_, ?_, ?_⟩
              · rw [← HR2.out]; rfl
              · rw [← HR2.out]; exact ⟨rfl, .inl ⟨rfl, rfl⟩⟩
              · exact hbw2.trans (below_mono (hbr6.trans (below_mono hb7 hbr6.size)) hbw2.size)
            | some v =>
              obtain ⟨hv0, hv1⟩ := hwr.out v rfl
              have hWn := Lib.hid (hWd.out _ hbr6)
              have HA4 := HA3.out
              simp only at HA4
              by_cases hbig : 65536 < b.length + 4
              · rw [if_pos hbig] at HA4
                have HR2 := Lib.hid HA4
                have hd3 : decide ((65536 : Int) < (b.length : Int) + 4) = true := decide_eq_true (by omega)
                clear hWd hwr HA3 HA4
                go_wp2_with (go_at_call 49; refine hWn.out.mono ?_; rintro e w7 ⟨r, rfl, hr, hb7⟩)
                go_ret2
                refine ⟨.slice none 0 0, ?_, ?_, ?_⟩
                · rw [← HR2.out]; rfl
                · rw [← HR2.out]; exact ⟨rfl, .inl ⟨rfl, rfl⟩⟩
                · exact hbw2.trans (below_mono (hbr6.trans (below_mono hb7 hbr6.size)) hbw2.size)
              · rw [if_neg hbig] at HA4
                have HA5 := Lib.hid HA4
                have hd3 : decide ((65536 : Int) < (b.length : Int) + 4) = false := decide_eq_false (by omega)
                clear hWd hwr HA3 HA4
                go_upto_region 12 with (go_at_call 49; refine hWn.out.mono ?_; rintro e w7 ⟨r, rfl, hr, hb7⟩)
                have hrv := hr v rfl
                subst hrv
                have hO7 := own_below hO6 hb7
                have hbr7 := hbr6.trans (below_mono hb7 hbr6.size)
                have hbz7 := hbr7.size
                clear hr
                go_wp2_with (at_builtin; refine wpApp4 rfl _ _ rfl w2.heap.size _ b rfl hO7 _ _ _ _ rfl (by omega) (by omega) ?_; intro v' w8 hown' hgrow)
                have HA6 := Lib.hid (show asmFrom f g (LS.drop (k + 1)) (k + 1) (b ++ [r % 256, r / 256 % 256, r / 65536 % 256, r / 16777216]) = R by
                  rw [← HA5.out, bytes4, show r / 16777216 % 256 = r / 16777216 from by omega])
                have hbr8 : Below w2.heap.size w2 w8 := (hbr7.alloc hbz7 _).grown hgrow (by simp; omega) (fun j hj => (hO7.lt j hj).1)
                clear hgrow HA5
                go_wp2
                go_roundw
                case rel => exact ⟨k + 1, b ++ [r % 256, r / 256 % 256, r / 65536 % 256, r / 16777216], by omega, by go_num, hown', hbr8, by simp; omega, HA6⟩
                case measure => simp [intOf]; omega
    · have hkk : k = bs.length := by omega
      have HR2 := Lib.hid (show (.inr b : Nat ⊕ List Int) = R by
        rw [← HA.out, List.drop_eq_nil_of_le (by have := Hbl.out; omega)]; rfl)
      subst hkk
      go_wp2
      go_ret2
      refine ⟨.slice bo b.length bc, ?_, ?_, hbw2.trans (below_mono hbr hbw2.size)⟩
      · rw [← HR2.out]; rfl
      · rw [← HR2.out]; exact ownsRowF_mono hO hbw2.size
end Go.Proofs.YtmklpjelfonilaaGreatDoor
