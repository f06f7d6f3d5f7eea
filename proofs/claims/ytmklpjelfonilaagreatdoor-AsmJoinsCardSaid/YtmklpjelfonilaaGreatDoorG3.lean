/- Package asm: places: where marks stand; maps of names to numbers as plain functions. -/
import Derived.Test.YtmklpjelfonilaaGreatDoorG2
import Derived.Maps.OwnSet
import Derived.Maps.Views
namespace Go.Proofs.YtmklpjelfonilaaGreatDoor
open Go.RowKit
attribute [local go_sem] alloc_drewN setCell_drewN wext_size wext_drewN wext_drew wext_setCell wext_cell wext_frozen wext_wext lt_e1 lt_e2 lt_e3 lt_e4 lt_e5 lt_e6
set_option linter.unusedVariables false
set_option linter.unusedSimpArgs false

theorem keyLaw : Maps.Keyed Tryz.prog 9 := Maps.string_keyed Tryz.underlying9
theorem zero3 (w : World) : (zeroValue 3).run Tryz.prog w = .ok (.int .i64 0) w := by kernel_rfl

/-- Block b is a map of names to numbers, of at most n entries: what stands in it is f. -/
def MapIs (w : World) (b n : Nat) (f : List UInt8 → Option Int) : Prop :=
  ∃ D : DataW Unit, w.ownsMap Tryz.prog 9 (plainElem Tryz.prog 3) b n D ∧ ∀ k : List UInt8, Maps.has D (.string k) = (f k).isSome ∧ ∀ v, f k = some v → ∀ z, D.atKey (.string k) z = .lit (.int .i64 v)

def updF (f : List UInt8 → Option Int) (k : List UInt8) (v : Int) : List UInt8 → Option Int := fun k' => if k' = k then some v else f k'

theorem MapIs.made (w : World) : MapIs (w.alloc (.map #[] 0)) w.heap.size 0 (fun _ => none) :=
  ⟨.map [], World.ownsMap_made w _ _ _, fun k => ⟨rfl, fun v h => by cases h⟩⟩
theorem MapIs.lt {w : World} {b n : Nat} {f : List UInt8 → Option Int} (h : MapIs w b n f) : b < w.heap.size := let ⟨_, h, _⟩ := h; h.lt
theorem MapIs.kept {w w' : World} {b n : Nat} {f : List UInt8 → Option Int} {row : Option Nat} (h : MapIs w b n f) (hg : w.grownBy w' row) (hne : some b ≠ row) : MapIs w' b n f :=
  let ⟨D, h, hf⟩ := h; ⟨D, h.kept hg hne, hf⟩
theorem MapIs.below {w w' : World} {b n : Nat} {f : List UInt8 → Option Int} (h : MapIs w b n f) (hb : Below w.heap.size w w') : MapIs w' b n f :=
  h.kept (row := none) ⟨hb.os, hb.tape, hb.output, hb.size, fun k hk _ => hb.block k hk⟩ (by simp)
theorem MapIs.mono {w : World} {b n n' : Nat} {f : List UInt8 → Option Int} (h : MapIs w b n f) (hn : n ≤ n') : MapIs w b n' f :=
  let ⟨D, h, hf⟩ := h; ⟨D, h.mono hn, hf⟩
theorem MapIs.alloc {w : World} {b n : Nat} {f : List UInt8 → Option Int} (h : MapIs w b n f) (o : Obj) : MapIs (w.alloc o) b n f :=
  let ⟨D, h, hf⟩ := h; ⟨D, h.alloc o, hf⟩

set_option maxRecDepth 100000 in
theorem MapIs.look_ok {w : World} {b n : Nat} {f : List UInt8 → Option Int} (h : MapIs w b n f) (s : ByteArray) (hs : s.size ≤ maxLen) :
    (Instr.lookup 74 (.map (some b)) (.string s) true).run Tryz.prog w = .ok (.tuple #[.int .i64 ((f s.data.toList).getD 0), .bool (f s.data.toList).isSome]) w := by
  obtain ⟨D, h, hf⟩ := h
  obtain ⟨v, ps, hrun, hv⟩ := h.look_ok keyLaw Tryz.underlying74 (zero3 w) (plainElem_int Tryz.underlying3 (by decide)) (WideMaps.keyOf_string_mk (P := Tryz.prog) Tryz.underlying9 hs)
  obtain ⟨h1, h2⟩ := hf s.data.toList
  rw [hrun, h1]
  obtain ⟨c, rfl, hc, _⟩ := plainElem_int_inv Tryz.underlying3 hv
  injection hc with hc _
  cases hfs : f s.data.toList with
  | none =>
    rw [hfs] at h1
    rw [Maps.atKey_of_not_has h1] at hc
    injection hc with hc; injection hc with _ hc
    rw [← hc]; rfl
  | some y =>
    rw [h2 y hfs] at hc
    injection hc with hc; injection hc with _ hc
    rw [← hc]; rfl
set_option maxRecDepth 100000 in
theorem MapIs.look {w : World} {b n : Nat} {f : List UInt8 → Option Int} (h : MapIs w b n f) (s : ByteArray) (hs : s.size ≤ maxLen) :
    (Instr.lookup 74 (.map (some b)) (.string s) false).run Tryz.prog w = .ok (.int .i64 ((f s.data.toList).getD 0)) w := by
  obtain ⟨D, h, hf⟩ := h
  obtain ⟨c, hrun, hc, _⟩ := h.lookup_int keyLaw Tryz.underlying74 Tryz.underlying3 (zero3 w) (WideMaps.keyOf_string_mk (P := Tryz.prog) Tryz.underlying9 hs)
  obtain ⟨h1, h2⟩ := hf s.data.toList
  rw [hrun]
  cases hfs : f s.data.toList with
  | none =>
    rw [hfs] at h1
    rw [Maps.atKey_of_not_has h1] at hc
    injection hc with hc; injection hc with _ hc
    rw [← hc]; rfl
  | some y =>
    rw [h2 y hfs] at hc
    injection hc with hc; injection hc with _ hc
    rw [← hc]; rfl
set_option maxRecDepth 100000 in
theorem MapIs.update {w : World} {b n : Nat} {f : List UInt8 → Option Int} (h : MapIs w b n f) (s : ByteArray) (hs : s.size ≤ maxLen) (v : Int) (hv : (Lit.int .i64 v).wf = true) (hn : n < maxLen) :
    ∃ w', (Instr.mapUpdate 74 (.map (some b)) (.string s) (.int .i64 v)).run Tryz.prog w = .ok () w' ∧ MapIs w' b (n + 1) (updF f s.data.toList v) ∧ w.grownBy w' (some b) := by
  obtain ⟨D, h, hf⟩ := h
  have hi := h.isMap
  obtain ⟨w', hrun, hown, hg⟩ := h.update keyLaw Tryz.underlying74 hn (WideMaps.keyOf_string_mk (P := Tryz.prog) Tryz.underlying9 hs) (plainElem_int Tryz.underlying3 hv)
  refine ⟨w', hrun, ⟨_, hown, fun k => ?_⟩, hg⟩
  unfold updF
  by_cases hk : k = s.data.toList
  · subst hk
    rw [if_pos rfl]
    exact ⟨Maps.has_put_same hi (show WideAt.IsKeyLit (.string s.data.toList) from trivial) _, fun y hy z => by injection hy with hy; subst hy; exact Maps.atKey_put_same hi (show WideAt.IsKeyLit (.string s.data.toList) from trivial) _ _⟩
  · rw [if_neg hk]
    have hne : (Lit.string k) ≠ .string s.data.toList := fun e => hk (by injection e)
    obtain ⟨h1, h2⟩ := hf k
    exact ⟨by rw [Maps.has_put_other hne]; exact h1, fun y hy z => by rw [Maps.atKey_put_other hne]; exact h2 y hy z⟩

/-- `places(l)`: from line i on, at a place: what stands in the two maps. -/
def placesFrom : List (List UInt8) → Int → Int → (List UInt8 → Option Int) × (List UInt8 → Option Int) → (List UInt8 → Option Int) × (List UInt8 → Option Int)
  | [], _, _, m => m
  | l :: ls, i, bytes, m =>
    if nothingL l then placesFrom ls (i + 1) bytes m
    else if markB l = true ∧ (m.2 (markText l)).isSome = false then placesFrom ls (i + 1) bytes (updF m.1 (markText l) bytes, updF m.2 (markText l) i)
    else placesFrom ls (i + 1) (bytes + 4) m
def noMaps : (List UInt8 → Option Int) × (List UInt8 → Option Int) := (fun _ => none, fun _ => none)
def placesL (ls : List (List UInt8)) : (List UInt8 → Option Int) × (List UInt8 → Option Int) := placesFrom ls 0 0 noMaps

theorem data_mk (l : List UInt8) : (ByteArray.mk l.toArray).data.toList = l := by simp
set_option maxRecDepth 100000 in
theorem MapIs.look_okL {w : World} {b n : Nat} {f : List UInt8 → Option Int} (h : MapIs w b n f) (l : List UInt8) (hl : l.length ≤ maxLen) :
    (Instr.lookup 74 (.map (some b)) (.string ⟨l.toArray⟩) true).run Tryz.prog w = .ok (.tuple #[.int .i64 ((f l).getD 0), .bool (f l).isSome]) w := by
  have := h.look_ok ⟨l.toArray⟩ hl
  rw [data_mk] at this
  exact this
set_option maxRecDepth 100000 in
theorem MapIs.lookL {w : World} {b n : Nat} {f : List UInt8 → Option Int} (h : MapIs w b n f) (l : List UInt8) (hl : l.length ≤ maxLen) :
    (Instr.lookup 74 (.map (some b)) (.string ⟨l.toArray⟩) false).run Tryz.prog w = .ok (.int .i64 ((f l).getD 0)) w := by
  have := h.look ⟨l.toArray⟩ hl
  rw [data_mk] at this
  exact this
set_option maxRecDepth 100000 in
theorem MapIs.updateL {w : World} {b n : Nat} {f : List UInt8 → Option Int} (h : MapIs w b n f) (l : List UInt8) (hl : l.length ≤ maxLen) (v : Int) (hv : (Lit.int .i64 v).wf = true) (hn : n < maxLen) :
    ∃ w', (Instr.mapUpdate 74 (.map (some b)) (.string ⟨l.toArray⟩) (.int .i64 v)).run Tryz.prog w = .ok () w' ∧ MapIs w' b (n + 1) (updF f l v) ∧ w.grownBy w' (some b) := by
  have := h.update ⟨l.toArray⟩ hl v hv hn
  rw [data_mk] at this
  exact this

/-- A value that is a slice of texts. -/
def StrSl (w : World) (v : Value) (ls : List ByteArray) : Prop :=
  ∃ ao c, v = .slice ao ls.length c ∧ (ls = [] ∨ ∃ g, ao = some ⟨g, 0, none⟩ ∧ g < w.heap.size ∧ ∀ j t, ls[j]? = some t → w.cell? ⟨g, j, none⟩ = some (.string t))
theorem StrSl.below {w w' : World} {v : Value} {ls : List ByteArray} (h : StrSl w v ls) (hb : Below w.heap.size w w') : StrSl w' v ls := by
  obtain ⟨ao, c, e, h⟩ := h
  refine ⟨ao, c, e, ?_⟩
  rcases h with h | ⟨g, e1, h1, h2⟩
  · exact .inl h
  · exact .inr ⟨g, e1, Nat.lt_of_lt_of_le h1 hb.size, fun j t hj => (hb.cell (p := ⟨g, j, none⟩) h1).trans (h2 j t hj)⟩

theorem markText_le (l : List UInt8) : (markText l).length ≤ l.length := by
  unfold markText Lib.trimSuffix
  split
  · rw [List.length_take]; omega
  · exact Nat.le_refl _

set_option maxHeartbeats 1600000 in
set_option maxRecDepth 1000000 in
theorem places_any (v : Value) (ls : List ByteArray) (w : World) (hv : StrSl w v ls) (hn : ls.length ≤ 4294967296) (hsz : ∀ t ∈ ls, t.size ≤ 4294967296) :
    Calls Tryz.prog 46 #[v] w fun e w' => ∃ b1 b2 n, e = .returned (.tuple #[.map (some b1), .map (some b2)]) ∧ MapIs w' b1 n (placesL (ls.map (·.data.toList))).1 ∧ MapIs w' b2 n (placesL (ls.map (·.data.toList))).2 ∧ Below w.heap.size w w' := by
  obtain ⟨R, hR⟩ : ∃ R, placesL (ls.map (·.data.toList)) = R := ⟨_, rfl⟩
  rw [hR]
  have HR := Lib.hid hR
  have HSZ := Lib.hid hsz
  obtain ⟨ao, c, rfl, hv⟩ := hv
  have HV := Lib.hid hv
  clear hR hsz hv
  have hmm := @run_makeMap Tryz.prog
  go_enter Tryz.func46, Tryz.ntmps46
  go_upto_region 4 with fail
  clear hmm
  have hb0 : Below w.heap.size w ((w.alloc (.map #[] 0)).alloc (.map #[] 0)) := ((Below.refl _ w).alloc (Nat.le_refl _) _).alloc (by simp) _
  have hm1 : MapIs ((w.alloc (.map #[] 0)).alloc (.map #[] 0)) w.heap.size 0 (fun _ => none) := (MapIs.made w).alloc _
  have hm2 : MapIs ((w.alloc (.map #[] 0)).alloc (.map #[] 0)) (w.heap.size + 1) 0 (fun _ => none) := by
    have := MapIs.made (w.alloc (.map #[] 0))
    rwa [World.size_alloc] at this
  go_loopw [4, 15] (fun v4 v15 wr => ∃ (k n : Nat) (bytes : Int) (m1 m2 : List UInt8 → Option Int), k ≤ ls.length ∧ v15 = .int .i64 (k : Int) ∧ v4 = .int .i64 bytes ∧ 0 ≤ bytes ∧ bytes ≤ 4 * (k : Int) ∧ n ≤ k ∧ MapIs wr w.heap.size n m1 ∧ MapIs wr (w.heap.size + 1) n m2 ∧ Below w.heap.size w wr ∧ Hid (placesFrom ((ls.map (·.data.toList)).drop k) k bytes (m1, m2) = R)) (fun v4 v15 wr => ls.length - (intOf v15).toNat)
  case atStart => exact ⟨0, 0, 0, _, _, by omega, rfl, rfl, by omega, by omega, by omega, hm1, hm2, hb0, HR⟩
  case round =>
    clear hb0 hm1 hm2 HR
    obtain ⟨k, n, bytes, m1, m2, hk, rfl, rfl, hb0, hb4, hnk, hM1, hM2, hbw, HP⟩ := hrel
    have hlt1 := hM1.lt
    have hlt2 := hM2.lt
    by_cases hkl : k < ls.length
    · have hd : decide ((k : Int) < (ls.length : Int)) = true := decide_eq_true (by omega)
      obtain ⟨t, ht⟩ : ∃ t, ls[k]? = some t := ⟨_, List.getElem?_eq_getElem hkl⟩
      have htz := HSZ.out t (List.mem_of_getElem? ht)
      have HP2 : placesFrom (t.data.toList :: (ls.map (·.data.toList)).drop (k + 1)) k bytes (m1, m2) = R := by
        rw [← HP.out, List.drop_eq_getElem_cons (l := ls.map (·.data.toList)) (i := k) (by simpa using hkl)]
        congr 2
        rw [List.getElem_map]
        rw [List.getElem?_eq_getElem hkl] at ht
        injection ht with ht
        rw [ht]
      have HV2 : ∃ g, ao = some ⟨g, 0, none⟩ ∧ g < w.heap.size ∧ w.cell? ⟨g, k, none⟩ = some (.string t) := by
        rcases HV.out with h | ⟨g, e1, h1, h2⟩
        · rw [h] at hkl; simp at hkl
        · exact ⟨g, e1, h1, h2 k t ht⟩
      obtain ⟨g, rfl, hg, hc⟩ := HV2
      have hcr : wr.cell? ⟨g, k, none⟩ = some (.string t) := (hbw.cell (p := ⟨g, k, none⟩) hg).trans hc
      clear hc ht HP
      obtain ⟨l, hl⟩ : ∃ l, t.data.toList = l := ⟨_, rfl⟩
      have hlz : l.length ≤ 4294967296 := by rw [← hl]; exact htz
      have hN := fun w => nothing_any t w
      have hK := fun w => mark_any t w (by omega)
      rw [hl] at hN hK HP2
      rw [placesFrom] at HP2
      have hml := markText_le l
      obtain ⟨mt, hmt⟩ : ∃ mt, markText l = mt := ⟨_, rfl⟩
      rw [hmt] at hK HP2 hml
      have hmz : mt.length ≤ maxLen := by unfold maxLen; omega
      have hwf1 : (Lit.int .i64 bytes).wf = true := WalkArith.wf_i64 (by omega)
      have hwf2 : (Lit.int .i64 (k : Int)).wf = true := WalkArith.wf_i64 (by omega)
      have hnm : n < maxLen := by unfold maxLen; omega
      clear hl hmt
      cases hnl : nothingL l with
      | true =>
        rw [hnl] at hN HP2
        rw [if_pos rfl] at HP2
        have hN := Lib.hid hN
        have HP3 := Lib.hid HP2
        clear hnl HP2 hK
        go_wp2_with (go_at_call 47; refine (hN.out _).mono ?_; rintro e w5 ⟨rfl, rfl⟩)
        go_roundw
        case rel => exact ⟨k + 1, n, bytes, m1, m2, by omega, by go_num, rfl, hb0, by omega, by omega, hM1, hM2, hbw, HP3⟩
        case measure => simp [intOf]; omega
      | false =>
        rw [hnl] at hN HP2
        rw [if_neg (by decide)] at HP2
        have hN := Lib.hid hN
        clear hnl
        cases hmb : markB l with
        | false =>
          rw [hmb] at hK HP2
          rw [if_neg (by simp)] at HP2
          have hK := Lib.hid hK
          have HP3 := Lib.hid HP2
          clear hmb HP2
          go_wp2_with (first
            | (go_at_call 47; refine (hN.out _).mono ?_; rintro e w5 ⟨rfl, rfl⟩)
            | (go_at_call 48; refine (hK.out _).mono ?_; rintro e w6 ⟨rfl, hb6⟩))
          go_roundw
          case rel => exact ⟨k + 1, n, bytes + 4, m1, m2, by omega, by go_num, rfl, by omega, by omega, by omega, hM1.below hb6, hM2.below hb6, hbw.trans (below_mono hb6 hbw.size), HP3⟩
          case measure => simp [intOf]; omega
        | true =>
          rw [hmb] at hK HP2
          have hK := Lib.hid hK
          clear hmb
          go_upto_region 9 with (first
            | (go_at_call 47; refine (hN.out _).mono ?_; rintro e w5 ⟨rfl, rfl⟩)
            | (go_at_call 48; refine (hK.out _).mono ?_; rintro e w6 ⟨rfl, hb6⟩))
          have hM1' := hM1.below hb6
          have hM2' := hM2.below hb6
          have hb' := hbw.trans (below_mono hb6 hbw.size)
          have hlook := hM2'.look_okL mt hmz
          clear hM1 hM2 hbw hcr
          cases hm2 : m2 mt with
          | some y =>
            rw [hm2] at hlook HP2
            rw [if_neg (by simp)] at HP2
            have HP3 := Lib.hid HP2
            simp only [Option.getD_some, Option.isSome_some] at hlook
            clear hm2 HP2
            go_wp2
            go_roundw
            case rel => exact ⟨k + 1, n, bytes + 4, m1, m2, by omega, by go_num, rfl, by omega, by omega, by omega, hM1', hM2', hb', HP3⟩
            case measure => simp [intOf]; omega
          | none =>
            rw [hm2] at hlook HP2
            rw [if_pos ⟨trivial, rfl⟩] at HP2
            have HP3 := Lib.hid HP2
            simp only [Option.getD_none, Option.isSome_none] at hlook
            obtain ⟨w8, hrun8, hM8, hg8⟩ := hM1'.updateL mt hmz bytes hwf1 hnm
            have hM28 := hM2'.kept hg8 (by simp)
            obtain ⟨w9, hrun9, hM9, hg9⟩ := hM28.updateL mt hmz k hwf2 hnm
            have hM19 := hM8.kept hg9 (by simp)
            have hb9 : Below w.heap.size w w9 := (hb'.grown hg8 hb'.size (fun j hj => by injection hj with hj; omega)).grown hg9 (Nat.le_trans hb'.size hg8.size) (fun j hj => by injection hj with hj; omega)
            clear hm2 HP2
            go_wp2
            go_roundw
            case rel => exact ⟨k + 1, n + 1, bytes, _, _, by omega, by go_num, rfl, by omega, by omega, by omega, hM19, hM9, hb9, HP3⟩
            case measure => simp [intOf]; omega
    · have hkk : k = ls.length := by omega
      subst hkk
      have HF := Lib.hid (show (m1, m2) = R by rw [← HP.out, List.drop_eq_nil_of_le (by simp)]; rfl)
      clear HP
      go_wp2
      go_ret2
      rw [← HF.out]
      exact ⟨_, _, n, rfl, hM1, hM2, hbw⟩
end Go.Proofs.YtmklpjelfonilaaGreatDoor
