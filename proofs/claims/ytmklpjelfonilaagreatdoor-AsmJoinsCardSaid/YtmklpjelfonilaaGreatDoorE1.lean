/- Package asm: words: a line's words. -/
import Derived.Test.YtmklpjelfonilaaGreatDoorD2
namespace Go.Proofs.YtmklpjelfonilaaGreatDoor
open Go.RowKit
attribute [local go_sem] alloc_drewN setCell_drewN wext_size wext_drewN wext_drew wext_setCell wext_cell wext_frozen wext_wext lt_e1 lt_e2 lt_e3 lt_e4 lt_e5 lt_e6
set_option linter.unusedVariables false
set_option linter.unusedSimpArgs false

theorem infoStr : (Tryz.prog.info? 9).map (fun i => (i.zero, i.size, i.bytes)) = some (some (.string ⟨#[]⟩), 1, 16) := by kernel_rfl

theorem ownsRowF_mono {w : World} {B B' : Nat} {e : TypeId} {size : Nat} {v : Value} {n : Nat} {xs : List Value} (h : w.ownsRowF B e size v n xs) (hb : B' ≤ B) : w.ownsRowF B' e size v n xs :=
  ⟨h.1, h.2.imp id fun ⟨g, cap, cur, fz, hv, hbg, rest⟩ => ⟨g, cap, cur, fz, hv, Nat.le_trans hb hbg, rest⟩⟩
theorem ownsRowF_iterAt {w : World} {B : Nat} {e : TypeId} {size : Nat} {v : Value} {n : Nat} {xs : List Value} (hown : w.ownsRowF B e size v n xs) {k : Nat} {s : ByteArray} {pos : Nat} (hk : w.heap[k]? = some (.stringIter s pos)) (pos' : Nat) :
    (w.iterAt k s pos').ownsRowF B e size v n xs := by
  refine ⟨hown.1, ?_⟩
  rcases hown.2 with hn | ⟨g, cap, cur, fz, hv, hbg, hg, rest⟩
  · exact .inl hn
  · have hkg : g ≠ k := by
      intro e1
      rw [e1, hk] at hg
      cases hg
    exact .inr ⟨g, cap, cur, fz, hv, hbg, (Lib.iterAt_other w k g s pos' hkg).trans hg, rest⟩

theorem wpAppStr {ops : Array Oper} {rest : List Oper} {o : Oper} {a : Act} {Q : Exit → Act → World → Prop} {w : World} (hgd : o.guard = none) (s x : Operand)
    (ho : o.op = .call { callee := .builtin .append, args := #[s, x], argTypes := #[36, 36] }) (B : Nat) (v : Value) (acc : List ByteArray) (hs : a.eval s = v) (hown : w.ownsRowF B 9 1 v acc.length (acc.map Value.string)) (str : ByteArray)
    (hx : a.eval x = .slice (some ⟨w.heap.size, 0, none⟩) 1 1) (hlen : acc.length ≤ 1099511627776) (hB : B ≤ w.heap.size)
    (h : ∀ v' w', w'.ownsRowF B 9 1 v' (acc ++ [str]).length ((acc ++ [str]).map Value.string) → (w.alloc (.cells #[.string str] 9)).grownBy w' v.ownBlock → wpList Tryz.prog ops Q rest (a.put o.dst v') w') :
    wpList Tryz.prog ops Q (o :: rest) a (w.alloc (.cells #[.string str] 9)) := by
  obtain ⟨i0, hi, hz0, hz1, hz2⟩ := info_parts infoStr
  refine wpList_append_ownF _ hgd s x 36 ho B 9 i0 (.string ⟨#[]⟩) 1 16 Tryz.underlying36 hi hz0 hz1 hz2 rfl (by decide) v acc.length _ hs (hown.alloc _) ⟨w.heap.size, 0, none⟩ 1 1 [.string str] hx rfl ?c1 ?c2 ?c3 ?c4 ?c5 ?c6
  case c1 =>
    intro j u hj
    match j, hj with
    | 0, hj => simp at hj; subst hj; simp [Addr.add]
    | (j + 1), hj => simp at hj
  case c2 => intro u hu; simp at hu; subst hu; rfl
  case c3 => unfold maxLen; omega
  case c4 => omega
  case c5 => simp; omega
  case c6 =>
    intro v' w2 h1 h2 _
    exact h v' w2 (by simpa using h1) h2

/-- A rune that parts words. -/
def parts (r : Nat) : Bool := r == 32 || r == 44 || r == 40 || r == 41
/-- The words of a line, from place pos on, an open word beginning at fr (none: below 0). -/
def wordsFrom (s : ByteArray) : Nat → Nat → Option Nat → List ByteArray
  | 0, _, fr => match fr with | some f => [s.extract f s.size] | none => []
  | fuel + 1, pos, fr =>
    if pos < s.size then
      match parts (Utf8.decode s pos).1, fr with
      | true, some f => s.extract f pos :: wordsFrom s fuel (pos + (Utf8.decode s pos).2) none
      | false, none => wordsFrom s fuel (pos + (Utf8.decode s pos).2) (some pos)
      | _, fr => wordsFrom s fuel (pos + (Utf8.decode s pos).2) fr
    else match fr with | some f => [s.extract f s.size] | none => []
def wordsOf (s : ByteArray) : List ByteArray := wordsFrom s s.size 0 none
theorem wordsFrom_end (s : ByteArray) (fuel pos : Nat) (fr : Option Nat) (h : ¬ pos < s.size) : wordsFrom s fuel pos fr = match fr with | some f => [s.extract f s.size] | none => [] := by
  cases fuel <;> simp [wordsFrom, h]
def frVal : Option Nat → Int
  | none => -1
  | some f => f
theorem width_pos (s : ByteArray) (pos : Nat) (h : pos < s.size) : 1 ≤ (Utf8.decode s pos).2 := by
  by_cases ha : (s[pos]'h).toNat < 128
  · rw [decode_ascii s pos h ha]
    exact Nat.le_refl _
  · exact (decode_high s pos h (by omega)).2

section
variable {s : ByteArray} {f pos g : Nat} (h : pos < s.size)
include h
theorem wf_cut (hp : parts (Utf8.decode s pos).1 = true) : wordsFrom s (f + 1) pos (some g) = s.extract g pos :: wordsFrom s f (pos + (Utf8.decode s pos).2) none := by simp [wordsFrom, h, hp]
theorem wf_skip (hp : parts (Utf8.decode s pos).1 = true) : wordsFrom s (f + 1) pos none = wordsFrom s f (pos + (Utf8.decode s pos).2) none := by simp [wordsFrom, h, hp]
theorem wf_open (hp : parts (Utf8.decode s pos).1 = false) : wordsFrom s (f + 1) pos none = wordsFrom s f (pos + (Utf8.decode s pos).2) (some pos) := by simp [wordsFrom, h, hp]
theorem wf_in (hp : parts (Utf8.decode s pos).1 = false) : wordsFrom s (f + 1) pos (some g) = wordsFrom s f (pos + (Utf8.decode s pos).2) (some g) := by simp [wordsFrom, h, hp]
end
theorem parts_cases {r : Nat} (h : parts r = true) : r = 32 ∨ r = 44 ∨ r = 40 ∨ r = 41 := by
  simp [parts] at h; omega
theorem parts_none {r : Nat} (h : parts r = false) : (((r : Int) == 32) = false ∧ ((r : Int) == 44) = false) ∧ (((r : Int) == 40) = false ∧ ((r : Int) == 41) = false) := by
  simp [parts] at h
  simp only [beq_eq_false_iff_ne]
  omega

set_option maxHeartbeats 6400000 in
set_option maxRecDepth 1000000 in
theorem words_any (s : ByteArray) (w : World) (hs : s.size ≤ 1099511627776) :
    Calls Tryz.prog 38 #[.string s] w fun e w' => ∃ v, e = .returned v ∧ w'.ownsRowF w.heap.size 9 1 v (wordsOf s).length ((wordsOf s).map Value.string) ∧ Below w.heap.size w w' := by
  go_enter Tryz.func38, Tryz.ntmps38
  go_wp2
  go_loopw [3, 4] (fun v3 v4 wr => ∃ (pos fuel : Nat) (acc : List ByteArray) (fr : Option Nat), wr.ownsRowF (w.heap.size + 1) 9 1 v3 acc.length (acc.map Value.string) ∧ v4 = .int .i64 (frVal fr) ∧ (∀ f, fr = some f → f < pos ∧ f < s.size) ∧ wr.heap[w.heap.size]? = some (.stringIter s pos) ∧ Below w.heap.size w wr ∧ Hid (acc ++ wordsFrom s fuel pos fr = wordsOf s) ∧ s.size ≤ pos + fuel ∧ acc.length ≤ pos ∧ acc.length ≤ s.size) (fun v3 v4 wr => s.size - wr.iterPos w.heap.size)
  case atStart =>
    refine ⟨0, s.size, [], none, ⟨rfl, .inl ⟨rfl, rfl⟩⟩, rfl, by simp, World.iter_heap _ _ _, (Below.refl _ w).alloc (Nat.le_refl _) _, Lib.hid rfl, by omega, by simp, by simp⟩
  case round =>
    obtain ⟨pos, fuel, acc, fr, hO, rfl, hfr, hit, hbw, HW, hfu, hal, has⟩ := hrel
    have hsz0 : w.heap.size < wr.heap.size := (Array.getElem?_eq_some_iff.1 hit).1
    by_cases hp : pos < s.size
    · have hnx : ∀ ty, (Instr.next (.pointer (some ⟨w.heap.size, 0, none⟩)) true ty).run Tryz.prog wr = _ := fun ty => Lib.run_next_any_at wr w.heap.size s pos ty hit hp
      have hwd := width_pos s pos hp
      have hd1 := decode_le s pos
      have hO2 := ownsRowF_iterAt hO hit (pos + (Utf8.decode s pos).2)
      have hit2 := Lib.iterAt_heap wr w.heap.size s pos (pos + (Utf8.decode s pos).2) hit
      have hbw2 := Lib.below_iterAt hbw (k := w.heap.size) (by omega) s (pos + (Utf8.decode s pos).2)
      have hsz2 : w.heap.size < (wr.iterAt w.heap.size s (pos + (Utf8.decode s pos).2)).heap.size := by rw [Lib.iterAt_size]; omega
      obtain ⟨f, rfl⟩ : ∃ f, fuel = f + 1 := ⟨fuel - 1, by omega⟩
      obtain ⟨r, hr⟩ : ∃ r, (Utf8.decode s pos).1 = r := ⟨_, rfl⟩
      obtain ⟨nx, hnxt⟩ : ∃ nx, pos + (Utf8.decode s pos).2 = nx := ⟨_, rfl⟩
      have hnp : pos < nx := by omega
      rw [hr, hnxt] at hnx
      rw [hnxt] at hO2 hit2 hbw2 hsz2
      clear hwd hd1
      cases hpr : parts r with
      | true =>
        have hpr0 : parts (Utf8.decode s pos).1 = true := by rw [hr]; exact hpr
        cases fr with
        | none =>
          have HW2 := Lib.hid (show acc ++ wordsFrom s f nx none = wordsOf s by rw [← HW.out, wf_skip hp hpr0, hnxt])
          clear HW hpr0
          have hrs := parts_cases hpr
          clear hpr hr hnxt hfr
          simp only [frVal]
          rcases hrs with rfl | rfl | rfl | rfl
          all_goals
            go_wp2
            go_roundw
            case rel => exact ⟨nx, f, acc, none, hO2, rfl, by simp, hit2, hbw2, HW2, by omega, by omega, has⟩
            case measure => simp only [World.iterPos, hit2, hit]; omega
        | some g =>
          obtain ⟨hg1, hg2⟩ := hfr g rfl
          have HW2 := Lib.hid (show (acc ++ [s.extract g pos]) ++ wordsFrom s f nx none = wordsOf s by rw [← HW.out, wf_cut hp hpr0, hnxt]; simp)
          clear HW hpr0
          have hrs := parts_cases hpr
          clear hpr hr hnxt hfr
          simp only [frVal]
          have hd : decide ((0 : Int) ≤ (g : Int)) = true := decide_eq_true (by omega)
          have hlen : acc.length < s.size := by omega
          rcases hrs with rfl | rfl | rfl | rfl
          all_goals
            go_wp2_with (at_builtin; refine wpAppStr rfl _ _ rfl (w.heap.size + 1) _ acc rfl hO2 _ rfl (by omega) (by omega) ?_; intro v' w2 hown' hgrow)
            have hit3 : w2.heap[w.heap.size]? = some (.stringIter s nx) := by
              rw [hgrow.block w.heap.size (by simp; omega) (fun e => absurd (hO2.lt _ e.symm).1 (by omega)), Lib.alloc_old _ _ _ hsz2]
              exact hit2
            have hbw3 : Below w.heap.size w w2 := (hbw2.alloc (by omega) _).grown hgrow (by simp; omega) (fun k hk => Nat.le_of_succ_le (hO2.lt k hk).1)
            go_wp2
            go_roundw
            case rel => exact ⟨nx, f, acc ++ [s.extract g pos], none, hown', rfl, by simp, hit3, hbw3, HW2, by omega, by simp; omega, by simp; omega⟩
            case measure => simp only [World.iterPos, hit3, hit]; omega
      | false =>
        have hpr0 : parts (Utf8.decode s pos).1 = false := by rw [hr]; exact hpr
        obtain ⟨⟨n1, n2⟩, n3, n4⟩ := parts_none hpr
        cases fr with
        | none =>
          have HW2 := Lib.hid (show acc ++ wordsFrom s f nx (some pos) = wordsOf s by rw [← HW.out, wf_open hp hpr0, hnxt])
          clear HW hpr0 hpr hr hnxt hfr
          simp only [frVal]
          go_wp2
          go_roundw
          case rel => exact ⟨nx, f, acc, some pos, hO2, rfl, by intro g hg; cases hg; exact ⟨hnp, hp⟩, hit2, hbw2, HW2, by omega, by omega, has⟩
          case measure => simp only [World.iterPos, hit2, hit]; omega
        | some g =>
          obtain ⟨hg1, hg2⟩ := hfr g rfl
          have HW2 := Lib.hid (show acc ++ wordsFrom s f nx (some g) = wordsOf s by rw [← HW.out, wf_in hp hpr0, hnxt])
          clear HW hpr0 hpr hr hnxt hfr
          simp only [frVal]
          have hd : decide ((0 : Int) ≤ (g : Int)) = true := decide_eq_true (by omega)
          have hd2 : decide ((g : Int) < 0) = false := decide_eq_false (by omega)
          go_wp2
          go_roundw
          case rel => exact ⟨nx, f, acc, some g, hO2, rfl, by intro g' hg; cases hg; exact ⟨by omega, hg2⟩, hit2, hbw2, HW2, by omega, by omega, has⟩
          case measure => simp only [World.iterPos, hit2, hit]; omega
    · have hnx : ∀ ty, (Instr.next (.pointer (some ⟨w.heap.size, 0, none⟩)) true ty).run Tryz.prog wr = _ := fun ty => Lib.run_next_end_at wr w.heap.size s pos ty hit hp
      have hfin := HW.out
      rw [wordsFrom_end s fuel pos fr hp] at hfin
      cases fr with
      | none =>
        simp only [List.append_nil] at hfin
        subst hfin
        simp only [frVal]
        go_wp2
        go_ret
        exact ⟨_, rfl, ownsRowF_mono hO (by omega), hbw⟩
      | some g =>
        obtain ⟨hg1, hg2⟩ := hfr g rfl
        have HF := Lib.hid hfin
        clear hfin HW
        simp only [frVal]
        have hd : decide ((0 : Int) ≤ (g : Int)) = true := decide_eq_true (by omega)
        go_wp2_with (at_builtin; refine wpAppStr rfl _ _ rfl (w.heap.size + 1) _ acc rfl hO _ rfl (by omega) (by omega) ?_; intro v' w2 hown' hgrow)
        go_wp2
        go_ret
        refine ⟨_, rfl, ?_, (hbw.alloc (by omega) _).grown hgrow (by simp; omega) (fun k hk => Nat.le_of_succ_le (hO.lt k hk).1)⟩
        rw [← HF.out]
        exact ownsRowF_mono hown' (by omega)
end Go.Proofs.YtmklpjelfonilaaGreatDoor
