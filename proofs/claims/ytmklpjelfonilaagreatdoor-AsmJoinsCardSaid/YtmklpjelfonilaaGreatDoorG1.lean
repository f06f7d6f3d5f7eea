/- Package asm: nothing, named, mark: what a line is. -/
import Derived.Test.YtmklpjelfonilaaGreatDoorA2
import Derived.Test.YtmklpjelfonilaaGreatDoorShelf
import Derived.Laws.RangeAny
import Derived.Lib.OthersKept
namespace Go.Proofs.YtmklpjelfonilaaGreatDoor
open Go.RowKit
attribute [local go_sem] alloc_drewN setCell_drewN wext_size wext_drewN wext_drew wext_setCell wext_cell wext_frozen
set_option linter.unusedVariables false
set_option linter.unusedSimpArgs false

/-- `nothing(line)`. -/
def nothingL : List UInt8 → Bool
  | [] => true
  | c :: _ => c = 35

set_option maxRecDepth 100000 in
theorem nothing_any (s : ByteArray) (w : World) : Calls Tryz.prog 47 #[.string s] w fun e w' => e = .returned (.bool (nothingL s.data.toList)) ∧ w' = w := by
  by_cases h0 : s.size = 0
  · have e : s.data.toList = [] := List.eq_nil_of_length_eq_zero h0
    have E : nothingL s.data.toList = true := by rw [e]; rfl
    have E := Lib.hid E
    have hs : s = ⟨#[]⟩ := by
      apply ByteArray.ext; apply Array.ext'; simpa using e
    clear e h0
    subst hs
    rw [E.out]
    clear E
    go_enter Tryz.func47, Tryz.ntmps47
    go_wp2
    go_ret
    exact ⟨rfl, rfl⟩
  · have hp : 0 < s.size := by omega
    have E : nothingL s.data.toList = decide (s[0]'hp = 35) := by
      have : s.data.toList = s[0]'hp :: s.data.toList.drop 1 := by
        have := List.drop_eq_getElem_cons (l := s.data.toList) (i := 0) (by simpa using hp)
        rw [List.drop_zero] at this
        exact this
      rw [this]; rfl
    have E := Lib.hid E
    have hne : (s.toList == []) = false := by
      rw [beq_eq_false_iff_ne]
      intro e
      rw [Lib.toList_data] at e
      have := congrArg List.length e
      have e2 : s.data.toList.length = s.size := rfl
      simp only [List.length_nil] at this
      omega
    have hne2 : s.toList.isEmpty = false := by
      cases h : s.toList with
      | nil => rw [h] at hne; exact absurd hne (by decide)
      | cons a l => rfl
    by_cases hc : s[0]'hp = 35
    · have hb : (((s[0]'hp).toNat : Int) == 35) = true := by rw [hc]; rfl
      rw [E.out, decide_eq_true hc]
      clear h0 E hc
      go_enter Tryz.func47, Tryz.ntmps47
      go_wp2
      go_ret
      exact ⟨rfl, rfl⟩
    · have hb : (((s[0]'hp).toNat : Int) == 35) = false := by
        rw [beq_eq_false_iff_ne]; intro e; apply hc
        exact UInt8.toNat_inj.1 (by have : (35 : UInt8).toNat = 35 := rfl; omega)
      rw [E.out, decide_eq_false hc]
      clear h0 E hc
      go_enter Tryz.func47, Tryz.ntmps47
      go_wp2
      go_ret
      exact ⟨rfl, rfl⟩

/-- A sign of a name. -/
def nameSign (first : Bool) (c : UInt8) : Bool := decide (97 ≤ c.toNat ∧ c.toNat ≤ 122) || (!first && (decide (c.toNat = 95) || decide (48 ≤ c.toNat ∧ c.toNat ≤ 57)))
def namedFrom : Bool → List UInt8 → Bool
  | _, [] => true
  | first, c :: cs => nameSign first c && namedFrom false cs
/-- `named(text)`. -/
def namedL (l : List UInt8) : Bool := !l.isEmpty && namedFrom true l

theorem sign_high (first : Bool) (c : UInt8) (h : 128 ≤ c.toNat) : nameSign first c = false := by
  unfold nameSign
  rw [decide_eq_false (by omega), decide_eq_false (by omega), decide_eq_false (by omega)]
  simp
theorem namedFrom_cons (first : Bool) (c : UInt8) (cs : List UInt8) : namedFrom first (c :: cs) = (nameSign first c && namedFrom false cs) := rfl

/-- What a rune that has been read at a place says of the byte there. -/
theorem rune_at (s : ByteArray) (pos : Nat) (h : pos < s.size) : ((s[pos]'h).toNat < 128 ∧ Utf8.decode s pos = ((s[pos]'h).toNat, 1)) ∨ (128 ≤ (s[pos]'h).toNat ∧ 128 ≤ (Utf8.decode s pos).1 ∧ 1 ≤ (Utf8.decode s pos).2) := by
  by_cases ha : (s[pos]'h).toNat < 128
  · exact .inl ⟨ha, decode_ascii s pos h ha⟩
  · exact .inr ⟨by omega, decode_high s pos h (by omega)⟩

theorem drop_at (s : ByteArray) (pos : Nat) (h : pos < s.size) : s.data.toList.drop pos = s[pos]'h :: s.data.toList.drop (pos + 1) := by
  rw [List.drop_eq_getElem_cons (by simpa using h)]
  rfl

set_option maxRecDepth 100000 in
set_option maxHeartbeats 1600000 in
theorem named_any (s : ByteArray) (w : World) : Calls Tryz.prog 72 #[.string s] w fun e w' => e = .returned (.bool (namedL s.data.toList)) ∧ Below w.heap.size w w' := by
  obtain ⟨R, hR⟩ : ∃ R, namedL s.data.toList = R := ⟨_, rfl⟩
  rw [hR]
  have HN : Hid ((s.data.toList.isEmpty = true → R = false) ∧ (s.data.toList.isEmpty = false → namedFrom true s.data.toList = R)) := Lib.hid (by
    rw [← hR]; unfold namedL
    cases s.data.toList.isEmpty <;> simp)
  clear hR
  go_enter Tryz.func72, Tryz.ntmps72
  go_wp2
  go_loopw [] (fun wr => ∃ pos : Nat, pos ≤ s.size ∧ wr.heap[w.heap.size]? = some (.stringIter s pos) ∧ Below w.heap.size w wr ∧ Hid (s.data.toList.isEmpty = false → namedFrom (pos == 0) (s.data.toList.drop pos) = R)) (fun wr => s.size - wr.iterPos w.heap.size)
  case atStart => exact ⟨0, by omega, World.iter_heap _ _ _, (Below.refl _ w).alloc (Nat.le_refl _) _, Lib.hid (by simpa using HN.out.2)⟩
  case round =>
    obtain ⟨pos, hp, hit, hbw, HR⟩ := hrel
    by_cases hpl : pos < s.size
    · have hnx : ∀ ty, (Instr.next (.pointer (some ⟨w.heap.size, 0, none⟩)) true ty).run Tryz.prog wr = _ := fun ty => Lib.run_next_any_at wr w.heap.size s pos ty hit hpl
      have hse : s.data.toList.isEmpty = false := by
        cases h : s.data.toList with
        | nil => have : s.data.toList.length = s.size := rfl; rw [h] at this; simp at this; omega
        | cons a l => rfl
      have HR2 := Lib.hid (HR.out hse)
      have hds := drop_at s pos hpl
      have hra := rune_at s pos hpl
      obtain ⟨c, hc⟩ : ∃ c, s[pos]'hpl = c := ⟨_, rfl⟩
      rw [hc] at hds hra
      have HS := HR2.out
      rw [hds, namedFrom_cons] at HS
      obtain ⟨nx, hnxt⟩ : ∃ nx, pos + (Utf8.decode s pos).2 = nx := ⟨_, rfl⟩
      obtain ⟨r, hr⟩ : ∃ r, (Utf8.decode s pos).1 = r := ⟨_, rfl⟩
      rw [hr, hnxt] at hnx
      have hit2 := Lib.iterAt_heap wr w.heap.size s pos nx hit
      have hbw2 := Lib.below_iterAt hbw (k := w.heap.size) (by omega) s nx
      clear HR hse HR2 hds hc
      by_cases hs : nameSign (pos == 0) c = true
      · have hlo : c.toNat < 128 := by
          rcases hra with h | h
          · exact h.1
          · rw [sign_high _ _ h.1] at hs; exact absurd hs (by decide)
        have hd : r = c.toNat ∧ nx = pos + 1 := by
          rcases hra with h | h
          · rw [h.2] at hr hnxt; exact ⟨hr.symm, hnxt.symm⟩
          · omega
        obtain ⟨rfl, rfl⟩ := hd
        rw [hs, Bool.true_and] at HS
        have HS2 := Lib.hid HS
        clear HS hra hr hnxt
        have hs' := hs
        unfold nameSign at hs'
        simp only [Bool.or_eq_true, decide_eq_true_eq, Bool.and_eq_true, Bool.not_eq_true', beq_eq_false_iff_ne] at hs'
        clear hs
        have fin : ∀ (wz : World), wz = wr.iterAt w.heap.size s (pos + 1) → True := fun _ _ => trivial
        rcases hs' with ⟨ha, hb⟩ | ⟨h0, h95 | ⟨ha, hb⟩⟩
        · go_wp2
          go_roundw
          case rel => exact ⟨pos + 1, by omega, hit2, hbw2, Lib.hid (fun _ => by rw [show ((pos + 1) == 0) = false from by simp]; exact HS2.out)⟩
          case measure => simp only [World.iterPos, hit2, hit]; omega
        · have e0 : ((pos : Int) == 0) = false := by rw [beq_eq_false_iff_ne]; omega
          have e95 : ((c.toNat : Int) != 95) = false := by rw [bne_eq_false_iff_eq]; omega
          have hlo2 : c.toNat < 97 := by omega
          clear h0
          go_wp2
          go_roundw
          case rel => exact ⟨pos + 1, by omega, hit2, hbw2, Lib.hid (fun _ => by rw [show ((pos + 1) == 0) = false from by simp]; exact HS2.out)⟩
          case measure => simp only [World.iterPos, hit2, hit]; omega
        · have e0 : ((pos : Int) == 0) = false := by rw [beq_eq_false_iff_ne]; omega
          have e95 : ((c.toNat : Int) != 95) = true := by rw [bne_iff_ne]; omega
          clear h0
          go_wp2
          go_roundw
          case rel => exact ⟨pos + 1, by omega, hit2, hbw2, Lib.hid (fun _ => by rw [show ((pos + 1) == 0) = false from by simp]; exact HS2.out)⟩
          case measure => simp only [World.iterPos, hit2, hit]; omega
      · have hs0 : nameSign (pos == 0) c = false := by simpa using hs
        rw [hs0, Bool.false_and] at HS
        subst HS
        have hs' := hs0
        unfold nameSign at hs'
        simp only [Bool.or_eq_false_iff, decide_eq_false_iff_not, Bool.and_eq_false_iff, Bool.not_eq_false', beq_iff_eq] at hs'
        have hn1 : r < 97 ∨ 122 < r := by
          rcases hra with ⟨h1, h2⟩ | ⟨h1, h2, h3⟩
          · rw [h2] at hr; simp only at hr; omega
          · omega
        have hn2 : pos = 0 ∨ (r ≠ 95 ∧ (r < 48 ∨ 57 < r)) := by
          rcases hra with ⟨h1, h2⟩ | ⟨h1, h2, h3⟩
          · rw [h2] at hr; simp only at hr; omega
          · omega
        clear hra hr hnxt hs hs0 hs' hit2
        have g1 : Hid (97 ≤ r → decide ((97 : Int) ≤ (r : Int)) = true) := Lib.hid (fun h => decide_eq_true (by omega))
        rcases hn2 with rfl | ⟨h95, h48⟩
        · have e0 : (((0 : Nat) : Int) == 0) = true := rfl
          rcases hn1 with hn1 | hn1
          · have d1 : decide ((97 : Int) ≤ (r : Int)) = false := decide_eq_false (by omega)
            go_wp2
            go_ret
            exact ⟨rfl, hbw2⟩
          · have d1 : decide ((97 : Int) ≤ (r : Int)) = true := decide_eq_true (by omega)
            have d2 : decide ((r : Int) ≤ 122) = false := decide_eq_false (by omega)
            go_wp2
            go_ret
            exact ⟨rfl, hbw2⟩
        · have e95 : ((r : Int) != 95) = true := by rw [bne_iff_ne]; omega
          by_cases h0 : pos = 0
          · subst h0
            have e0 : (((0 : Nat) : Int) == 0) = true := rfl
            rcases hn1 with hn1 | hn1
            · have d1 : decide ((97 : Int) ≤ (r : Int)) = false := decide_eq_false (by omega)
              go_wp2
              go_ret
              exact ⟨rfl, hbw2⟩
            · have d1 : decide ((97 : Int) ≤ (r : Int)) = true := decide_eq_true (by omega)
              have d2 : decide ((r : Int) ≤ 122) = false := decide_eq_false (by omega)
              go_wp2
              go_ret
              exact ⟨rfl, hbw2⟩
          · have e0 : ((pos : Int) == 0) = false := by rw [beq_eq_false_iff_ne]; omega
            clear h0 h95
            rcases hn1 with hn1 | hn1
            · have d1 : decide ((97 : Int) ≤ (r : Int)) = false := decide_eq_false (by omega)
              rcases h48 with h48 | h48
              · have d3 : decide ((r : Int) < 48) = true := decide_eq_true (by omega)
                go_wp2
                go_ret
                exact ⟨rfl, hbw2⟩
              · have d3 : decide ((r : Int) < 48) = false := decide_eq_false (by omega)
                have d4 : decide ((57 : Int) < (r : Int)) = true := decide_eq_true (by omega)
                go_wp2
                go_ret
                exact ⟨rfl, hbw2⟩
            · have d1 : decide ((97 : Int) ≤ (r : Int)) = true := decide_eq_true (by omega)
              have d2 : decide ((r : Int) ≤ 122) = false := decide_eq_false (by omega)
              have d3 : decide ((r : Int) < 48) = false := decide_eq_false (by omega)
              have d4 : decide ((57 : Int) < (r : Int)) = true := decide_eq_true (by omega)
              clear h48
              go_wp2
              go_ret
              exact ⟨rfl, hbw2⟩
    · have hnx : ∀ ty, (Instr.next (.pointer (some ⟨w.heap.size, 0, none⟩)) true ty).run Tryz.prog wr = _ := fun ty => Lib.run_next_end_at wr w.heap.size s pos ty hit hpl
      have hE : (s.data.toList = [] ∧ R = false) ∨ (s.data.toList ≠ [] ∧ R = true) := by
        cases h : s.data.toList with
        | nil => exact .inl ⟨rfl, HN.out.1 (by rw [h]; rfl)⟩
        | cons a l =>
          refine .inr ⟨by simp, ?_⟩
          have := HR.out (by rw [h]; rfl)
          rw [List.drop_eq_nil_of_le (show s.data.toList.length ≤ pos from by have : s.data.toList.length = s.size := rfl; omega)] at this
          simpa [namedFrom] using this.symm
      clear HN HR
      rcases hE with ⟨he, rfl⟩ | ⟨he, rfl⟩
      · have hz : s.toList = [] := by rw [Lib.toList_data]; exact he
        have b1 : (s.toList != []) = false := by rw [hz]; rfl
        have b2 : (!s.toList.isEmpty) = false := by rw [hz]; rfl
        clear he hz
        go_wp2
        go_ret
        exact ⟨by simp_all, hbw⟩
      · have hz : s.toList ≠ [] := by rw [Lib.toList_data]; exact he
        have b1 : (s.toList != []) = true := by rw [bne_iff_ne]; exact hz
        have b2 : s.toList.isEmpty = false := by
          cases h : s.toList with
          | nil => exact absurd h hz
          | cons a l => rfl
        clear he hz
        go_wp2
        go_ret
        exact ⟨by simp_all, hbw⟩

/-- `mark(line)`: the text without its colon, and whether it is a mark's. -/
def markText (l : List UInt8) : List UInt8 := Lib.trimSuffix l [58]
def markB (l : List UInt8) : Bool := Lib.hasSuffix l [58] && namedL (markText l)

set_option maxRecDepth 100000 in
theorem mark_any (s : ByteArray) (w : World) (hs : s.size ≤ 9223372036854775807) : Calls Tryz.prog 48 #[.string s] w fun e w' => e = .returned (.tuple #[.string ⟨(markText s.data.toList).toArray⟩, .bool (markB s.data.toList)]) ∧ Below w.heap.size w w' := by
  obtain ⟨t, ht⟩ : ∃ t, markText s.data.toList = t := ⟨_, rfl⟩
  have hC := fun w => Tryz.strings_CutSuffix s ⟨#[58]⟩ w hs
  have hN := fun w => named_any ⟨t.toArray⟩ w
  unfold markB
  rw [show Lib.trimSuffix s.data.toList (ByteArray.mk #[58]).data.toList = t from ht] at hC
  rw [ht]
  cases hh : Lib.hasSuffix s.data.toList [58] with
  | false =>
    rw [show Lib.hasSuffix s.data.toList (ByteArray.mk #[58]).data.toList = false from hh] at hC
    have hC := Lib.hid hC
    clear hh ht hN
    go_enter Tryz.func48, Tryz.ntmps48
    go_wp2_with (go_at_call 71; refine (hC.out _).mono ?_; rintro e w1 ⟨rfl, rfl⟩)
    go_ret2
    exact ⟨rfl, Below.refl _ _⟩
  | true =>
    rw [show Lib.hasSuffix s.data.toList (ByteArray.mk #[58]).data.toList = true from hh] at hC
    have hC := Lib.hid hC
    have hN := Lib.hid hN
    clear hh ht
    go_enter Tryz.func48, Tryz.ntmps48
    go_wp2_with (first
      | (go_at_call 71; refine (hC.out _).mono ?_; rintro e w1 ⟨rfl, rfl⟩)
      | (go_at_call 72; refine (hN.out _).mono ?_; rintro e w1 ⟨rfl, hb⟩))
    go_ret2
    exact ⟨by simp, hb⟩
end Go.Proofs.YtmklpjelfonilaaGreatDoor
