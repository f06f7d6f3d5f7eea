/- SameBytes; Assemble: lines as bytes. -/
import Derived.Test.YtmklpjelfonilaaGreatDoorG3
namespace Go.Proofs.YtmklpjelfonilaaGreatDoor
open Go.RowKit
attribute [local go_sem] alloc_drewN setCell_drewN wext_size wext_drewN wext_drew wext_setCell wext_cell wext_frozen wext_wext lt_e1 lt_e2 lt_e3 lt_e4 lt_e5 lt_e6
set_option linter.unusedVariables false
set_option linter.unusedSimpArgs false

/-- A value that is a slice of bytes. -/
def BytSl (w : World) (v : Value) (xs : List Int) : Prop :=
  ∃ ao c, v = .slice ao xs.length c ∧ (xs = [] ∨ ∃ g o, ao = some ⟨g, o, none⟩ ∧ g < w.heap.size ∧ ∀ j x, xs[j]? = some x → w.cell? ⟨g, o + j, none⟩ = some (.int .u8 x))
theorem BytSl.below {w w' : World} {v : Value} {xs : List Int} (h : BytSl w v xs) (hb : Below w.heap.size w w') : BytSl w' v xs := by
  obtain ⟨ao, c, e, h⟩ := h
  refine ⟨ao, c, e, ?_⟩
  rcases h with h | ⟨g, o, e1, h1, h2⟩
  · exact .inl h
  · exact .inr ⟨g, o, e1, Nat.lt_of_lt_of_le h1 hb.size, fun j x hj => (hb.cell (p := ⟨g, o + j, none⟩) h1).trans (h2 j x hj)⟩
theorem row_viewB {w : World} {B : Nat} {e : TypeId} {size : Nat} {v : Value} {n : Nat} {xs : List Value} (h : w.ownsRowF B e size v n xs) :
    (v = .slice none 0 0 ∧ n = 0) ∨ ∃ g cap, v = .slice (some ⟨g, 0, none⟩) n cap ∧ B ≤ g ∧ g < w.heap.size ∧ ∀ j u, xs[j]? = some u → w.cell? ⟨g, j, none⟩ = some u := by
  have hc := @World.ownsRowF.cells _ _ _ _ _ _ _ h
  rcases h.2 with hn | ⟨g, cap, cur, fz, hv, hb, hg, _⟩
  · exact .inl hn
  · refine .inr ⟨g, cap, hv, hb, (Array.getElem?_eq_some_iff.1 hg).1, ?_⟩
    intro j u hj
    have := hc (g := g) (by rw [hv]; rfl) j u hj
    rw [show ((⟨g, 0, none⟩ : Addr).add j) = ⟨g, j, none⟩ from by unfold Addr.add; split <;> simp_all] at this
    exact this
theorem BytSl.of_own {w : World} {B : Nat} {v : Value} {xs : List Int} (h : w.ownsRowF B 5 1 v xs.length (xs.map (Value.int .u8))) : BytSl w v xs := by
  rcases row_viewB h with ⟨rfl, h0⟩ | ⟨g, cap, rfl, _, h1, hc⟩
  · have : xs = [] := List.eq_nil_of_length_eq_zero h0
    subst this
    exact ⟨none, 0, rfl, .inl rfl⟩
  · exact ⟨_, cap, rfl, .inr ⟨g, 0, rfl, h1, fun j x hj => by rw [Nat.zero_add]; exact hc j _ (by simp [hj])⟩⟩

theorem drewN_below (w : World) (n : Nat) : Below w.heap.size w (w.drewN n) := below_drewN (Below.refl _ _) n

set_option maxRecDepth 100000 in
set_option maxHeartbeats 1600000 in
theorem SameBytes_any (a b : Value) (xs ys : List Int) (w : World) (ha : BytSl w a xs) (hb : BytSl w b ys) (hx : xs.length ≤ 1099511627776) (hy : ys.length ≤ 1099511627776) :
    Calls Tryz.prog 20 #[a, b] w fun e w' => e = .returned (.bool (decide (xs = ys))) ∧ Below w.heap.size w w' := by
  obtain ⟨ao, ca, rfl, ha⟩ := ha
  obtain ⟨bo, cb, rfl, hb⟩ := hb
  obtain ⟨R, hR⟩ : ∃ R, decide (xs = ys) = R := ⟨_, rfl⟩
  rw [hR]
  have HR := Lib.hid hR
  have HA := Lib.hid ha
  have HB := Lib.hid hb
  clear hR ha hb
  by_cases hl : xs.length = ys.length
  · have hne : ((xs.length : Int) != (ys.length : Int)) = false := by rw [bne_eq_false_iff_eq]; omega
    go_enter Tryz.func20, Tryz.ntmps20
    go_wp2
    go_loopw [5] (fun v5 wr => ∃ k : Nat, k ≤ xs.length ∧ v5 = .int .i64 (k : Int) ∧ (∃ m, wr = w.drewN m) ∧ Hid (decide (xs.drop k = ys.drop k) = R)) (fun v5 wr => xs.length - (intOf v5).toNat)
    case atStart => exact ⟨0, by omega, rfl, ⟨0, rfl⟩, Lib.hid (by simpa using HR.out)⟩
    case round =>
      obtain ⟨k, hk, rfl, ⟨m, rfl⟩, HK⟩ := hrel
      by_cases hkl : k < xs.length
      · have hky : k < ys.length := by omega
        obtain ⟨x, hx1⟩ : ∃ x, xs[k]'hkl = x := ⟨_, rfl⟩
        obtain ⟨y, hy1⟩ : ∃ y, ys[k]'hky = y := ⟨_, rfl⟩
        have hgx : xs[k]? = some x := by rw [List.getElem?_eq_getElem hkl, hx1]
        have hgy : ys[k]? = some y := by rw [List.getElem?_eq_getElem hky, hy1]
        have HK2 : decide (x :: xs.drop (k + 1) = y :: ys.drop (k + 1)) = R := by
          rw [← HK.out, List.drop_eq_getElem_cons hkl, List.drop_eq_getElem_cons hky, hx1, hy1]
        obtain ⟨ga, oa, rfl, hca⟩ : ∃ g o, ao = some ⟨g, o, none⟩ ∧ w.cell? ⟨g, o + k, none⟩ = some (.int .u8 x) := by
          rcases HA.out with h | ⟨g, o, e1, _, h2⟩
          · rw [h] at hkl; simp at hkl
          · exact ⟨g, o, e1, h2 k x hgx⟩
        obtain ⟨gb, ob, rfl, hcb⟩ : ∃ g o, bo = some ⟨g, o, none⟩ ∧ w.cell? ⟨g, o + k, none⟩ = some (.int .u8 y) := by
          rcases HB.out with h | ⟨g, o, e1, _, h2⟩
          · rw [h] at hky; simp at hky
          · exact ⟨g, o, e1, h2 k y hgy⟩
        have hd : decide ((k : Int) < (xs.length : Int)) = true := decide_eq_true (by omega)
        have hd1 : decide (k < xs.length) = true := decide_eq_true hkl
        have hd2 : decide (k < ys.length) = true := decide_eq_true hky
        clear hx1 hy1 hgx hgy HK
        by_cases hxy : x = y
        · subst hxy
          have hb : (x != x) = false := by simp
          have HK3 := Lib.hid (show decide (xs.drop (k + 1) = ys.drop (k + 1)) = R by rw [← HK2]; simp)
          clear HK2
          go_wp2
          go_quiet (fail)
          go_wp2
          go_roundw
          case rel => exact ⟨k + 1, by omega, by go_num, ⟨_, rfl⟩, HK3⟩
          case measure => simp [intOf]; omega
        · have hb : (x != y) = true := by rw [bne_iff_ne]; exact hxy
          have HK3 : false = R := by rw [← HK2]; simp [hxy]
          subst HK3
          clear HK2 hxy
          go_wp2
          go_quiet (fail)
          go_wp2
          go_ret
          exact ⟨rfl, below_drewN (drewN_below _ _) _⟩
      · have hkk : k = xs.length := by omega
        subst hkk
        have HK3 : true = R := by rw [← HK.out, List.drop_length, hl, List.drop_length]; rfl
        subst HK3
        clear HK
        go_wp2
        go_ret
        exact ⟨rfl, drewN_below _ _⟩
  · have hne : ((xs.length : Int) != (ys.length : Int)) = true := by rw [bne_iff_ne]; omega
    have HF : false = R := by rw [← HR.out]; symm; rw [decide_eq_false_iff_not]; intro e; exact hl (by rw [e])
    subst HF
    go_enter Tryz.func20, Tryz.ntmps20
    go_wp2
    go_ret
    exact ⟨rfl, Below.refl _ _⟩
end Go.Proofs.YtmklpjelfonilaaGreatDoor
