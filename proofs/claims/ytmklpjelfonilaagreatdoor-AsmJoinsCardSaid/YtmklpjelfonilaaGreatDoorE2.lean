/- Package asm: all: instructions of each name, without arguments. -/
import Derived.Test.YtmklpjelfonilaaGreatDoorE1
namespace Go.Proofs.YtmklpjelfonilaaGreatDoor
open Go.RowKit
attribute [local go_sem] alloc_drewN setCell_drewN wext_size wext_drewN wext_drew wext_setCell wext_cell wext_frozen wext_wext lt_e1 lt_e2 lt_e3 lt_e4 lt_e5 lt_e6
set_option linter.unusedVariables false
set_option linter.unusedSimpArgs false

theorem infoInst : (Tryz.prog.info? 23).map (fun i => (i.zero, i.size, i.bytes)) = some (some (.agg #[.int .i64 0, .int .i64 0, .int .i64 0, .int .i64 0, .int .i64 0, .int .i64 0, .int .i64 0, .bool false]), 8, 64) := by kernel_rfl

def Ins.cells (i : Ins) : List Value := [.int .i64 i.kind, .int .i64 i.fn, .int .i64 i.rd, .int .i64 i.rs1, .int .i64 i.rs2, .int .i64 i.imm, .int .i64 i.size, .bool i.signed]
def sizesL (kind fn : Int) : List Int → List Ins
  | [] => []
  | z :: l => ⟨kind, fn, 0, 0, 0, 0, z, false⟩ :: ⟨kind, fn, 0, 0, 0, 0, z, true⟩ :: sizesL kind fn l
def sizes5 : List Int := [0, 1, 2, 4, 8]
def fnsL (kind : Int) : Nat → Nat → List Ins
  | 0, _ => []
  | n + 1, fn => sizesL kind fn sizes5 ++ fnsL kind n (fn + 1)
def kindsL : Nat → Nat → List Ins
  | 0, _ => []
  | n + 1, kind => fnsL kind 29 0 ++ kindsL n (kind + 1)
def allIns : List Ins := kindsL 20 1

theorem cells_length (l : List Ins) : (l.flatMap Ins.cells).length = l.length * 8 := by
  induction l with
  | nil => rfl
  | cons a l ih => simp [List.flatMap_cons, Ins.cells] at *; omega

theorem wpApp2 {ops : Array Oper} {rest : List Oper} {o : Oper} {a : Act} {Q : Exit → Act → World → Prop} {w : World} (hgd : o.guard = none) (s x : Operand)
    (ho : o.op = .call { callee := .builtin .append, args := #[s, x], argTypes := #[41, 41] }) (B : Nat) (v : Value) (acc : List Ins) (hs : a.eval s = v) (hown : w.ownsRowF B 23 8 v acc.length (acc.flatMap Ins.cells)) (i j : Ins)
    (hx : a.eval x = .slice (some ⟨w.heap.size, 0, none⟩) 2 2) (hlen : acc.length ≤ 1000000) (hB : B ≤ w.heap.size)
    (h : ∀ v' w', w'.ownsRowF B 23 8 v' (acc ++ [i, j]).length ((acc ++ [i, j]).flatMap Ins.cells) → (w.alloc (.cells (i.cells ++ j.cells).toArray 23)).grownBy w' v.ownBlock → wpList Tryz.prog ops Q rest (a.put o.dst v') w') :
    wpList Tryz.prog ops Q (o :: rest) a (w.alloc (.cells (i.cells ++ j.cells).toArray 23)) := by
  obtain ⟨i0, hi, hz0, hz1, hz2⟩ := info_parts infoInst
  refine wpList_append_ownF _ hgd s x 41 ho B 23 i0 _ 8 64 Tryz.underlying41 hi hz0 hz1 hz2 rfl (by decide) v acc.length _ hs (hown.alloc _) ⟨w.heap.size, 0, none⟩ 2 2 (i.cells ++ j.cells) hx rfl ?c1 ?c2 ?c3 ?c4 ?c5 ?c6
  case c1 =>
    intro k u hk
    rw [show (⟨w.heap.size, 0, none⟩ : Addr).add k = ⟨w.heap.size, k, none⟩ from by unfold Addr.add; split <;> simp_all]
    rw [Lib.cell_of_heap (heap_alloc_new _ _)]
    simpa using hk
  case c2 => intro u hu; simp [Ins.cells] at hu; rcases hu with h | h | h | h | h | h | h | h | h | h | h | h | h | h | h | h <;> subst h <;> rfl
  case c3 => unfold maxLen; omega
  case c4 => omega
  case c5 => simp; omega
  case c6 =>
    intro v' w2 h1 h2 _
    exact h v' w2 (by simpa [List.flatMap_append] using h1) h2

theorem own_other {w : World} {B : Nat} {e : TypeId} {size : Nat} {v : Value} {n : Nat} {xs : List Value} (hO : w.ownsRowF B e size v n xs) {sb : Nat} {c : Array Value} {t : TypeId} {fz : Nat × Nat} (hs : w.heap[sb]? = some (.cells c t fz)) (ht : t ≠ e) : some sb ≠ v.ownBlock := by
  intro h
  rcases hO.2 with ⟨rfl, _⟩ | ⟨g, cap, cur, fz', rfl, hbg, hg, _⟩
  · simp [Value.ownBlock] at h
  · simp [Value.ownBlock] at h
    subst h
    rw [hs] at hg
    injection hg with hg
    injection hg with h1 h2 h3
    exact ht h2

theorem sizes_get (k : Nat) (hk : k < 5) : sizes5[k]? = some (sizes5.getD k 0) := by
  have h0 : k = 0 ∨ k = 1 ∨ k = 2 ∨ k = 3 ∨ k = 4 := by omega
  rcases h0 with rfl | rfl | rfl | rfl | rfl <;> rfl
theorem sizes_drop (k : Nat) (hk : k < 5) : sizes5.drop k = sizes5.getD k 0 :: sizes5.drop (k + 1) := by
  have h0 : k = 0 ∨ k = 1 ∨ k = 2 ∨ k = 3 ∨ k = 4 := by omega
  rcases h0 with rfl | rfl | rfl | rfl | rfl <;> rfl

set_option maxHeartbeats 6400000 in
set_option maxRecDepth 1000000 in
theorem all_any (w : World) :
    Calls Tryz.prog 39 #[] w fun e w' => ∃ v, e = .returned v ∧ w'.ownsRowF w.heap.size 23 8 v allIns.length (allIns.flatMap Ins.cells) ∧ Below w.heap.size w w' := by
  go_enter Tryz.func39, Tryz.ntmps39
  go_wp2
  go_loopw [1, 2] (fun v1 v2 wr => ∃ (k : Nat) (acc : List Ins), k ≤ 20 ∧ v2 = .int .i64 ((k + 1 : Nat) : Int) ∧ wr.ownsRowF w.heap.size 23 8 v1 acc.length (acc.flatMap Ins.cells) ∧ Below w.heap.size w wr ∧ Hid (acc ++ kindsL (20 - k) (k + 1) = allIns) ∧ acc.length = 290 * k) (fun v1 v2 wr => 21 - (intOf v2).toNat)
  case atStart => exact ⟨0, [], by omega, rfl, ⟨rfl, .inl ⟨rfl, rfl⟩⟩, Below.refl _ _, Lib.hid rfl, rfl⟩
  case round =>
    obtain ⟨k, acc, hk, rfl, hO, hbw, HA, hal⟩ := hrel
    by_cases hkt : k < 20
    · obtain ⟨q, hq⟩ : ∃ q : Int, ((k + 1 : Nat) : Int) = q := ⟨_, rfl⟩
      rw [hq]
      have hd : decide (q ≤ 20) = true := decide_eq_true (by omega)
      go_wp2
      go_loopw [1, 3] (fun v1 v3 wr => ∃ (f : Nat) (acc : List Ins), f ≤ 29 ∧ v3 = .int .i64 (f : Int) ∧ wr.ownsRowF w.heap.size 23 8 v1 acc.length (acc.flatMap Ins.cells) ∧ Below w.heap.size w wr ∧ Hid (acc ++ (fnsL q (29 - f) f ++ kindsL (20 - (k + 1)) (k + 2)) = allIns) ∧ acc.length = 290 * k + 10 * f) (fun v1 v3 wr => 29 - (intOf v3).toNat)
      case atStart =>
        refine ⟨0, acc, by omega, rfl, hO, hbw, Lib.hid ?_, by omega⟩
        rw [← HA.out, ← hq, show 20 - k = (20 - (k + 1)) + 1 from by omega]
        rfl
      case round =>
        clear HA hO hbw hal
        obtain ⟨f, acc, hf, rfl, hO, hbw, HA, hal⟩ := hrel
        by_cases hft : f < 29
        · have hd2 : decide ((f : Int) ≤ 28) = true := decide_eq_true (by omega)
          have hbs := hbw.size
          obtain ⟨W2, hW2⟩ : ∃ W2, W2 = wr := ⟨_, rfl⟩
          subst hW2
          go_wp2
          go_loopw [1, 16] (fun v1 v16 wq => ∃ (j : Nat) (acc : List Ins), j ≤ 5 ∧ v16 = .int .i64 (j : Int) ∧ wq.ownsRowF w.heap.size 23 8 v1 acc.length (acc.flatMap Ins.cells) ∧ wq.heap[W2.heap.size]? = some (.cells (sizes5.map (Value.int .i64)).toArray 3 (0, 0)) ∧ Below w.heap.size w wq ∧ Hid (acc ++ (sizesL q f (sizes5.drop j) ++ (fnsL q (29 - (f + 1)) (f + 1) ++ kindsL (20 - (k + 1)) (k + 2))) = allIns) ∧ acc.length = 290 * k + 10 * f + 2 * j) (fun v1 v16 wq => 5 - (intOf v16).toNat)
          case atStart =>
            refine ⟨0, acc, by omega, rfl, hO.alloc _, heap_alloc_new _ _, hbw.alloc hbs _, Lib.hid ?_, by omega⟩
            rw [← HA.out, show 29 - f = (29 - (f + 1)) + 1 from by omega]
            simp only [fnsL, List.drop_zero, List.append_assoc]
          case round =>
            clear HA hO hbw hal
            obtain ⟨j, acc, hj, rfl, hO, hsb, hbw, HA, hal⟩ := hrel
            have hbs2 := hbw.size
            have hlt : W2.heap.size < wr.heap.size := (Array.getElem?_eq_some_iff.1 hsb).1
            by_cases hjt : j < 5
            · have hd3 : decide ((j : Int) < 5) = true := decide_eq_true (by omega)
              obtain ⟨z, hz⟩ : ∃ z, sizes5.getD j 0 = z := ⟨_, rfl⟩
              have gz := lcell hsb j z (by rw [sizes_get j hjt, hz])
              have HA2 := Lib.hid (show (acc ++ [⟨q, f, 0, 0, 0, 0, z, false⟩, ⟨q, f, 0, 0, 0, 0, z, true⟩]) ++ (sizesL q f (sizes5.drop (j + 1)) ++ (fnsL q (29 - (f + 1)) (f + 1) ++ kindsL (20 - (k + 1)) (k + 2))) = allIns by
                rw [← HA.out, sizes_drop j hjt, hz, sizesL]; simp)
              clear HA hz
              go_wp2_with (at_builtin; refine wpApp2 rfl _ _ rfl w.heap.size _ acc rfl hO ⟨q, f, 0, 0, 0, 0, z, false⟩ ⟨q, f, 0, 0, 0, 0, z, true⟩ rfl (by omega) (by omega) ?_; intro v' w2 hown' hgrow)
              have hsb2 : w2.heap[W2.heap.size]? = some (.cells (sizes5.map (Value.int .i64)).toArray 3 (0, 0)) := by
                rw [hgrow.block W2.heap.size (by simp; omega) (own_other hO hsb (by decide)), Lib.alloc_old _ _ _ hlt]
                exact hsb
              have hbw3 : Below w.heap.size w w2 := (hbw.alloc (by omega) _).grown hgrow (by simp; omega) (fun k hk => (hO.lt k hk).1)
              go_wp2
              go_roundw
              case rel => exact ⟨j + 1, _, by omega, by go_num, hown', hsb2, hbw3, HA2, by simp; omega⟩
              case measure => simp [intOf]; omega
            · have hj5 : j = 5 := by omega
              subst hj5
              have HA2 := Lib.hid (show acc ++ (fnsL q (29 - (f + 1)) (f + 1) ++ kindsL (20 - (k + 1)) (k + 2)) = allIns from HA.out)
              clear HA
              go_wp2
              go_roundw
              case rel => exact ⟨f + 1, acc, by omega, by go_num, hO, hbw, HA2, by omega⟩
              case measure => simp [intOf]; omega
        · have hf29 : f = 29 := by omega
          subst hf29
          have HA2 := Lib.hid (show acc ++ kindsL (20 - (k + 1)) (k + 1 + 1) = allIns from HA.out)
          clear HA
          go_wp2
          go_roundw
          case rel => exact ⟨k + 1, acc, by omega, by rw [← hq]; go_num, hO, hbw, HA2, by omega⟩
          case measure => simp [intOf]; omega
    · have hk20 : k = 20 := by omega
      subst hk20
      have HF := Lib.hid (show acc = allIns from by have := HA.out; simpa [kindsL] using this)
      clear HA
      go_wp2
      go_ret
      rw [← HF.out]
      exact ⟨_, rfl, hO, hbw⟩
end Go.Proofs.YtmklpjelfonilaaGreatDoor
