/- The leaf functions of package inst: bits, put, signed, the fields and the immediates of a word: what each returns. No conditions but the kinds' own ranges. -/
import Derived.Test.YtmklpjelfonilaaGreatDoorProg
import Derived.WalkKit
import Derived.Handy
import Derived.WalkLawsBesides
import Derived.WalkSpells
import Derived.Lib.Hide
import Derived.BigQuiet
import Derived.Deep.QuietTactic
import Derived.Laws.BitsLemmas
namespace Go.Proofs.YtmklpjelfonilaaGreatDoor
open Go.RowKit

theorem alloc_drewN (w : World) (n : Nat) (o : Obj) : (w.drewN n).alloc o = (w.alloc o).drewN n := rfl
theorem setCell_drewN (w : World) (n : Nat) (a : Addr) (v : Value) : (w.drewN n).setCell a v = (w.setCell a v).drewN n := rfl

/-- A world that has grown: new blocks behind, some draws. -/
def wext (W : World) (os : Array Obj) (d : Nat) : World := { W with heap := W.heap ++ os, drawn := d }
theorem wext_size (W : World) (os : Array Obj) (d : Nat) : (wext W os d).heap.size = W.heap.size + os.size := by simp [wext]
theorem wext_drewN (W : World) (os : Array Obj) (d n : Nat) : (wext W os d).drewN n = wext W os (d + n) := rfl
theorem wext_drew (W : World) (os : Array Obj) (d : Nat) : (wext W os d).drew = wext W os (d + 1) := rfl
theorem wext_heap (W : World) (os : Array Obj) (d : Nat) (n : Nat) (h : n < W.heap.size) : (wext W os d).heap[n]? = W.heap[n]? := by simp [wext, Array.getElem?_append, h]
theorem wext_cell (W : World) (os : Array Obj) (d : Nat) (n i : Nat) (h : n < W.heap.size) : (wext W os d).cell? ⟨n, i, none⟩ = W.cell? ⟨n, i, none⟩ := World.cell?_of_block (w := W) (wext_heap W os d n h)
theorem wext_frozen (W : World) (os : Array Obj) (d : Nat) (n i : Nat) (h : n < W.heap.size) : (wext W os d).frozen? ⟨n, i, none⟩ = W.frozen? ⟨n, i, none⟩ := World.frozen?_of_block (w := W) (wext_heap W os d n h)
theorem wext_setCell (W : World) (os : Array Obj) (d : Nat) (n i : Nat) (v : Value) (h : n < W.heap.size) : (wext W os d).setCell ⟨n, i, none⟩ v = wext (W.setCell ⟨n, i, none⟩ v) os d := by
  unfold wext World.setCell
  congr 1
  apply Array.ext_getElem?
  intro j
  simp only [Array.getElem?_modify, Array.getElem?_append, Array.size_modify]
  by_cases hj : j < W.heap.size
  · simp [hj]
  · simp [hj, show ¬ n = j from by omega]
theorem wext_of_below {W w1 : World} (hb : Below W.heap.size W w1) : ∃ os d, w1 = wext W os d := by
  refine ⟨w1.heap.extract W.heap.size w1.heap.size, w1.drawn, ?_⟩
  obtain ⟨h1, h2, h3, h4, h5⟩ := hb
  have e : w1.heap = W.heap ++ w1.heap.extract W.heap.size w1.heap.size := by
    apply Array.ext_getElem?
    intro j
    rw [Array.getElem?_append]
    by_cases hj : j < W.heap.size
    · rw [if_pos hj, h5 j hj]
    · rw [if_neg hj, Array.getElem?_extract]
      have : W.heap.size + (j - W.heap.size) = j := by omega
      rw [this]
      split
      · rfl
      · rename_i hh; rw [Array.getElem?_eq_none (by omega)]
  unfold wext
  rw [← e]
  obtain ⟨heap1, tape1, drawn1, os1, out1⟩ := w1
  dsimp only at h1 h2 h3 ⊢
  subst h1 h2 h3
  rfl
theorem below_wext {B : Nat} {a w : World} (h : Below B a w) (os : Array Obj) (d : Nat) (hB : B ≤ w.heap.size) : Below B a (wext w os d) :=
  h.trans ⟨rfl, rfl, rfl, by simp [wext], fun k hk => wext_heap _ _ _ _ (Nat.lt_of_lt_of_le hk hB)⟩
theorem quiet_l {P : Program} {f : FuncId} {args : Array Value} {w : World} {n : Nat} {v : Value}
    (h : Calls P f args (w.drewN n) fun e w' => e = .returned v ∧ w.drewN n = w') : Calls P f args (w.drewN n) fun e w'' => e = .returned v ∧ ∃ m, w'' = w.drewN m :=
  h.mono fun _ _ ⟨he, hm⟩ => ⟨he, n, hm.symm⟩
theorem quiet_d {P : Program} {f : FuncId} {args : Array Value} {w : World} {n : Nat} {v : Value}
    (h : Calls P f args (w.drewN n) fun e w' => e = .returned v ∧ ∃ m, (w.drewN n).drewN m = w') : Calls P f args (w.drewN n) fun e w'' => e = .returned v ∧ ∃ m, w'' = w.drewN m :=
  h.mono fun _ _ ⟨he, m, hm⟩ => ⟨he, n + m, by rw [← hm, World.drewN_drewN]⟩
theorem ret_int {k : IntKind} {a b : Int} (h : a = b) : Ending.returned (.int k a) = .returned (.int k b) := by rw [h]

theorem pow_le_31 {n : Nat} (h : n ≤ 31) : (2 : Int) ^ n ≤ 2147483648 := by
  have : (2 : Nat) ^ n ≤ 2 ^ 31 := Nat.pow_le_pow_right (by decide) h
  have h2 : ((2 ^ n : Nat) : Int) ≤ ((2147483648 : Nat) : Int) := Int.ofNat_le.2 this
  rw [Int.natCast_pow] at h2
  exact h2
theorem pow_le_32 {n : Nat} (h : n ≤ 32) : (2 : Int) ^ n ≤ 4294967296 := by
  have : (2 : Nat) ^ n ≤ 2 ^ 32 := Nat.pow_le_pow_right (by decide) h
  have h2 : ((2 ^ n : Nat) : Int) ≤ ((4294967296 : Nat) : Int) := Int.ofNat_le.2 this
  rw [Int.natCast_pow] at h2
  exact h2
theorem pow_pos2 (n : Nat) : (0 : Int) < 2 ^ n := by
  have : 0 < (2 : Nat) ^ n := Nat.two_pow_pos n
  exact_mod_cast this

/-- n low bits of a number. -/
def lowbits (x : Int) (n : Nat) : Int := x % 2 ^ n
theorem lowbits_range (x : Int) (n : Nat) : 0 ≤ lowbits x n ∧ lowbits x n < 2 ^ n := by
  unfold lowbits
  have := pow_pos2 n
  exact ⟨Int.emod_nonneg _ (by omega), Int.emod_lt_of_pos _ this⟩

theorem wraps_i64 (n : Int) (h₀ : 0 ≤ n) (h₁ : n < 2 ^ 63) : IntKind.i64.wrap n = n := by rw [IntKind.wrap_i64]; omega
theorem wraps_u32 (n : Int) (h₀ : 0 ≤ n) (h₁ : n < 2 ^ 32) : IntKind.u32.wrap n = n := by rw [IntKind.wrap_u32]; omega

/-- `w.bits(high, low)`. -/
def bitsOf (x hi lo : Int) : Int := lowbits (x / 2 ^ lo.toNat) (hi - lo + 1).toNat

theorem bitsOf_range (x hi lo : Int) : 0 ≤ bitsOf x hi lo ∧ bitsOf x hi lo < 2 ^ (hi - lo + 1).toNat := lowbits_range _ _

theorem mask_i64 (x : Int) (n : Nat) (h0 : 0 ≤ x) (h1 : x < 4294967296) (hn : n ≤ 32) : bits .and .i64 (wrap64 x) (wrap64 (wrap64 (2 ^ n) - 1)) = lowbits x n := by
  have hp := pow_le_32 hn
  have hq := pow_pos2 n
  have e1 : wrap64 x = x := by unfold wrap64; omega
  have e2 : wrap64 (2 ^ n) = 2 ^ n := by unfold wrap64; omega
  have e3 : wrap64 (2 ^ n - 1) = 2 ^ n - 1 := by unfold wrap64; omega
  rw [e1, e2, e3]
  exact bits_mask .i64 63 (by decide) wraps_i64 n (by omega) x h0 (by omega)

theorem mask_u32 (x : Int) (n : Nat) (hn : n ≤ 32) : bits .and .u32 (x % 4294967296) ((2 ^ n - 1) % 4294967296) = lowbits x n := by
  have hp := pow_le_32 hn
  have hq := pow_pos2 n
  have e3 : ((2 : Int) ^ n - 1) % 4294967296 = 2 ^ n - 1 := by omega
  rw [e3, bits_mask .u32 32 (by decide) wraps_u32 n (by omega) _ (by omega) (by omega)]
  unfold lowbits
  apply Int.emod_emod_of_dvd
  have : ((2 : Nat) ^ n) ∣ 2 ^ 32 := Nat.pow_dvd_pow 2 hn
  have h2 : ((2 ^ n : Nat) : Int) ∣ ((4294967296 : Nat) : Int) := Int.ofNat_dvd.2 this
  rw [Int.natCast_pow] at h2
  exact h2

set_option maxRecDepth 100000 in
theorem bits_any (x hi lo : Int) (w : World) (h0 : 0 ≤ x) (h1 : x < 4294967296) (hl : 0 ≤ lo) (h2 : lo ≤ hi) (h3 : hi ≤ 31) :
    Calls Tryz.prog 131 #[.int .u32 x, .int .i64 hi, .int .i64 lo] w fun e w' => e = .returned (.int .i64 (bitsOf x hi lo)) ∧ ∃ m, w.drewN m = w' := by
  obtain ⟨hi, rfl⟩ := Int.eq_ofNat_of_zero_le (show 0 ≤ hi by omega)
  obtain ⟨lo, rfl⟩ := Int.eq_ofNat_of_zero_le hl
  have hd : 0 ≤ x / 2 ^ lo := Int.ediv_nonneg h0 (by have := pow_pos2 lo; omega)
  have hd1 : x / 2 ^ lo ≤ x := Int.ediv_le_self _ h0
  have e : bits .and .i64 (wrap64 (x / 2 ^ lo)) (wrap64 (wrap64 (2 ^ (hi - lo + 1)) - 1)) = bitsOf x hi lo := by
    rw [mask_i64 _ _ hd (by omega) (by omega)]
    unfold bitsOf
    rw [Int.toNat_natCast, show ((hi : Int) - lo + 1).toNat = hi - lo + 1 from by omega]
  have E := Lib.hid e
  clear e hd hd1
  go_enter Tryz.func131, Tryz.ntmps131
  go_wp2
  go_quiet (fail)
  go_wp2
  go_ret
  exact ⟨ret_int E.out, nq, rfl⟩

/-- `put(v, high, low)`. -/
def putOf (v hi lo : Int) : Int := lowbits v (hi - lo + 1).toNat * 2 ^ lo.toNat

set_option maxRecDepth 100000 in
theorem put_any (v hi lo : Int) (w : World) (hl : 0 ≤ lo) (h2 : lo ≤ hi) (h3 : hi ≤ 31) :
    Calls Tryz.prog 64 #[.int .i64 v, .int .i64 hi, .int .i64 lo] w fun e w' => e = .returned (.int .u32 (putOf v hi lo)) ∧ w = w' := by
  obtain ⟨hi, rfl⟩ := Int.eq_ofNat_of_zero_le (show 0 ≤ hi by omega)
  obtain ⟨lo, rfl⟩ := Int.eq_ofNat_of_zero_le hl
  have e : bits .and .u32 (v % 4294967296) ((2 ^ (hi - lo + 1) - 1) % 4294967296) * 2 ^ lo % 4294967296 = putOf v hi lo := by
    rw [mask_u32 _ _ (by omega)]
    unfold putOf
    rw [Int.toNat_natCast, show ((hi : Int) - lo + 1).toNat = hi - lo + 1 from by omega]
    have hr := lowbits_range v (hi - lo + 1)
    have hp := pow_pos2 lo
    apply Int.emod_eq_of_lt (Int.mul_nonneg hr.1 (by omega))
    have h32 : (2 : Int) ^ (hi - lo + 1) * 2 ^ lo ≤ 4294967296 := by
      rw [← Int.pow_add]
      exact pow_le_32 (by omega)
    have := Int.mul_lt_mul_of_pos_right hr.2 hp
    omega
  have E := Lib.hid e
  clear e
  go_enter Tryz.func64, Tryz.ntmps64
  go_wp2
  go_ret
  exact ⟨ret_int E.out, rfl⟩

/-- `signed(v, bits)`. -/
def sgOf (v : Int) (n : Int) : Int := if v < 2 ^ (n.toNat - 1) then v else v - 2 ^ n.toNat

theorem sg_calc (v : Int) (n : Nat) (h0 : 0 ≤ v) (h1 : v < 2 ^ n) (hn1 : 1 ≤ n) (hn : n ≤ 32) : wrap64 (v * 2 ^ (64 - n)) / 2 ^ (64 - n) = sgOf v n := by
  unfold sgOf
  rw [Int.toNat_natCast]
  obtain ⟨m, rfl⟩ : ∃ m, n = m + 1 := ⟨n - 1, by omega⟩
  have hA := pow_pos2 (64 - (m + 1))
  have hB := pow_pos2 m
  have hAB : (2 : Int) ^ (64 - (m + 1)) * 2 ^ m = 9223372036854775808 := by
    rw [← Int.pow_add, show 64 - (m + 1) + m = 63 from by omega]; rfl
  have hB2 : (2 : Int) ^ (m + 1) = 2 * 2 ^ m := by rw [Int.pow_succ]; omega
  rw [show m + 1 - 1 = m from by omega, hB2]
  rw [hB2] at h1
  generalize (2 : Int) ^ (64 - (m + 1)) = A at *
  generalize (2 : Int) ^ m = B at *
  unfold wrap64
  split
  · rename_i hv
    have : v * A < 9223372036854775808 := by
      rw [← hAB, Int.mul_comm A B]
      exact Int.mul_lt_mul_of_pos_right hv hA
    have h00 : 0 ≤ v * A := Int.mul_nonneg h0 (by omega)
    rw [show (v * A + 9223372036854775808) % 18446744073709551616 - 9223372036854775808 = v * A from by omega]
    exact Int.mul_ediv_cancel _ (by omega)
  · rename_i hv
    have hge : 9223372036854775808 ≤ v * A := by
      rw [← hAB, Int.mul_comm A B]
      exact Int.mul_le_mul_of_nonneg_right (by omega) (by omega)
    have hlt : v * A < 18446744073709551616 := by
      have : v * A < 2 * B * A := Int.mul_lt_mul_of_pos_right h1 hA
      have : 2 * B * A = 18446744073709551616 := by rw [Int.mul_assoc, Int.mul_comm B A, hAB]; rfl
      omega
    rw [show (v * A + 9223372036854775808) % 18446744073709551616 - 9223372036854775808 = v * A - 18446744073709551616 from by omega]
    have : v * A - 18446744073709551616 = (v - 2 * B) * A := by
      rw [Int.sub_mul, Int.mul_assoc 2 B A, Int.mul_comm B A, hAB]; omega
    rw [this]
    exact Int.mul_ediv_cancel _ (by omega)

theorem wrap64_range (x : Int) : -9223372036854775808 ≤ wrap64 x ∧ wrap64 x ≤ 9223372036854775807 := by unfold wrap64; omega

set_option maxRecDepth 100000 in
theorem signed_any (v n : Int) (w : World) (h0 : 0 ≤ v) (h1 : v < 2 ^ n.toNat) (hn1 : 1 ≤ n) (hn : n ≤ 32) :
    Calls Tryz.prog 155 #[.int .i64 v, .int .i64 n] w fun e w' => e = .returned (.int .i64 (sgOf v n)) ∧ w = w' := by
  obtain ⟨n, rfl⟩ := Int.eq_ofNat_of_zero_le (show 0 ≤ n by omega)
  rw [Int.toNat_natCast] at h1
  have e := sg_calc v n h0 h1 (by omega) (by omega)
  have E := Lib.hid e
  clear e h1
  go_enter Tryz.func155, Tryz.ntmps155
  go_wp2
  go_ret
  exact ⟨ret_int E.out, rfl⟩

/-! ### The fields -/
set_option maxRecDepth 100000 in
theorem op_any (x : Int) (w : World) (h0 : 0 ≤ x) (h1 : x < 4294967296) :
    Calls Tryz.prog 95 #[.int .u32 x] w fun e w' => e = .returned (.int .i64 (bitsOf x 6 0)) ∧ ∃ m, w.drewN m = w' := by
  go_enter Tryz.func95, Tryz.ntmps95
  go_wp2_with (go_at_call 131; refine (bits_any _ _ _ _ h0 h1 (by omega) (by omega) (by omega)).mono ?_; rintro e w' ⟨rfl, m, rfl⟩)
  go_ret
  exact ⟨rfl, _, rfl⟩
set_option maxRecDepth 100000 in
theorem f3_any (x : Int) (w : World) (h0 : 0 ≤ x) (h1 : x < 4294967296) :
    Calls Tryz.prog 96 #[.int .u32 x] w fun e w' => e = .returned (.int .i64 (bitsOf x 14 12)) ∧ ∃ m, w.drewN m = w' := by
  go_enter Tryz.func96, Tryz.ntmps96
  go_wp2_with (go_at_call 131; refine (bits_any _ _ _ _ h0 h1 (by omega) (by omega) (by omega)).mono ?_; rintro e w' ⟨rfl, m, rfl⟩)
  go_ret
  exact ⟨rfl, _, rfl⟩
set_option maxRecDepth 100000 in
theorem rd_any (x : Int) (w : World) (h0 : 0 ≤ x) (h1 : x < 4294967296) :
    Calls Tryz.prog 100 #[.int .u32 x] w fun e w' => e = .returned (.int .i64 (bitsOf x 11 7)) ∧ ∃ m, w.drewN m = w' := by
  go_enter Tryz.func100, Tryz.ntmps100
  go_wp2_with (go_at_call 131; refine (bits_any _ _ _ _ h0 h1 (by omega) (by omega) (by omega)).mono ?_; rintro e w' ⟨rfl, m, rfl⟩)
  go_ret
  exact ⟨rfl, _, rfl⟩
set_option maxRecDepth 100000 in
theorem rs1_any (x : Int) (w : World) (h0 : 0 ≤ x) (h1 : x < 4294967296) :
    Calls Tryz.prog 101 #[.int .u32 x] w fun e w' => e = .returned (.int .i64 (bitsOf x 19 15)) ∧ ∃ m, w.drewN m = w' := by
  go_enter Tryz.func101, Tryz.ntmps101
  go_wp2_with (go_at_call 131; refine (bits_any _ _ _ _ h0 h1 (by omega) (by omega) (by omega)).mono ?_; rintro e w' ⟨rfl, m, rfl⟩)
  go_ret
  exact ⟨rfl, _, rfl⟩
set_option maxRecDepth 100000 in
theorem rs2_any (x : Int) (w : World) (h0 : 0 ≤ x) (h1 : x < 4294967296) :
    Calls Tryz.prog 102 #[.int .u32 x] w fun e w' => e = .returned (.int .i64 (bitsOf x 24 20)) ∧ ∃ m, w.drewN m = w' := by
  go_enter Tryz.func102, Tryz.ntmps102
  go_wp2_with (go_at_call 131; refine (bits_any _ _ _ _ h0 h1 (by omega) (by omega) (by omega)).mono ?_; rintro e w' ⟨rfl, m, rfl⟩)
  go_ret
  exact ⟨rfl, _, rfl⟩
set_option maxRecDepth 100000 in
theorem f7_any (x : Int) (w : World) (h0 : 0 ≤ x) (h1 : x < 4294967296) :
    Calls Tryz.prog 129 #[.int .u32 x] w fun e w' => e = .returned (.int .i64 (bitsOf x 31 25)) ∧ ∃ m, w.drewN m = w' := by
  go_enter Tryz.func129, Tryz.ntmps129
  go_wp2_with (go_at_call 131; refine (bits_any _ _ _ _ h0 h1 (by omega) (by omega) (by omega)).mono ?_; rintro e w' ⟨rfl, m, rfl⟩)
  go_ret
  exact ⟨rfl, _, rfl⟩

/-! ### The immediates -/
theorem or64_join (a b : Int) (k : Nat) (ha : 0 ≤ a) (hm : a % 2 ^ k = 0) (h1 : a < 9223372036854775808) (hb : 0 ≤ b) (hb2 : b < 2 ^ k) (hb3 : b < 9223372036854775808) : bits .or .i64 a b = a + b :=
  bits_join .i64 63 (by decide) wraps_i64 k a b ha hm h1 hb hb2 hb3
theorem wrap64_of (a : Int) (h0 : 0 ≤ a) (h1 : a < 9223372036854775808) : wrap64 a = a := by unfold wrap64; omega
theorem bo1 (x hi lo : Int) (h : (hi - lo + 1).toNat = 1) : 0 ≤ bitsOf x hi lo ∧ bitsOf x hi lo < 2 := by have := bitsOf_range x hi lo; rw [h] at this; exact this
theorem bo4 (x hi lo : Int) (h : (hi - lo + 1).toNat = 4) : 0 ≤ bitsOf x hi lo ∧ bitsOf x hi lo < 16 := by have := bitsOf_range x hi lo; rw [h] at this; exact this
theorem bo5 (x hi lo : Int) (h : (hi - lo + 1).toNat = 5) : 0 ≤ bitsOf x hi lo ∧ bitsOf x hi lo < 32 := by have := bitsOf_range x hi lo; rw [h] at this; exact this
theorem bo3 (x hi lo : Int) (h : (hi - lo + 1).toNat = 3) : 0 ≤ bitsOf x hi lo ∧ bitsOf x hi lo < 8 := by have := bitsOf_range x hi lo; rw [h] at this; exact this
theorem bo6 (x hi lo : Int) (h : (hi - lo + 1).toNat = 6) : 0 ≤ bitsOf x hi lo ∧ bitsOf x hi lo < 64 := by have := bitsOf_range x hi lo; rw [h] at this; exact this
theorem bo7 (x hi lo : Int) (h : (hi - lo + 1).toNat = 7) : 0 ≤ bitsOf x hi lo ∧ bitsOf x hi lo < 128 := by have := bitsOf_range x hi lo; rw [h] at this; exact this
theorem bo8 (x hi lo : Int) (h : (hi - lo + 1).toNat = 8) : 0 ≤ bitsOf x hi lo ∧ bitsOf x hi lo < 256 := by have := bitsOf_range x hi lo; rw [h] at this; exact this
theorem bo10 (x hi lo : Int) (h : (hi - lo + 1).toNat = 10) : 0 ≤ bitsOf x hi lo ∧ bitsOf x hi lo < 1024 := by have := bitsOf_range x hi lo; rw [h] at this; exact this
theorem bo12 (x hi lo : Int) (h : (hi - lo + 1).toNat = 12) : 0 ≤ bitsOf x hi lo ∧ bitsOf x hi lo < 4096 := by have := bitsOf_range x hi lo; rw [h] at this; exact this
theorem bo20 (x hi lo : Int) (h : (hi - lo + 1).toNat = 20) : 0 ≤ bitsOf x hi lo ∧ bitsOf x hi lo < 1048576 := by have := bitsOf_range x hi lo; rw [h] at this; exact this

def immIOf (x : Int) : Int := sgOf (bitsOf x 31 20) 12
def immSOf (x : Int) : Int := sgOf (bitsOf x 31 25 * 32 + bitsOf x 11 7) 12
def immUOf (x : Int) : Int := sgOf (bitsOf x 31 12 * 4096) 32
def immBOf (x : Int) : Int := sgOf (bitsOf x 31 31 * 4096 + bitsOf x 7 7 * 2048 + bitsOf x 30 25 * 32 + bitsOf x 11 8 * 2) 13
def immJOf (x : Int) : Int := sgOf (bitsOf x 31 31 * 1048576 + bitsOf x 19 12 * 4096 + bitsOf x 20 20 * 2048 + bitsOf x 30 21 * 2) 21

set_option maxRecDepth 100000 in
theorem immNone_any (x : Int) (w : World) :
    Calls Tryz.prog 137 #[.int .u32 x] w fun e w' => e = .returned (.int .i64 0) ∧ ∃ m, w.drewN m = w' := by
  go_enter Tryz.func137, Tryz.ntmps137
  go_wp2
  go_ret
  exact ⟨rfl, 0, rfl⟩

theorem signed12 (v : Int) (w : World) (h0 : 0 ≤ v) (h1 : v < 4096) :
    Calls Tryz.prog 155 #[.int .i64 v, .int .i64 12] w fun e w' => e = .returned (.int .i64 (sgOf v 12)) ∧ w = w' := signed_any v 12 w h0 h1 (by omega) (by omega)
theorem signed13 (v : Int) (w : World) (h0 : 0 ≤ v) (h1 : v < 8192) :
    Calls Tryz.prog 155 #[.int .i64 v, .int .i64 13] w fun e w' => e = .returned (.int .i64 (sgOf v 13)) ∧ w = w' := signed_any v 13 w h0 h1 (by omega) (by omega)
theorem signed21 (v : Int) (w : World) (h0 : 0 ≤ v) (h1 : v < 2097152) :
    Calls Tryz.prog 155 #[.int .i64 v, .int .i64 21] w fun e w' => e = .returned (.int .i64 (sgOf v 21)) ∧ w = w' := signed_any v 21 w h0 h1 (by omega) (by omega)
theorem signed32 (v : Int) (w : World) (h0 : 0 ≤ v) (h1 : v < 4294967296) :
    Calls Tryz.prog 155 #[.int .i64 v, .int .i64 32] w fun e w' => e = .returned (.int .i64 (sgOf v 32)) ∧ w = w' := signed_any v 32 w h0 h1 (by omega) (by omega)
set_option maxRecDepth 100000 in
theorem immI_any (x : Int) (w : World) (h0 : 0 ≤ x) (h1 : x < 4294967296) :
    Calls Tryz.prog 134 #[.int .u32 x] w fun e w' => e = .returned (.int .i64 (immIOf x)) ∧ ∃ m, w.drewN m = w' := by
  have r0 := bo12 x 31 20 rfl
  go_enter Tryz.func134, Tryz.ntmps134
  go_wp2_with (first
    | (go_at_call 131; refine (bits_any _ _ _ _ h0 h1 (by omega) (by omega) (by omega)).mono ?_; rintro e w' ⟨rfl, m, rfl⟩)
    | (go_at_call 129; refine (f7_any _ _ h0 h1).mono ?_; rintro e w' ⟨rfl, m, rfl⟩)
    | (go_at_call 100; refine (rd_any _ _ h0 h1).mono ?_; rintro e w' ⟨rfl, m, rfl⟩)
    | (go_at_call 155; refine (signed12 _ _ (by omega) (by omega)).mono ?_; rintro e w' ⟨rfl, rfl⟩))
  go_ret
  exact ⟨rfl, _, rfl⟩
set_option maxRecDepth 100000 in
theorem immU_any (x : Int) (w : World) (h0 : 0 ≤ x) (h1 : x < 4294967296) :
    Calls Tryz.prog 132 #[.int .u32 x] w fun e w' => e = .returned (.int .i64 (immUOf x)) ∧ ∃ m, w.drewN m = w' := by
  have r0 := bo20 x 31 12 rfl
  go_enter Tryz.func132, Tryz.ntmps132
  go_wp2_with (first
    | (go_at_call 131; refine (bits_any _ _ _ _ h0 h1 (by omega) (by omega) (by omega)).mono ?_; rintro e w' ⟨rfl, m, rfl⟩)
    | (go_at_call 129; refine (f7_any _ _ h0 h1).mono ?_; rintro e w' ⟨rfl, m, rfl⟩)
    | (go_at_call 100; refine (rd_any _ _ h0 h1).mono ?_; rintro e w' ⟨rfl, m, rfl⟩)
    | (go_at_call 155; refine (signed32 _ _ (by omega) (by omega)).mono ?_; rintro e w' ⟨rfl, rfl⟩))
  go_ret
  exact ⟨rfl, _, rfl⟩
theorem or_imm_s (a b : Int) (h1 : 0 ≤ a ∧ a < 128) (h2 : 0 ≤ b ∧ b < 32) : bits .or .i64 (a * 32) b = a * 32 + b :=
  or64_join _ _ 5 (by omega) (by omega) (by omega) (by omega) (by omega) (by omega)
theorem or_imm_b (a b c d : Int) (h1 : 0 ≤ a ∧ a < 2) (h2 : 0 ≤ b ∧ b < 2) (h3 : 0 ≤ c ∧ c < 64) (h4 : 0 ≤ d ∧ d < 16) :
    bits .or .i64 (bits .or .i64 (bits .or .i64 (a * 4096) (b * 2048)) (c * 32)) (d * 2) = a * 4096 + b * 2048 + c * 32 + d * 2 := by
  rw [or64_join (a * 4096) (b * 2048) 12 (by omega) (by omega) (by omega) (by omega) (by omega) (by omega), or64_join _ (c * 32) 11 (by omega) (by omega) (by omega) (by omega) (by omega) (by omega), or64_join _ (d * 2) 5 (by omega) (by omega) (by omega) (by omega) (by omega) (by omega)]
theorem or_imm_j (a b c d : Int) (h1 : 0 ≤ a ∧ a < 2) (h2 : 0 ≤ b ∧ b < 256) (h3 : 0 ≤ c ∧ c < 2) (h4 : 0 ≤ d ∧ d < 1024) :
    bits .or .i64 (bits .or .i64 (bits .or .i64 (a * 1048576) (b * 4096)) (c * 2048)) (d * 2) = a * 1048576 + b * 4096 + c * 2048 + d * 2 := by
  rw [or64_join (a * 1048576) (b * 4096) 20 (by omega) (by omega) (by omega) (by omega) (by omega) (by omega), or64_join _ (c * 2048) 12 (by omega) (by omega) (by omega) (by omega) (by omega) (by omega), or64_join _ (d * 2) 11 (by omega) (by omega) (by omega) (by omega) (by omega) (by omega)]
set_option maxRecDepth 100000 in
theorem immS_any (x : Int) (w : World) (h0 : 0 ≤ x) (h1 : x < 4294967296) :
    Calls Tryz.prog 136 #[.int .u32 x] w fun e w' => e = .returned (.int .i64 (immSOf x)) ∧ ∃ m, w.drewN m = w' := by
  have r0 := bo7 x 31 25 rfl
  have r1 := bo5 x 11 7 rfl
  have E := Lib.hid (or_imm_s _ _ r0 r1)
  go_enter Tryz.func136, Tryz.ntmps136
  go_wp2_with (first
    | (go_at_call 131; refine (bits_any _ _ _ _ h0 h1 (by omega) (by omega) (by omega)).mono ?_; rintro e w' ⟨rfl, m, rfl⟩)
    | (go_at_call 129; refine (f7_any _ _ h0 h1).mono ?_; rintro e w' ⟨rfl, m, rfl⟩)
    | (go_at_call 100; refine (rd_any _ _ h0 h1).mono ?_; rintro e w' ⟨rfl, m, rfl⟩)
    | (go_at_call 155; rw [E.out]; refine (signed12 _ _ (by omega) (by omega)).mono ?_; rintro e w' ⟨rfl, rfl⟩))
  go_ret
  exact ⟨rfl, _, rfl⟩
set_option maxRecDepth 100000 in
theorem immB_any (x : Int) (w : World) (h0 : 0 ≤ x) (h1 : x < 4294967296) :
    Calls Tryz.prog 135 #[.int .u32 x] w fun e w' => e = .returned (.int .i64 (immBOf x)) ∧ ∃ m, w.drewN m = w' := by
  have r0 := bo1 x 31 31 rfl
  have r1 := bo1 x 7 7 rfl
  have r2 := bo6 x 30 25 rfl
  have r3 := bo4 x 11 8 rfl
  have E := Lib.hid (or_imm_b _ _ _ _ r0 r1 r2 r3)
  go_enter Tryz.func135, Tryz.ntmps135
  go_wp2_with (first
    | (go_at_call 131; refine (bits_any _ _ _ _ h0 h1 (by omega) (by omega) (by omega)).mono ?_; rintro e w' ⟨rfl, m, rfl⟩)
    | (go_at_call 129; refine (f7_any _ _ h0 h1).mono ?_; rintro e w' ⟨rfl, m, rfl⟩)
    | (go_at_call 100; refine (rd_any _ _ h0 h1).mono ?_; rintro e w' ⟨rfl, m, rfl⟩)
    | (go_at_call 155; rw [E.out]; refine (signed13 _ _ (by omega) (by omega)).mono ?_; rintro e w' ⟨rfl, rfl⟩))
  go_ret
  exact ⟨rfl, _, rfl⟩
set_option maxRecDepth 100000 in
theorem immJ_any (x : Int) (w : World) (h0 : 0 ≤ x) (h1 : x < 4294967296) :
    Calls Tryz.prog 133 #[.int .u32 x] w fun e w' => e = .returned (.int .i64 (immJOf x)) ∧ ∃ m, w.drewN m = w' := by
  have r0 := bo1 x 31 31 rfl
  have r1 := bo8 x 19 12 rfl
  have r2 := bo1 x 20 20 rfl
  have r3 := bo10 x 30 21 rfl
  have E := Lib.hid (or_imm_j _ _ _ _ r0 r1 r2 r3)
  go_enter Tryz.func133, Tryz.ntmps133
  go_wp2_with (first
    | (go_at_call 131; refine (bits_any _ _ _ _ h0 h1 (by omega) (by omega) (by omega)).mono ?_; rintro e w' ⟨rfl, m, rfl⟩)
    | (go_at_call 129; refine (f7_any _ _ h0 h1).mono ?_; rintro e w' ⟨rfl, m, rfl⟩)
    | (go_at_call 100; refine (rd_any _ _ h0 h1).mono ?_; rintro e w' ⟨rfl, m, rfl⟩)
    | (go_at_call 155; rw [E.out]; refine (signed21 _ _ (by omega) (by omega)).mono ?_; rintro e w' ⟨rfl, rfl⟩))
  go_ret
  exact ⟨rfl, _, rfl⟩
end Go.Proofs.YtmklpjelfonilaaGreatDoor
