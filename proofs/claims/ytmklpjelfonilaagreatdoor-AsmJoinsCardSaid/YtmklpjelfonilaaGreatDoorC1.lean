/- Package asm: the names: of, operations, immediate. -/
import Derived.Test.YtmklpjelfonilaaGreatDoorA12
import Derived.Test.YtmklpjelfonilaaGreatDoorB1
import Derived.Deep.WholeRow
namespace Go.Proofs.YtmklpjelfonilaaGreatDoor
open Go.RowKit
attribute [local go_sem] alloc_drewN setCell_drewN wext_size wext_drewN wext_drew wext_setCell wext_cell wext_frozen wext_wext
set_option linter.unusedVariables false
set_option linter.unusedSimpArgs false

/-- The element of a row of names; empty: there is none. -/
def nameAt (ns : List ByteArray) (x : Int) : ByteArray := if x < 0 then ⟨#[]⟩ else ns.getD x.toNat ⟨#[]⟩

theorem cell_of_strings {w : World} {b : Nat} {ns : List ByteArray} {t : TypeId} {fz : Nat × Nat} (h : w.heap[b]? = some (.cells (ns.map Value.string).toArray t fz)) (j : Nat) (hj : j < ns.length) :
    w.cell? ⟨b, j, none⟩ = some (.string (ns.getD j ⟨#[]⟩)) := by
  rw [Lib.cell_of_heap h]
  simp [hj]

set_option maxRecDepth 100000 in
theorem of_blk (b c : Nat) (ns : List ByteArray) (x : Int) (w : World) {t : TypeId} {fz : Nat × Nat} (h : w.heap[b]? = some (.cells (ns.map Value.string).toArray t fz)) (hn : ns.length ≤ 1000) :
    Calls Tryz.prog 57 #[.int .i64 x, .slice (some ⟨b, 0, none⟩) ns.length c] w fun e w' => e = .returned (.string (nameAt ns x)) ∧ w = w' := by
  by_cases h0 : x < 0
  · have h1 : decide (x < 0) = true := decide_eq_true h0
    unfold nameAt
    rw [if_pos h0]
    clear h0
    go_enter Tryz.func57, Tryz.ntmps57
    go_wp2
    go_ret
    exact ⟨rfl, rfl⟩
  · have h1 : decide (x < 0) = false := decide_eq_false h0
    unfold nameAt
    rw [if_neg h0]
    by_cases h2 : (ns.length : Int) ≤ x
    · have h3 : decide ((ns.length : Int) ≤ x) = true := decide_eq_true h2
      rw [show ns.getD x.toNat ⟨#[]⟩ = ⟨#[]⟩ from by rw [List.getD_eq_getElem?_getD, List.getElem?_eq_none (by omega)]; rfl]
      clear h2 h0
      go_enter Tryz.func57, Tryz.ntmps57
      go_wp2
      go_ret
      exact ⟨rfl, rfl⟩
    · have h3 : decide ((ns.length : Int) ≤ x) = false := decide_eq_false h2
      obtain ⟨k, rfl⟩ : ∃ k : Nat, x = k := ⟨x.toNat, by omega⟩
      have hk : k < ns.length := by omega
      have hc := cell_of_strings h k hk
      rw [show (k : Int).toNat = k from by omega]
      go_enter Tryz.func57, Tryz.ntmps57
      go_wp2
      go_ret
      exact ⟨rfl, rfl⟩

def nm_br : List ByteArray := [⟨#[]⟩, ⟨#[98, 101, 113]⟩, ⟨#[98, 110, 101]⟩, ⟨#[98, 108, 116]⟩, ⟨#[98, 103, 101]⟩, ⟨#[98, 108, 116, 117]⟩, ⟨#[98, 103, 101, 117]⟩]
def nm_ldU : List ByteArray := [⟨#[]⟩, ⟨#[108, 98, 117]⟩, ⟨#[108, 104, 117]⟩, ⟨#[]⟩, ⟨#[108, 119, 117]⟩]
def nm_ldS : List ByteArray := [⟨#[]⟩, ⟨#[108, 98]⟩, ⟨#[108, 104]⟩, ⟨#[]⟩, ⟨#[108, 119]⟩, ⟨#[]⟩, ⟨#[]⟩, ⟨#[]⟩, ⟨#[108, 100]⟩]
def nm_st : List ByteArray := [⟨#[]⟩, ⟨#[115, 98]⟩, ⟨#[115, 104]⟩, ⟨#[]⟩, ⟨#[115, 119]⟩, ⟨#[]⟩, ⟨#[]⟩, ⟨#[]⟩, ⟨#[115, 100]⟩]
def nm_csr : List ByteArray := [⟨#[]⟩, ⟨#[99, 115, 114, 114, 119]⟩, ⟨#[99, 115, 114, 114, 115]⟩, ⟨#[99, 115, 114, 114, 99]⟩]
def nm_csri : List ByteArray := [⟨#[]⟩, ⟨#[99, 115, 114, 114, 119, 105]⟩, ⟨#[99, 115, 114, 114, 115, 105]⟩, ⟨#[99, 115, 114, 114, 99, 105]⟩]
def nm_amo : List ByteArray := [⟨#[]⟩, ⟨#[97, 109, 111, 115, 119, 97, 112]⟩, ⟨#[97, 109, 111, 97, 100, 100]⟩, ⟨#[97, 109, 111, 120, 111, 114]⟩, ⟨#[97, 109, 111, 97, 110, 100]⟩, ⟨#[97, 109, 111, 111, 114]⟩, ⟨#[97, 109, 111, 109, 105, 110]⟩, ⟨#[97, 109, 111, 109, 97, 120]⟩, ⟨#[97, 109, 111, 109, 105, 110, 117]⟩, ⟨#[97, 109, 111, 109, 97, 120, 117]⟩]
def nm_rest : List ByteArray := [⟨#[]⟩, ⟨#[108, 117, 105]⟩, ⟨#[97, 117, 105, 112, 99]⟩, ⟨#[106, 97, 108]⟩, ⟨#[106, 97, 108, 114]⟩, ⟨#[]⟩, ⟨#[]⟩, ⟨#[]⟩, ⟨#[]⟩, ⟨#[]⟩, ⟨#[102, 101, 110, 99, 101]⟩, ⟨#[101, 99, 97, 108, 108]⟩, ⟨#[101, 98, 114, 101, 97, 107]⟩, ⟨#[]⟩, ⟨#[]⟩, ⟨#[]⟩, ⟨#[]⟩, ⟨#[]⟩, ⟨#[115, 114, 101, 116]⟩, ⟨#[119, 102, 105]⟩, ⟨#[115, 102, 101, 110, 99, 101, 46, 118, 109, 97]⟩]
def nm_ops : List ByteArray := [⟨#[]⟩, ⟨#[97, 100, 100]⟩, ⟨#[115, 117, 98]⟩, ⟨#[115, 108, 108]⟩, ⟨#[115, 108, 116]⟩, ⟨#[115, 108, 116, 117]⟩, ⟨#[120, 111, 114]⟩, ⟨#[115, 114, 108]⟩, ⟨#[115, 114, 97]⟩, ⟨#[111, 114]⟩, ⟨#[97, 110, 100]⟩, ⟨#[109, 117, 108]⟩, ⟨#[109, 117, 108, 104]⟩, ⟨#[109, 117, 108, 104, 115, 117]⟩, ⟨#[109, 117, 108, 104, 117]⟩, ⟨#[100, 105, 118]⟩, ⟨#[100, 105, 118, 117]⟩, ⟨#[114, 101, 109]⟩, ⟨#[114, 101, 109, 117]⟩, ⟨#[97, 100, 100, 119]⟩, ⟨#[115, 117, 98, 119]⟩, ⟨#[115, 108, 108, 119]⟩, ⟨#[115, 114, 108, 119]⟩, ⟨#[115, 114, 97, 119]⟩, ⟨#[109, 117, 108, 119]⟩, ⟨#[100, 105, 118, 119]⟩, ⟨#[100, 105, 118, 117, 119]⟩, ⟨#[114, 101, 109, 119]⟩, ⟨#[114, 101, 109, 117, 119]⟩]

/-- `immediate(op)`: the name of an operation with a number. -/
def immOpOf (op : ByteArray) : ByteArray :=
  if op = ⟨#[115, 108, 116, 117]⟩ then ⟨#[115, 108, 116, 105, 117]⟩
  else if op = ⟨#[97, 100, 100, 119]⟩ then ⟨#[97, 100, 100, 105, 119]⟩
  else if op = ⟨#[115, 108, 108, 119]⟩ then ⟨#[115, 108, 108, 105, 119]⟩
  else if op = ⟨#[115, 114, 108, 119]⟩ then ⟨#[115, 114, 108, 105, 119]⟩
  else if op = ⟨#[115, 114, 97, 119]⟩ then ⟨#[115, 114, 97, 105, 119]⟩
  else op ++ ⟨#[105]⟩

def wideOf (size : Int) : ByteArray := if size = 4 then ⟨#[46, 119]⟩ else if size = 8 then ⟨#[46, 100]⟩ else ⟨#[]⟩

/-- `name(i)`. -/
def nameP (kind fn size : Int) (sg : Bool) : ByteArray :=
  if kind = 5 then nameAt nm_br fn
  else if kind = 6 then (if sg then nameAt nm_ldS size else nameAt nm_ldU size)
  else if kind = 7 then nameAt nm_st size
  else if kind = 8 then nameAt nm_ops fn
  else if kind = 9 then immOpOf (nameAt nm_ops fn)
  else if kind = 13 then nameAt nm_csr fn
  else if kind = 14 then nameAt nm_csri fn
  else if kind = 17 then nameAt nm_amo fn ++ wideOf size
  else if kind = 15 then ⟨#[108, 114]⟩ ++ wideOf size
  else if kind = 16 then ⟨#[115, 99]⟩ ++ wideOf size
  else nameAt nm_rest kind
def nameOf (i : Ins) : ByteArray := nameP i.kind i.fn i.size i.signed

theorem info83 : (Tryz.prog.info? 83).map (fun i => i.size) = some 29 := by kernel_rfl
theorem store_ops (w : World) : (storeCells ⟨w.heap.size, 0, none⟩ [.string ⟨#[]⟩, .string ⟨#[97, 100, 100]⟩, .string ⟨#[115, 117, 98]⟩, .string ⟨#[115, 108, 108]⟩, .string ⟨#[115, 108, 116]⟩, .string ⟨#[115, 108, 116, 117]⟩, .string ⟨#[120, 111, 114]⟩, .string ⟨#[115, 114, 108]⟩, .string ⟨#[115, 114, 97]⟩, .string ⟨#[111, 114]⟩, .string ⟨#[97, 110, 100]⟩, .string ⟨#[109, 117, 108]⟩, .string ⟨#[109, 117, 108, 104]⟩, .string ⟨#[109, 117, 108, 104, 115, 117]⟩, .string ⟨#[109, 117, 108, 104, 117]⟩, .string ⟨#[100, 105, 118]⟩, .string ⟨#[100, 105, 118, 117]⟩, .string ⟨#[114, 101, 109]⟩, .string ⟨#[114, 101, 109, 117]⟩, .string ⟨#[97, 100, 100, 119]⟩, .string ⟨#[115, 117, 98, 119]⟩, .string ⟨#[115, 108, 108, 119]⟩, .string ⟨#[115, 114, 108, 119]⟩, .string ⟨#[115, 114, 97, 119]⟩, .string ⟨#[109, 117, 108, 119]⟩, .string ⟨#[100, 105, 118, 119]⟩, .string ⟨#[100, 105, 118, 117, 119]⟩, .string ⟨#[114, 101, 109, 119]⟩, .string ⟨#[114, 101, 109, 117, 119]⟩] 0).run Tryz.prog (w.alloc (.cells #[.string ⟨#[]⟩, .string ⟨#[]⟩, .string ⟨#[]⟩, .string ⟨#[]⟩, .string ⟨#[]⟩, .string ⟨#[]⟩, .string ⟨#[]⟩, .string ⟨#[]⟩, .string ⟨#[]⟩, .string ⟨#[]⟩, .string ⟨#[]⟩, .string ⟨#[]⟩, .string ⟨#[]⟩, .string ⟨#[]⟩, .string ⟨#[]⟩, .string ⟨#[]⟩, .string ⟨#[]⟩, .string ⟨#[]⟩, .string ⟨#[]⟩, .string ⟨#[]⟩, .string ⟨#[]⟩, .string ⟨#[]⟩, .string ⟨#[]⟩, .string ⟨#[]⟩, .string ⟨#[]⟩, .string ⟨#[]⟩, .string ⟨#[]⟩, .string ⟨#[]⟩, .string ⟨#[]⟩] 83)) = .ok () (w.alloc (.cells #[.string ⟨#[]⟩, .string ⟨#[97, 100, 100]⟩, .string ⟨#[115, 117, 98]⟩, .string ⟨#[115, 108, 108]⟩, .string ⟨#[115, 108, 116]⟩, .string ⟨#[115, 108, 116, 117]⟩, .string ⟨#[120, 111, 114]⟩, .string ⟨#[115, 114, 108]⟩, .string ⟨#[115, 114, 97]⟩, .string ⟨#[111, 114]⟩, .string ⟨#[97, 110, 100]⟩, .string ⟨#[109, 117, 108]⟩, .string ⟨#[109, 117, 108, 104]⟩, .string ⟨#[109, 117, 108, 104, 115, 117]⟩, .string ⟨#[109, 117, 108, 104, 117]⟩, .string ⟨#[100, 105, 118]⟩, .string ⟨#[100, 105, 118, 117]⟩, .string ⟨#[114, 101, 109]⟩, .string ⟨#[114, 101, 109, 117]⟩, .string ⟨#[97, 100, 100, 119]⟩, .string ⟨#[115, 117, 98, 119]⟩, .string ⟨#[115, 108, 108, 119]⟩, .string ⟨#[115, 114, 108, 119]⟩, .string ⟨#[115, 114, 97, 119]⟩, .string ⟨#[109, 117, 108, 119]⟩, .string ⟨#[100, 105, 118, 119]⟩, .string ⟨#[100, 105, 118, 117, 119]⟩, .string ⟨#[114, 101, 109, 119]⟩, .string ⟨#[114, 101, 109, 117, 119]⟩] 83)) :=
  run_storeCells_new (P := Tryz.prog) w 83 _ #[.string ⟨#[]⟩, .string ⟨#[97, 100, 100]⟩, .string ⟨#[115, 117, 98]⟩, .string ⟨#[115, 108, 108]⟩, .string ⟨#[115, 108, 116]⟩, .string ⟨#[115, 108, 116, 117]⟩, .string ⟨#[120, 111, 114]⟩, .string ⟨#[115, 114, 108]⟩, .string ⟨#[115, 114, 97]⟩, .string ⟨#[111, 114]⟩, .string ⟨#[97, 110, 100]⟩, .string ⟨#[109, 117, 108]⟩, .string ⟨#[109, 117, 108, 104]⟩, .string ⟨#[109, 117, 108, 104, 115, 117]⟩, .string ⟨#[109, 117, 108, 104, 117]⟩, .string ⟨#[100, 105, 118]⟩, .string ⟨#[100, 105, 118, 117]⟩, .string ⟨#[114, 101, 109]⟩, .string ⟨#[114, 101, 109, 117]⟩, .string ⟨#[97, 100, 100, 119]⟩, .string ⟨#[115, 117, 98, 119]⟩, .string ⟨#[115, 108, 108, 119]⟩, .string ⟨#[115, 114, 108, 119]⟩, .string ⟨#[115, 114, 97, 119]⟩, .string ⟨#[109, 117, 108, 119]⟩, .string ⟨#[100, 105, 118, 119]⟩, .string ⟨#[100, 105, 118, 117, 119]⟩, .string ⟨#[114, 101, 109, 119]⟩, .string ⟨#[114, 101, 109, 117, 119]⟩] info83 rfl (by simp [Value.oneCell'])
@[irreducible] def opsA : Array Value := #[.string ⟨#[]⟩, .string ⟨#[97, 100, 100]⟩, .string ⟨#[115, 117, 98]⟩, .string ⟨#[115, 108, 108]⟩, .string ⟨#[115, 108, 116]⟩, .string ⟨#[115, 108, 116, 117]⟩, .string ⟨#[120, 111, 114]⟩, .string ⟨#[115, 114, 108]⟩, .string ⟨#[115, 114, 97]⟩, .string ⟨#[111, 114]⟩, .string ⟨#[97, 110, 100]⟩, .string ⟨#[109, 117, 108]⟩, .string ⟨#[109, 117, 108, 104]⟩, .string ⟨#[109, 117, 108, 104, 115, 117]⟩, .string ⟨#[109, 117, 108, 104, 117]⟩, .string ⟨#[100, 105, 118]⟩, .string ⟨#[100, 105, 118, 117]⟩, .string ⟨#[114, 101, 109]⟩, .string ⟨#[114, 101, 109, 117]⟩, .string ⟨#[97, 100, 100, 119]⟩, .string ⟨#[115, 117, 98, 119]⟩, .string ⟨#[115, 108, 108, 119]⟩, .string ⟨#[115, 114, 108, 119]⟩, .string ⟨#[115, 114, 97, 119]⟩, .string ⟨#[109, 117, 108, 119]⟩, .string ⟨#[100, 105, 118, 119]⟩, .string ⟨#[100, 105, 118, 117, 119]⟩, .string ⟨#[114, 101, 109, 119]⟩, .string ⟨#[114, 101, 109, 117, 119]⟩]
theorem opsA_size : opsA.size = 29 := by unfold opsA; rfl
theorem opsA_names : opsA = (nm_ops.map Value.string).toArray := by unfold opsA; rfl
theorem store_opsA (w : World) : (storeCells ⟨w.heap.size, 0, none⟩ opsA.toList 0).run Tryz.prog (w.alloc (.cells #[.string ⟨#[]⟩, .string ⟨#[]⟩, .string ⟨#[]⟩, .string ⟨#[]⟩, .string ⟨#[]⟩, .string ⟨#[]⟩, .string ⟨#[]⟩, .string ⟨#[]⟩, .string ⟨#[]⟩, .string ⟨#[]⟩, .string ⟨#[]⟩, .string ⟨#[]⟩, .string ⟨#[]⟩, .string ⟨#[]⟩, .string ⟨#[]⟩, .string ⟨#[]⟩, .string ⟨#[]⟩, .string ⟨#[]⟩, .string ⟨#[]⟩, .string ⟨#[]⟩, .string ⟨#[]⟩, .string ⟨#[]⟩, .string ⟨#[]⟩, .string ⟨#[]⟩, .string ⟨#[]⟩, .string ⟨#[]⟩, .string ⟨#[]⟩, .string ⟨#[]⟩, .string ⟨#[]⟩] 83)) = .ok () (w.alloc (.cells opsA 83)) := by
  unfold opsA; exact store_ops w
section
theorem load_ops (w : World) : (loadCellsFrom ⟨w.heap.size, 0, none⟩ 0 29 #[]).run Tryz.prog (w.alloc (.cells #[.string ⟨#[]⟩, .string ⟨#[97, 100, 100]⟩, .string ⟨#[115, 117, 98]⟩, .string ⟨#[115, 108, 108]⟩, .string ⟨#[115, 108, 116]⟩, .string ⟨#[115, 108, 116, 117]⟩, .string ⟨#[120, 111, 114]⟩, .string ⟨#[115, 114, 108]⟩, .string ⟨#[115, 114, 97]⟩, .string ⟨#[111, 114]⟩, .string ⟨#[97, 110, 100]⟩, .string ⟨#[109, 117, 108]⟩, .string ⟨#[109, 117, 108, 104]⟩, .string ⟨#[109, 117, 108, 104, 115, 117]⟩, .string ⟨#[109, 117, 108, 104, 117]⟩, .string ⟨#[100, 105, 118]⟩, .string ⟨#[100, 105, 118, 117]⟩, .string ⟨#[114, 101, 109]⟩, .string ⟨#[114, 101, 109, 117]⟩, .string ⟨#[97, 100, 100, 119]⟩, .string ⟨#[115, 117, 98, 119]⟩, .string ⟨#[115, 108, 108, 119]⟩, .string ⟨#[115, 114, 108, 119]⟩, .string ⟨#[115, 114, 97, 119]⟩, .string ⟨#[109, 117, 108, 119]⟩, .string ⟨#[100, 105, 118, 119]⟩, .string ⟨#[100, 105, 118, 117, 119]⟩, .string ⟨#[114, 101, 109, 119]⟩, .string ⟨#[114, 101, 109, 117, 119]⟩] 83)) = .ok #[.string ⟨#[]⟩, .string ⟨#[97, 100, 100]⟩, .string ⟨#[115, 117, 98]⟩, .string ⟨#[115, 108, 108]⟩, .string ⟨#[115, 108, 116]⟩, .string ⟨#[115, 108, 116, 117]⟩, .string ⟨#[120, 111, 114]⟩, .string ⟨#[115, 114, 108]⟩, .string ⟨#[115, 114, 97]⟩, .string ⟨#[111, 114]⟩, .string ⟨#[97, 110, 100]⟩, .string ⟨#[109, 117, 108]⟩, .string ⟨#[109, 117, 108, 104]⟩, .string ⟨#[109, 117, 108, 104, 115, 117]⟩, .string ⟨#[109, 117, 108, 104, 117]⟩, .string ⟨#[100, 105, 118]⟩, .string ⟨#[100, 105, 118, 117]⟩, .string ⟨#[114, 101, 109]⟩, .string ⟨#[114, 101, 109, 117]⟩, .string ⟨#[97, 100, 100, 119]⟩, .string ⟨#[115, 117, 98, 119]⟩, .string ⟨#[115, 108, 108, 119]⟩, .string ⟨#[115, 114, 108, 119]⟩, .string ⟨#[115, 114, 97, 119]⟩, .string ⟨#[109, 117, 108, 119]⟩, .string ⟨#[100, 105, 118, 119]⟩, .string ⟨#[100, 105, 118, 117, 119]⟩, .string ⟨#[114, 101, 109, 119]⟩, .string ⟨#[114, 101, 109, 117, 119]⟩] (w.alloc (.cells #[.string ⟨#[]⟩, .string ⟨#[97, 100, 100]⟩, .string ⟨#[115, 117, 98]⟩, .string ⟨#[115, 108, 108]⟩, .string ⟨#[115, 108, 116]⟩, .string ⟨#[115, 108, 116, 117]⟩, .string ⟨#[120, 111, 114]⟩, .string ⟨#[115, 114, 108]⟩, .string ⟨#[115, 114, 97]⟩, .string ⟨#[111, 114]⟩, .string ⟨#[97, 110, 100]⟩, .string ⟨#[109, 117, 108]⟩, .string ⟨#[109, 117, 108, 104]⟩, .string ⟨#[109, 117, 108, 104, 115, 117]⟩, .string ⟨#[109, 117, 108, 104, 117]⟩, .string ⟨#[100, 105, 118]⟩, .string ⟨#[100, 105, 118, 117]⟩, .string ⟨#[114, 101, 109]⟩, .string ⟨#[114, 101, 109, 117]⟩, .string ⟨#[97, 100, 100, 119]⟩, .string ⟨#[115, 117, 98, 119]⟩, .string ⟨#[115, 108, 108, 119]⟩, .string ⟨#[115, 114, 108, 119]⟩, .string ⟨#[115, 114, 97, 119]⟩, .string ⟨#[109, 117, 108, 119]⟩, .string ⟨#[100, 105, 118, 119]⟩, .string ⟨#[100, 105, 118, 117, 119]⟩, .string ⟨#[114, 101, 109, 119]⟩, .string ⟨#[114, 101, 109, 117, 119]⟩] 83)) :=
  run_loadCellsFrom_new (P := Tryz.prog) w 83 #[.string ⟨#[]⟩, .string ⟨#[97, 100, 100]⟩, .string ⟨#[115, 117, 98]⟩, .string ⟨#[115, 108, 108]⟩, .string ⟨#[115, 108, 116]⟩, .string ⟨#[115, 108, 116, 117]⟩, .string ⟨#[120, 111, 114]⟩, .string ⟨#[115, 114, 108]⟩, .string ⟨#[115, 114, 97]⟩, .string ⟨#[111, 114]⟩, .string ⟨#[97, 110, 100]⟩, .string ⟨#[109, 117, 108]⟩, .string ⟨#[109, 117, 108, 104]⟩, .string ⟨#[109, 117, 108, 104, 115, 117]⟩, .string ⟨#[109, 117, 108, 104, 117]⟩, .string ⟨#[100, 105, 118]⟩, .string ⟨#[100, 105, 118, 117]⟩, .string ⟨#[114, 101, 109]⟩, .string ⟨#[114, 101, 109, 117]⟩, .string ⟨#[97, 100, 100, 119]⟩, .string ⟨#[115, 117, 98, 119]⟩, .string ⟨#[115, 108, 108, 119]⟩, .string ⟨#[115, 114, 108, 119]⟩, .string ⟨#[115, 114, 97, 119]⟩, .string ⟨#[109, 117, 108, 119]⟩, .string ⟨#[100, 105, 118, 119]⟩, .string ⟨#[100, 105, 118, 117, 119]⟩, .string ⟨#[114, 101, 109, 119]⟩, .string ⟨#[114, 101, 109, 117, 119]⟩] 29 rfl
attribute [-go_sem] storeCells loadCellsFrom
set_option maxRecDepth 100000 in
theorem operations_lit (w : World) : Calls Tryz.prog 56 #[] w fun e w' => e = .returned (.agg #[.string ⟨#[]⟩, .string ⟨#[97, 100, 100]⟩, .string ⟨#[115, 117, 98]⟩, .string ⟨#[115, 108, 108]⟩, .string ⟨#[115, 108, 116]⟩, .string ⟨#[115, 108, 116, 117]⟩, .string ⟨#[120, 111, 114]⟩, .string ⟨#[115, 114, 108]⟩, .string ⟨#[115, 114, 97]⟩, .string ⟨#[111, 114]⟩, .string ⟨#[97, 110, 100]⟩, .string ⟨#[109, 117, 108]⟩, .string ⟨#[109, 117, 108, 104]⟩, .string ⟨#[109, 117, 108, 104, 115, 117]⟩, .string ⟨#[109, 117, 108, 104, 117]⟩, .string ⟨#[100, 105, 118]⟩, .string ⟨#[100, 105, 118, 117]⟩, .string ⟨#[114, 101, 109]⟩, .string ⟨#[114, 101, 109, 117]⟩, .string ⟨#[97, 100, 100, 119]⟩, .string ⟨#[115, 117, 98, 119]⟩, .string ⟨#[115, 108, 108, 119]⟩, .string ⟨#[115, 114, 108, 119]⟩, .string ⟨#[115, 114, 97, 119]⟩, .string ⟨#[109, 117, 108, 119]⟩, .string ⟨#[100, 105, 118, 119]⟩, .string ⟨#[100, 105, 118, 117, 119]⟩, .string ⟨#[114, 101, 109, 119]⟩, .string ⟨#[114, 101, 109, 117, 119]⟩]) ∧ Below w.heap.size w w' := by
  have hsc := store_ops w
  go_enter Tryz.func56, Tryz.ntmps56
  go_wp2
  clear hsc
  have hlc := load_ops w
  refine bodyPost_ret (by simp [results, Tryz.results56, go_sem, hlc]; rfl) rfl ?_
  clear hlc
  exact ⟨rfl, by repeat' (first | (with_reducible exact Below.refl _ _) | (with_reducible assumption) | (with_reducible refine below_drewN ?_ _) | (with_reducible refine Below.alloc ?_ ?_ _) | (with_reducible refine Below.drew ?_) | (with_reducible refine below_wext ?_ _ _ ?_) | (with_reducible refine Below.setCell ?_ ?_ _) | (simp only [World.size_alloc, World.size_setCell, World.size_drew, wext_size]; omega) | go_size)⟩
end
theorem operations_any (w : World) : Calls Tryz.prog 56 #[] w fun e w' => e = .returned (.agg opsA) ∧ Below w.heap.size w w' := by
  unfold opsA; exact operations_lit w

theorem beqS_false {a : ByteArray} {l : List UInt8} (h : ¬ a = ⟨l.toArray⟩) : (a.toList == l) = false := by
  rw [beq_eq_false_iff_ne]
  rintro rfl
  apply h
  rw [Lib.toList_data]

set_option maxRecDepth 100000 in
theorem immediate_sltu (w : World) : Calls Tryz.prog 58 #[.string ⟨#[115, 108, 116, 117]⟩] w fun e w' => e = .returned (.string ⟨#[115, 108, 116, 105, 117]⟩) ∧ w = w' := by
  go_enter Tryz.func58, Tryz.ntmps58
  go_wp2
  go_ret
  exact ⟨rfl, rfl⟩

set_option maxRecDepth 100000 in
theorem immediate_addw (w : World) : Calls Tryz.prog 58 #[.string ⟨#[97, 100, 100, 119]⟩] w fun e w' => e = .returned (.string ⟨#[97, 100, 100, 105, 119]⟩) ∧ w = w' := by
  go_enter Tryz.func58, Tryz.ntmps58
  go_wp2
  go_ret
  exact ⟨rfl, rfl⟩

set_option maxRecDepth 100000 in
theorem immediate_sllw (w : World) : Calls Tryz.prog 58 #[.string ⟨#[115, 108, 108, 119]⟩] w fun e w' => e = .returned (.string ⟨#[115, 108, 108, 105, 119]⟩) ∧ w = w' := by
  go_enter Tryz.func58, Tryz.ntmps58
  go_wp2
  go_ret
  exact ⟨rfl, rfl⟩

set_option maxRecDepth 100000 in
theorem immediate_srlw (w : World) : Calls Tryz.prog 58 #[.string ⟨#[115, 114, 108, 119]⟩] w fun e w' => e = .returned (.string ⟨#[115, 114, 108, 105, 119]⟩) ∧ w = w' := by
  go_enter Tryz.func58, Tryz.ntmps58
  go_wp2
  go_ret
  exact ⟨rfl, rfl⟩

set_option maxRecDepth 100000 in
theorem immediate_sraw (w : World) : Calls Tryz.prog 58 #[.string ⟨#[115, 114, 97, 119]⟩] w fun e w' => e = .returned (.string ⟨#[115, 114, 97, 105, 119]⟩) ∧ w = w' := by
  go_enter Tryz.func58, Tryz.ntmps58
  go_wp2
  go_ret
  exact ⟨rfl, rfl⟩

set_option maxRecDepth 100000 in
theorem immediate_x (op : ByteArray) (w : World) (n0 : (op.toList == [115, 108, 116, 117]) = false) (n1 : (op.toList == [97, 100, 100, 119]) = false) (n2 : (op.toList == [115, 108, 108, 119]) = false) (n3 : (op.toList == [115, 114, 108, 119]) = false) (n4 : (op.toList == [115, 114, 97, 119]) = false) (hs : op.size ≤ 1000) : Calls Tryz.prog 58 #[.string op] w fun e w' => e = .returned (.string (op ++ ⟨#[105]⟩)) ∧ w = w' := by
  go_enter Tryz.func58, Tryz.ntmps58
  go_wp2
  go_ret
  exact ⟨rfl, rfl⟩

theorem immediate_any (op : ByteArray) (w : World) (hs : op.size ≤ 1000) : Calls Tryz.prog 58 #[.string op] w fun e w' => e = .returned (.string (immOpOf op)) ∧ w = w' := by
  unfold immOpOf
  by_cases c0 : op = ⟨#[115, 108, 116, 117]⟩
  · subst c0; rw [if_pos rfl]; exact immediate_sltu w
  by_cases c1 : op = ⟨#[97, 100, 100, 119]⟩
  · subst c1; rw [if_neg (by decide), if_pos rfl]; exact immediate_addw w
  by_cases c2 : op = ⟨#[115, 108, 108, 119]⟩
  · subst c2; rw [if_neg (by decide), if_neg (by decide), if_pos rfl]; exact immediate_sllw w
  by_cases c3 : op = ⟨#[115, 114, 108, 119]⟩
  · subst c3; rw [if_neg (by decide), if_neg (by decide), if_neg (by decide), if_pos rfl]; exact immediate_srlw w
  by_cases c4 : op = ⟨#[115, 114, 97, 119]⟩
  · subst c4; rw [if_neg (by decide), if_neg (by decide), if_neg (by decide), if_neg (by decide), if_pos rfl]; exact immediate_sraw w
  rw [if_neg c0, if_neg c1, if_neg c2, if_neg c3, if_neg c4]
  exact immediate_x op w (beqS_false c0) (beqS_false c1) (beqS_false c2) (beqS_false c3) (beqS_false c4) hs

theorem nameAt_size (ns : List ByteArray) (x : Int) (h : ns.all (fun s => decide (s.size ≤ 1000)) = true) : (nameAt ns x).size ≤ 1000 := by
  unfold nameAt
  split
  · decide
  · rw [List.getD_eq_getElem?_getD]
    cases hc : ns[x.toNat]? with
    | none => decide
    | some s => exact of_decide_eq_true (List.all_eq_true.1 h s (List.mem_of_getElem? hc))

end Go.Proofs.YtmklpjelfonilaaGreatDoor
