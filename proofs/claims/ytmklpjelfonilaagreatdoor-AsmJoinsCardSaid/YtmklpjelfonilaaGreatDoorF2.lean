/- Plain law: an instruction that may be written: its shape; its line's words; fill reads them back; two of one line are one. -/
import Derived.Test.YtmklpjelfonilaaGreatDoorE3
import Derived.Test.YtmklpjelfonilaaGreatDoorF1
namespace Go.Proofs.YtmklpjelfonilaaGreatDoor
open Go.RowKit
set_option linter.unusedVariables false
set_option linter.unusedSimpArgs false

/-- Kind, fn, size and sign of all instructions that may be written. -/
def tmplList : List (Int × Int × Int × Bool) :=
  [(1, 0, 0, false), (2, 0, 0, false), (3, 0, 0, false), (4, 0, 0, false), (10, 0, 0, false), (11, 0, 0, false), (12, 0, 0, false), (18, 0, 0, false), (19, 0, 0, false), (20, 0, 0, false)]
  ++ [1, 2, 3, 4, 5, 6].map (fun f => (5, f, 0, false))
  ++ [1, 2, 4, 8].map (fun z => (6, 0, z, true)) ++ [1, 2, 4].map (fun z => (6, 0, z, false))
  ++ [1, 2, 4, 8].map (fun z => (7, 0, z, false))
  ++ [1, 2, 3, 4, 5, 6, 7, 8, 9, 10, 11, 12, 13, 14, 15, 16, 17, 18, 19, 20, 21, 22, 23, 24, 25, 26, 27, 28].map (fun f => (8, f, 0, false))
  ++ [1, 3, 4, 5, 6, 7, 8, 9, 10, 19, 21, 22, 23].map (fun f => (9, f, 0, false))
  ++ [1, 2, 3].map (fun f => (13, f, 0, false)) ++ [1, 2, 3].map (fun f => (14, f, 0, false))
  ++ [4, 8].map (fun z => (15, 0, z, false)) ++ [4, 8].map (fun z => (16, 0, z, false))
  ++ [1, 2, 3, 4, 5, 6, 7, 8, 9].map (fun f => (17, f, 4, false)) ++ [1, 2, 3, 4, 5, 6, 7, 8, 9].map (fun f => (17, f, 8, false))

def Ins.tm (i : Ins) : Int × Int × Int × Bool := (i.kind, i.fn, i.size, i.signed)
def Ins.tmpl (i : Ins) : Ins := ⟨i.kind, i.fn, 0, 0, 0, 0, i.size, i.signed⟩

def Reg (v : Int) : Prop := 0 ≤ v ∧ v < 32
def Imm (v : Int) : Prop := -2147483648 ≤ v ∧ v ≤ 2147483648

/-- The shape of an instruction that may be written. -/
structure Good (i : Ins) : Prop where
  tm : i.tm ∈ tmplList
  rd : Reg i.rd
  rs1 : Reg i.rs1
  rs2 : Reg i.rs2
  imm : Imm i.imm
  up : i.kind = 1 ∨ i.kind = 2 → i.imm % 4096 = 0
  z0 : (0 ∈ argsOf i.kind) ∨ i.rd = 0
  z1 : (1 ∈ argsOf i.kind ∨ 5 ∈ argsOf i.kind) ∨ i.rs1 = 0
  z2 : (2 ∈ argsOf i.kind) ∨ i.rs2 = 0
  z3 : (3 ∈ argsOf i.kind ∨ 4 ∈ argsOf i.kind) ∨ i.imm = 0

theorem good_of {k f a b c m z : Int} {s : Bool} (ht : (k, f, z, s) ∈ tmplList) (h1 : Reg a) (h2 : Reg b) (h3 : Reg c) (h4 : Imm m) (hu : k = 1 ∨ k = 2 → m % 4096 = 0)
    (z0 : 0 ∈ argsOf k ∨ a = 0) (z1 : (1 ∈ argsOf k ∨ 5 ∈ argsOf k) ∨ b = 0) (z2 : 2 ∈ argsOf k ∨ c = 0) (z3 : (3 ∈ argsOf k ∨ 4 ∈ argsOf k) ∨ m = 0) : Good ⟨k, f, a, b, c, m, z, s⟩ :=
  ⟨ht, h1, h2, h3, h4, hu, z0, z1, z2, z3⟩

theorem reg0 : Reg 0 := by unfold Reg; omega
theorem regB (x hi lo : Int) (h : (hi - lo + 1).toNat = 5) : Reg (bitsOf x hi lo) := bo5 x hi lo h
theorem imm0 : Imm 0 := by unfold Imm; omega
theorem immI (x : Int) : Imm (immIOf x) := by
  have := bo12 x 31 20 rfl
  unfold Imm immIOf sgOf
  simp only [show (12 : Int).toNat = 12 from rfl]
  split <;> omega
theorem immS (x : Int) : Imm (immSOf x) := by
  have := bo7 x 31 25 rfl
  have := bo5 x 11 7 rfl
  unfold Imm immSOf sgOf
  simp only [show (12 : Int).toNat = 12 from rfl]
  split <;> omega
theorem immU (x : Int) : Imm (immUOf x) ∧ immUOf x % 4096 = 0 := by
  have := bo20 x 31 12 rfl
  unfold Imm immUOf sgOf
  simp only [show (32 : Int).toNat = 32 from rfl]
  split <;> omega
theorem immB (x : Int) : Imm (immBOf x) := by
  have := bo1 x 31 31 rfl
  have := bo1 x 7 7 rfl
  have := bo6 x 30 25 rfl
  have := bo4 x 11 8 rfl
  unfold Imm immBOf sgOf
  simp only [show (13 : Int).toNat = 13 from rfl]
  split <;> omega
theorem immJ (x : Int) : Imm (immJOf x) := by
  have := bo1 x 31 31 rfl
  have := bo8 x 19 12 rfl
  have := bo1 x 20 20 rfl
  have := bo10 x 30 21 rfl
  unfold Imm immJOf sgOf
  simp only [show (21 : Int).toNat = 21 from rfl]
  split <;> omega
theorem imm5 (x hi lo : Int) (h : (hi - lo + 1).toNat = 5) : Imm (bitsOf x hi lo) := by have := bo5 x hi lo h; unfold Imm; omega
theorem imm6 (x hi lo : Int) (h : (hi - lo + 1).toNat = 6) : Imm (bitsOf x hi lo) := by have := bo6 x hi lo h; unfold Imm; omega
theorem imm12 (x hi lo : Int) (h : (hi - lo + 1).toNat = 12) : Imm (bitsOf x hi lo) := by have := bo12 x hi lo h; unfold Imm; omega

theorem good_sys (x : Int) (i : Ins) (h : sysOf x = some i) : Good i := by
  unfold sysOf at h
  split at h
  · cases h; exact good_of (by decide) (reg0) (reg0) (reg0) (imm0) (fun h => absurd h (by decide)) (.inr rfl) (.inr rfl) (.inr rfl) (.inr rfl)
  split at h
  · cases h; exact good_of (by decide) (reg0) (reg0) (reg0) (imm0) (fun h => absurd h (by decide)) (.inr rfl) (.inr rfl) (.inr rfl) (.inr rfl)
  split at h
  · cases h; exact good_of (by decide) (reg0) (reg0) (reg0) (imm0) (fun h => absurd h (by decide)) (.inr rfl) (.inr rfl) (.inr rfl) (.inr rfl)
  split at h
  · cases h; exact good_of (by decide) (reg0) (reg0) (reg0) (imm0) (fun h => absurd h (by decide)) (.inr rfl) (.inr rfl) (.inr rfl) (.inr rfl)
  split at h
  · split at h
    · cases h; exact good_of (by decide) (reg0) (regB _ _ _ rfl) (regB _ _ _ rfl) (imm0) (fun h => absurd h (by decide)) (.inr rfl) (.inl (by decide)) (.inl (by decide)) (.inr rfl)
    · cases h
  split at h
  · cases h
  · rename_i h0 h4
    have hf := f3_cases x
    have hr1 := regB x 11 7 rfl
    have hr2 := regB x 19 15 rfl
    have hi := imm12 x 31 20 rfl
    generalize bitsOf x 14 12 = f at *
    cases h
    rcases hf with rfl | rfl | rfl | rfl | rfl | rfl | rfl | rfl
    · exact absurd rfl h0
    · exact good_of (by decide) (hr1) (hr2) (reg0) (hi) (fun h => absurd h (by decide)) (.inl (by decide)) (.inl (by decide)) (.inr rfl) (.inl (by decide))
    · exact good_of (by decide) (hr1) (hr2) (reg0) (hi) (fun h => absurd h (by decide)) (.inl (by decide)) (.inl (by decide)) (.inr rfl) (.inl (by decide))
    · exact good_of (by decide) (hr1) (hr2) (reg0) (hi) (fun h => absurd h (by decide)) (.inl (by decide)) (.inl (by decide)) (.inr rfl) (.inl (by decide))
    · exact absurd rfl h4
    · exact good_of (by decide) (hr1) (hr2) (reg0) (hi) (fun h => absurd h (by decide)) (.inl (by decide)) (.inl (by decide)) (.inr rfl) (.inl (by decide))
    · exact good_of (by decide) (hr1) (hr2) (reg0) (hi) (fun h => absurd h (by decide)) (.inl (by decide)) (.inl (by decide)) (.inr rfl) (.inl (by decide))
    · exact good_of (by decide) (hr1) (hr2) (reg0) (hi) (fun h => absurd h (by decide)) (.inl (by decide)) (.inl (by decide)) (.inr rfl) (.inl (by decide))

theorem quarter (v : Int) (h0 : 0 ≤ v) (h1 : v < 32) (h4 : v % 4 = 0) : v = 0 ∨ v = 4 ∨ v = 8 ∨ v = 12 ∨ v = 16 ∨ v = 20 ∨ v = 24 ∨ v = 28 := by omega

set_option maxHeartbeats 1600000 in
theorem good_at (x : Int) (i : Ins) (h : atOf x = some i) : Good i := by
  unfold atOf at h
  have h5 := five_cases x
  have hr1 := regB x 11 7 rfl
  have hr2 := regB x 19 15 rfl
  have hr3 := regB x 24 20 rfl
  split at h
  · rename_i hf
    generalize bitsOf x 14 12 = f at *
    generalize bitsOf x 31 27 = v at *
    generalize bitsOf x 11 7 = a at *
    generalize bitsOf x 19 15 = b at *
    generalize bitsOf x 24 20 = c at *
    split at h
    · split at h
      · rename_i hz
        subst hz
        cases h
        rcases hf with rfl | rfl
        · exact good_of (by decide +kernel) (hr1) (hr2) (hr3) (imm0) (fun h => absurd h (by decide)) (.inl (by decide)) (.inl (by decide)) (.inr rfl) (.inr rfl)
        · exact good_of (by decide +kernel) (hr1) (hr2) (hr3) (imm0) (fun h => absurd h (by decide)) (.inl (by decide)) (.inl (by decide)) (.inr rfl) (.inr rfl)
      · cases h
    split at h
    · cases h
      rcases hf with rfl | rfl
      · exact good_of (by decide +kernel) (hr1) (hr2) (hr3) (imm0) (fun h => absurd h (by decide)) (.inl (by decide)) (.inl (by decide)) (.inl (by decide)) (.inr rfl)
      · exact good_of (by decide +kernel) (hr1) (hr2) (hr3) (imm0) (fun h => absurd h (by decide)) (.inl (by decide)) (.inl (by decide)) (.inl (by decide)) (.inr rfl)
    split at h
    · cases h
      rcases hf with rfl | rfl
      · exact good_of (by decide +kernel) (hr1) (hr2) (hr3) (imm0) (fun h => absurd h (by decide)) (.inl (by decide)) (.inl (by decide)) (.inl (by decide)) (.inr rfl)
      · exact good_of (by decide +kernel) (hr1) (hr2) (hr3) (imm0) (fun h => absurd h (by decide)) (.inl (by decide)) (.inl (by decide)) (.inl (by decide)) (.inr rfl)
    split at h
    · rename_i h4
      have hq := quarter v h5.1 h5.2 h4
      clear h4 h5
      cases h
      rcases hf with rfl | rfl <;> rcases hq with rfl | rfl | rfl | rfl | rfl | rfl | rfl | rfl <;>
        exact good_of (by decide +kernel) (hr1) (hr2) (hr3) (imm0) (fun h => absurd h (by decide)) (.inl (by decide)) (.inl (by decide)) (.inl (by decide)) (.inr rfl)
    · cases h
  · cases h

theorem good_fence (x : Int) (i : Ins) (h : fenceOf x = some i) : Good i := by
  unfold fenceOf at h
  split at h
  · cases h; exact good_of (by decide) (reg0) (reg0) (reg0) (imm0) (fun h => absurd h (by decide)) (.inr rfl) (.inr rfl) (.inr rfl) (.inr rfl)
  · cases h

set_option maxHeartbeats 1600000 in
/-- What register says is one of the operations, or none. -/
theorem reg_fn (x : Int) (h : ¬ regOf x = 0) (k : Int) (hk : k = 8) : (k, regOf x, (0 : Int), false) ∈ tmplList := by
  subst hk
  have hf := f3_cases x
  unfold regOf regWide regNarrow at h ⊢
  generalize bitsOf x 14 12 = f at *
  generalize bitsOf x 31 25 = g at *
  generalize bitsOf x 6 0 = o at *
  revert h
  rcases hf with rfl | rfl | rfl | rfl | rfl | rfl | rfl | rfl <;> (repeat' split) <;> intro h <;> first | exact absurd rfl h | exact absurd (by decide) h | decide

set_option maxHeartbeats 1600000 in
theorem good_rows (x : Int) (i : Ins) (h : (rowOf x).bind (plainOf x) = some i) : Good i := by
  have hr1 := regB x 11 7 rfl
  have hr2 := regB x 19 15 rfl
  have hr3 := regB x 24 20 rfl
  have hf := f3_cases x
  have hsh5 := imm5 x 24 20 rfl
  have hsh6 := imm6 x 25 20 rfl
  have hI := immI x
  have hS := immS x
  have hU := immU x
  have hB := immB x
  have hJ := immJ x
  unfold rowOf at h
  split at h
  · simp [plainOf] at h; subst h
    ((try dsimp only); exact good_of (by decide) (hr1) (reg0) (reg0) (hU.1) (fun _ => hU.2) (.inl (by decide)) (.inr rfl) (.inr rfl) (.inl (by decide)))
  split at h
  · simp [plainOf] at h; subst h
    ((try dsimp only); exact good_of (by decide) (hr1) (reg0) (reg0) (hU.1) (fun _ => hU.2) (.inl (by decide)) (.inr rfl) (.inr rfl) (.inl (by decide)))
  split at h
  · simp [plainOf] at h; subst h
    ((try dsimp only); exact good_of (by decide) (hr1) (reg0) (reg0) (hJ) (fun h => absurd h (by decide)) (.inl (by decide)) (.inr rfl) (.inr rfl) (.inl (by decide)))
  split at h
  · simp [plainOf] at h; obtain ⟨_, h⟩ := h; subst h
    ((try dsimp only); exact good_of (by decide) (hr1) (hr2) (reg0) (hI) (fun h => absurd h (by decide)) (.inl (by decide)) (.inl (by decide)) (.inr rfl) (.inl (by decide)))
  split at h
  · simp only [Option.bind_some, plainOf] at h
    generalize bitsOf x 14 12 = f at *
    simp at h
    obtain ⟨hp, rfl⟩ := h
    rcases hf with rfl | rfl | rfl | rfl | rfl | rfl | rfl | rfl <;> first
      | exact absurd rfl hp
      | exact absurd (by decide) hp
      | ((try dsimp only); exact good_of (by decide) (reg0) (hr2) (hr3) (hB) (fun h => absurd h (by decide)) (.inr rfl) (.inl (by decide)) (.inl (by decide)) (.inl (by decide)))
  split at h
  · simp only [Option.bind_some, plainOf] at h
    generalize bitsOf x 14 12 = f at *
    simp at h
    obtain ⟨hp, rfl⟩ := h
    rcases hf with rfl | rfl | rfl | rfl | rfl | rfl | rfl | rfl <;> first
      | exact absurd hp (by decide)
      | ((try dsimp only); exact good_of (by decide) (hr1) (hr2) (reg0) (hI) (fun h => absurd h (by decide)) (.inl (by decide)) (.inl (by decide)) (.inr rfl) (.inl (by decide)))
  split at h
  · simp only [Option.bind_some, plainOf] at h
    generalize bitsOf x 14 12 = f at *
    simp at h
    obtain ⟨hp, rfl⟩ := h
    rcases hf with rfl | rfl | rfl | rfl | rfl | rfl | rfl | rfl <;> first
      | exact absurd hp (by decide)
      | ((try dsimp only); exact good_of (by decide) (reg0) (hr2) (hr3) (hS) (fun h => absurd h (by decide)) (.inr rfl) (.inl (by decide)) (.inl (by decide)) (.inl (by decide)))
  split at h
  · rename_i h19
    simp only [Option.bind_some, plainOf] at h
    simp at h
    unfold immOf at h
    rw [if_neg (by rw [h19]; decide)] at h
    split at h
    · split at h
      · cases h
        ((try dsimp only); exact good_of (by decide) (hr1) (hr2) (reg0) (hsh6) (fun h => absurd h (by decide)) (.inl (by decide)) (.inl (by decide)) (.inr rfl) (.inl (by decide)))
      · cases h
    split at h
    · split at h
      · cases h
        ((try dsimp only); exact good_of (by decide) (hr1) (hr2) (reg0) (hsh6) (fun h => absurd h (by decide)) (.inl (by decide)) (.inl (by decide)) (.inr rfl) (.inl (by decide)))
      split at h
      · cases h
        ((try dsimp only); exact good_of (by decide) (hr1) (hr2) (reg0) (hsh6) (fun h => absurd h (by decide)) (.inl (by decide)) (.inl (by decide)) (.inr rfl) (.inl (by decide)))
      · cases h
    · rename_i n1 n5
      generalize bitsOf x 14 12 = f at *
      cases h
      rcases hf with rfl | rfl | rfl | rfl | rfl | rfl | rfl | rfl <;> first
        | exact absurd rfl n1
        | exact absurd rfl n5
        | ((try dsimp only); exact good_of (by decide) (hr1) (hr2) (reg0) (hI) (fun h => absurd h (by decide)) (.inl (by decide)) (.inl (by decide)) (.inr rfl) (.inl (by decide)))
  split at h
  · rename_i h27
    simp only [Option.bind_some, plainOf] at h
    simp at h
    unfold immOf at h
    rw [if_pos h27] at h
    split at h
    · cases h
      ((try dsimp only); exact good_of (by decide) (hr1) (hr2) (reg0) (hI) (fun h => absurd h (by decide)) (.inl (by decide)) (.inl (by decide)) (.inr rfl) (.inl (by decide)))
    split at h
    · split at h
      · cases h
        ((try dsimp only); exact good_of (by decide) (hr1) (hr2) (reg0) (hsh5) (fun h => absurd h (by decide)) (.inl (by decide)) (.inl (by decide)) (.inr rfl) (.inl (by decide)))
      · cases h
    split at h
    · split at h
      · cases h
        ((try dsimp only); exact good_of (by decide) (hr1) (hr2) (reg0) (hsh5) (fun h => absurd h (by decide)) (.inl (by decide)) (.inl (by decide)) (.inr rfl) (.inl (by decide)))
      split at h
      · cases h
        ((try dsimp only); exact good_of (by decide) (hr1) (hr2) (reg0) (hsh5) (fun h => absurd h (by decide)) (.inl (by decide)) (.inl (by decide)) (.inr rfl) (.inl (by decide)))
      · cases h
    · cases h
  split at h
  · simp [plainOf] at h
    obtain ⟨hp, rfl⟩ := h
    ((try dsimp only); exact good_of (reg_fn x hp 8 rfl) (hr1) (hr2) (hr3) (imm0) (fun h => absurd h (by decide)) (.inl (by decide)) (.inl (by decide)) (.inl (by decide)) (.inr rfl))
  split at h
  · simp [plainOf] at h
    obtain ⟨hp, rfl⟩ := h
    ((try dsimp only); exact good_of (reg_fn x hp 8 rfl) (hr1) (hr2) (hr3) (imm0) (fun h => absurd h (by decide)) (.inl (by decide)) (.inl (by decide)) (.inl (by decide)) (.inr rfl))
  · cases h

theorem good_dec (x : Int) (i : Ins) (h : decOf x = some i) : Good i := by
  unfold decOf at h
  split at h
  · exact good_fence x i h
  split at h
  · exact good_sys x i h
  split at h
  · exact good_at x i h
  · exact good_rows x i h

theorem good_enc {i : Ins} {x : Int} (h : encodeOf i = some x) : Good i := by
  unfold encodeOf at h
  split at h
  · rename_i hd; exact good_dec _ _ hd
  · cases h
end Go.Proofs.YtmklpjelfonilaaGreatDoor
