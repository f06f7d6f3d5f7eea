/- Plain law: a number's digits read back as the number; a line's words. -/
import Derived.Lib.ItoaLen
import Derived.Lib.AtoiAllCases
import Derived.Lib.Strings
namespace Go.Proofs.YtmklpjelfonilaaGreatDoor
open Go

theorem dig_val (d : Nat) (h : d < 10) : (UInt8.ofNat (48 + d)).toNat = 48 + d := by
  rw [UInt8.toNat_ofNat', Nat.mod_eq_of_lt (by omega)]

theorem pu_one (acc d : Nat) (hd : d < 10) (h : acc * 10 + d < 18446744073709551616) : Lib.parseUint10 acc [UInt8.ofNat (48 + d)] = .ok (acc * 10 + d) := by
  have e := dig_val d hd
  simp only [Lib.parseUint10, e]
  rw [if_pos ⟨by omega, by omega⟩, if_neg (by omega), if_neg (by omega), show 48 + d - 48 = d from by omega]

theorem pu_snoc (l : List UInt8) (d : Nat) (hd : d < 10) : ∀ acc v, Lib.parseUint10 acc l = .ok v → v * 10 + d < 18446744073709551616 → Lib.parseUint10 acc (l ++ [UInt8.ofNat (48 + d)]) = .ok (v * 10 + d) := by
  induction l with
  | nil =>
    intro acc v h hv
    simp only [Lib.parseUint10] at h
    injection h with h
    subst h
    exact pu_one acc d hd hv
  | cons c l ih =>
    intro acc v h hv
    simp only [List.cons_append, Lib.parseUint10] at h ⊢
    split at h
    · rename_i hc
      rw [if_pos hc]
      split at h
      · cases h
      · rename_i h2
        rw [if_neg h2]
        split at h
        · cases h
        · rename_i h3
          rw [if_neg h3]
          exact ih _ v h hv
    · cases h

theorem dec_ne (u : Nat) : Lib.decDigits u ≠ [] := by
  rw [Lib.decDigits]; split <;> simp

theorem pu_dec (u : Nat) (h : u < 18446744073709551616) : Lib.parseUint10 0 (Lib.decDigits u) = .ok u := by
  induction u using Nat.strongRecOn with
  | _ u ih =>
    rw [Lib.decDigits]
    split
    · rename_i hlt
      rw [pu_one 0 u hlt (by omega)]
      congr 1; omega
    · rename_i hge
      rw [pu_snoc _ _ (by omega) 0 (u / 10) (ih (u / 10) (by omega) (by omega)) (by omega)]
      congr 1; omega

/-- Every byte of a numeral is a digit. -/
theorem dec_digits (u : Nat) : ∀ c ∈ Lib.decDigits u, 48 ≤ c.toNat ∧ c.toNat ≤ 57 := by
  induction u using Nat.strongRecOn with
  | _ u ih =>
    intro c hc
    rw [Lib.decDigits] at hc
    split at hc
    · rename_i hlt
      simp only [List.mem_singleton] at hc
      subst hc
      rw [dig_val u hlt]; omega
    · rcases List.mem_append.1 hc with hc | hc
      · exact ih _ (by omega) c hc
      · simp only [List.mem_singleton] at hc
        subst hc
        rw [dig_val _ (by omega)]; omega

theorem itoa_bytes (n : Int) : ∀ c ∈ Lib.itoa n, c = 45 ∨ (48 ≤ c.toNat ∧ c.toNat ≤ 57) := by
  intro c hc
  unfold Lib.itoa at hc
  split at hc
  · rcases List.mem_cons.1 hc with h | h
    · exact .inl h
    · exact .inr (dec_digits _ c h)
  · exact .inr (dec_digits _ c hc)

theorem itoa_ne (n : Int) : Lib.itoa n ≠ [] := by
  unfold Lib.itoa
  split
  · simp
  · exact dec_ne _

theorem atoi_itoa (n : Int) (h0 : -9223372036854775808 ≤ n) (h1 : n ≤ 9223372036854775807) : Lib.atoiAll (Lib.itoa n) = .ok n := by
  unfold Lib.itoa
  split
  · rename_i hneg
    have := pu_dec n.natAbs (by omega)
    rw [Lib.atoiAll_minus]
    unfold Lib.parseMag
    rw [if_neg (dec_ne _), this]
    unfold Lib.signed
    simp only
    rw [if_neg (by omega)]
    congr 1; omega
  · rename_i hpos
    have hp := pu_dec n.toNat (by omega)
    have hd := dec_digits n.toNat
    have hne := dec_ne n.toNat
    cases hl : Lib.decDigits n.toNat with
    | nil => exact absurd hl hne
    | cons c r =>
      rw [hl] at hp hd
      have hc := hd c (List.mem_cons_self ..)
      rw [Lib.atoiAll_plain c r (by omega) (by omega)]
      unfold Lib.parseMag
      rw [if_neg (by simp), hp]
      unfold Lib.signless
      simp only
      rw [if_neg (by omega)]
      congr 1; omega

/-- The signs that part words: a blank, a comma, a bracket. -/
def isSep (c : UInt8) : Bool := c = 32 || c = 44 || c = 40 || c = 41

/-- The words of a text: `cur` is the one that has begun. -/
def splitFrom (cur : List UInt8) : List UInt8 → List (List UInt8)
  | [] => if cur = [] then [] else [cur]
  | c :: cs => if isSep c then (if cur = [] then splitFrom [] cs else cur :: splitFrom [] cs) else splitFrom (cur ++ [c]) cs
def splitL (l : List UInt8) : List (List UInt8) := splitFrom [] l

theorem split_word (w : List UInt8) (hw : ∀ c ∈ w, isSep c = false) : ∀ (cur rest : List UInt8), splitFrom cur (w ++ rest) = splitFrom (cur ++ w) rest := by
  induction w with
  | nil => intro cur rest; simp
  | cons c w ih =>
    intro cur rest
    have hc := hw c (List.mem_cons_self ..)
    rw [List.cons_append, splitFrom, if_neg (by simp [hc]), ih (fun d hd => hw d (List.mem_cons_of_mem _ hd))]
    simp

theorem split_sep (c : UInt8) (h : isSep c = true) (rest : List UInt8) : splitFrom [] (c :: rest) = splitFrom [] rest := by rw [splitFrom, if_pos h, if_pos rfl]
theorem split_cut (w : List UInt8) (hne : w ≠ []) (c : UInt8) (h : isSep c = true) (rest : List UInt8) : splitFrom w (c :: rest) = w :: splitFrom [] rest := by rw [splitFrom, if_pos h, if_neg hne]
theorem split_end (w : List UInt8) (hne : w ≠ []) : splitFrom w [] = [w] := by rw [splitFrom, if_neg hne]
end Go.Proofs.YtmklpjelfonilaaGreatDoor
