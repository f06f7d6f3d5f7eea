/- Package asm: fill: an instruction's arguments, read. -/
import Derived.Test.YtmklpjelfonilaaGreatDoorE2
import Derived.Deep.Heap
namespace Go.Proofs.YtmklpjelfonilaaGreatDoor
open Go.RowKit
attribute [local go_sem] alloc_drewN setCell_drewN wext_size wext_drewN wext_drew wext_setCell wext_cell wext_frozen wext_wext lt_e1 lt_e2 lt_e3 lt_e4 lt_e5 lt_e6
set_option linter.unusedVariables false
set_option linter.unusedSimpArgs false

def setArg (i : Ins) (what n : Int) : Ins :=
  if what = 0 then { i with rd := n }
  else if what = 1 ∨ what = 5 then { i with rs1 := n }
  else if what = 2 then { i with rs2 := n }
  else if what = 4 then { i with imm := n * 4096 }
  else { i with imm := n }

/-- A word without the sign of a register. -/
def bareW (what : Int) (t : ByteArray) : ByteArray := if what ≤ 2 then ⟨(Lib.trimPrefix t.data.toList [120]).toArray⟩ else t
/-- The number that a word tells; none: it tells none, or one that is too great. -/
def numOf (t : ByteArray) : Option Int :=
  match Lib.atoiAll t.data.toList with
  | .ok n => if -4294967296 ≤ n ∧ n ≤ 4294967296 then some n else none
  | _ => none
def fillL : Ins → List Int → List ByteArray → Option Ins
  | i, what :: l, t :: ws => match numOf (bareW what t) with | some n => fillL (setArg i what n) l ws | none => none
  | i, _, _ => some i
def fillOf (i : Ins) (ws : List ByteArray) : Option Ins := if (argsOf i.kind).length = ws.length then fillL i (argsOf i.kind) ws else none

/-- Atoi, at every text, in a world whose variables stand. -/
theorem Atoi_any (t : ByteArray) (hl : t.size ≤ 281474976710656) (w : World) (hw : Env w) :
    Calls Tryz.prog 62 #[.string t] w fun e w' => (∃ n er, e = .returned (.tuple #[.int .i64 n, er]) ∧ ((Lib.atoiAll t.data.toList = .ok n ∧ er = .nilIface) ∨ ((∀ m, Lib.atoiAll t.data.toList ≠ .ok m) ∧ ∃ N, er = .iface 137 (.pointer (some ⟨N, 0, none⟩))))) ∧ Below w.heap.size w w' := by
  obtain ⟨tp, p, hs⟩ := hw.syn
  obtain ⟨tq, q, hr⟩ := hw.rng
  cases h : Lib.atoiAll t.data.toList with
  | ok n =>
    refine (Tryz.strconv_Atoi_ok t (by omega) n h w).mono ?_
    rintro e w' ⟨rfl, hw'⟩
    refine ⟨⟨n, _, rfl, .inl ⟨rfl, rfl⟩⟩, ?_⟩
    rcases hw' with rfl | ⟨tt, rfl⟩
    · exact Below.refl _ _
    · exact ⟨rfl, rfl, rfl, by rw [Lib.bytesWorld_size]; omega, fun j hj => Lib.bytesWorld_at_old w 5 tt j hj⟩
  | range =>
    refine (Tryz.strconv_Atoi_range_var t hl h tq q w hr).mono ?_
    rintro e w' ⟨N, rfl, _, _, hb⟩
    exact ⟨⟨_, _, rfl, .inr ⟨(fun m e => by cases e), N, rfl⟩⟩, hb⟩
  | _ =>
    refine (Tryz.strconv_Atoi_syntax_var t hl h tp p w hs).mono ?_
    rintro e w' ⟨N, rfl, _, _, hb⟩
    exact ⟨⟨_, _, rfl, .inr ⟨(fun m e => by cases e), N, rfl⟩⟩, hb⟩

theorem var_grown {P : Program} {w w' : World} {n : String} {g p : Nat} {cs : Array Value} (hg : P.globalNamed n = some g) (h : w.var? P n = some cs) (hb : w.grownBy w' (some p)) (hp : g ≠ p) : w'.var? P n = some cs := by
  simp only [World.var?, hg, Option.bind_some] at h ⊢
  have hlt : g < w.heap.size := by
    rcases Nat.lt_or_ge g w.heap.size with h' | h'
    · exact h'
    · simp [Array.getElem?_eq_none h'] at h
  rw [hb.block g hlt (fun e => hp (Option.some.inj e))]
  exact h
theorem Env.grown {w w' : World} {p : Nat} (h : Env w) (hb : w.grownBy w' (some p)) (hp : 4 ≤ p) : Env w' := by
  obtain ⟨a, ⟨tp, q, b⟩, ⟨tq, r, c⟩, d⟩ := h
  exact ⟨var_grown (g := 1) (by kernel_rfl) a hb (by omega), ⟨tp, q, var_grown (g := 2) (by kernel_rfl) b hb (by omega)⟩, ⟨tq, r, var_grown (g := 3) (by kernel_rfl) c hb (by omega)⟩, Nat.le_trans d hb.size⟩
theorem grown_trans {a b c : World} {r : Option Nat} (h1 : a.grownBy b r) (h2 : b.grownBy c r) : a.grownBy c r :=
  ⟨h2.os.trans h1.os, h2.tape.trans h1.tape, h2.output.trans h1.output, Nat.le_trans h1.size h2.size, fun k hk hr => (h2.block k (Nat.lt_of_lt_of_le hk h1.size) hr).trans (h1.block k hk hr)⟩
theorem grown_below {w w' : World} (h : Below w.heap.size w w') (row : Option Nat) : w.grownBy w' row := ⟨h.os, h.tape, h.output, h.size, fun k hk _ => h.block k hk⟩
theorem grown_set (w : World) (p o : Nat) (v : Value) : w.grownBy (w.setCell ⟨p, o, none⟩ v) (some p) := by
  refine ⟨rfl, rfl, rfl, by simp, fun k hk hr => ?_⟩
  exact Deep.blk_setCell_other w ⟨p, o, none⟩ v k (fun e => hr (by rw [e]))

theorem block_setCell6 {w : World} {g i : Nat} {cs : Array Value} {t : TypeId} {fr : Nat × Nat} (h : w.heap[g]? = some (.cells cs t fr)) (v : Value) : (w.setCell ⟨g, i, none⟩ v).heap[g]? = some (.cells (cs.setIfInBounds i v) t fr) := by
  simp only [World.setCell, Array.getElem?_modify]
  rw [if_pos trivial, h]
  rfl
theorem bareW_size (what : Int) (t : ByteArray) : (bareW what t).size ≤ t.size := by
  unfold bareW
  split
  · show (Lib.trimPrefix t.data.toList [120]).length ≤ t.data.toList.length
    unfold Lib.trimPrefix
    split <;> simp
  · exact Nat.le_refl _

set_option maxHeartbeats 6400000 in
set_option maxRecDepth 1000000 in
theorem fill_any (i : Ins) (p : Nat) (ws : List ByteArray) (wb o c : Nat) (w : World) (hw : Env w) (hp : w.heap[p]? = some (.cells i.cells.toArray 23 (0, 0))) (hp4 : 4 ≤ p) (hws : ∀ j t, ws[j]? = some t → w.cell? ⟨wb, o + j, none⟩ = some (.string t)) (hwp : wb ≠ p) (hwl : wb < w.heap.size) (hsz : ∀ t ∈ ws, t.size ≤ 281474976710656) (hn : ws.length ≤ 1099511627776) :
    Calls Tryz.prog 40 #[.pointer (some ⟨p, 0, none⟩), .slice (some ⟨wb, o, none⟩) ws.length c] w fun e w' => e = .returned (.bool (fillOf i ws).isSome) ∧ w.grownBy w' (some p) ∧ (∀ j, fillOf i ws = some j → w'.heap[p]? = some (.cells j.cells.toArray 23 (0, 0))) := by
  obtain ⟨sh, hsh⟩ : ∃ sh, shapeOf i.kind = sh := ⟨_, rfl⟩
  obtain ⟨l, hl⟩ : ∃ l, argsOf i.kind = l := ⟨_, rfl⟩
  have hF := Lib.hid (form_at hsh hl)
  have hl3 : l.length ≤ 3 := by rw [← hl]; exact (shape_ok i.kind).2.2.2
  have hfo : fillOf i ws = if l.length = ws.length then fillL i l ws else none := by unfold fillOf; rw [hl]
  rw [hfo]
  clear hfo hsh hl
  have HWS := Lib.hid hws
  have HSZ := Lib.hid hsz
  clear hws hsz
  have hpl : p < w.heap.size := (Array.getElem?_eq_some_iff.1 hp).1
  obtain ⟨g0, g1, g2, g3, g4, g5, g6, g7⟩ := box8 hp
  by_cases hln : l.length = ws.length
  · rw [if_pos hln]
    have hne : ((l.length : Int) != (ws.length : Int)) = false := by rw [bne_eq_false_iff_eq]; omega
    go_enter Tryz.func40, Tryz.ntmps40
    go_upto_region 4 with (go_at_call 25; refine (hF.out _).mono ?_; rintro e w1 ⟨ao, rfl, hA1, hb1⟩)
    have hA2 : l = [] ∧ ao = none ∨ ∃ lb, ao = some ⟨lb, 0, none⟩ ∧ lb ≠ p ∧ lb ≠ wb ∧ w1.heap[lb]? = some (.cells (l.map (Value.int .i64)).toArray 3 (0, 0)) := by
      rcases hA1 with h | ⟨lb, h1, h2, h3⟩
      · exact .inl h
      · exact .inr ⟨lb, h1, by omega, by omega, h3⟩
    have hp1 : w1.heap[p]? = some (.cells i.cells.toArray 23 (0, 0)) := (hb1.block p hpl).trans hp
    have hg1 := grown_below hb1 (some p)
    clear hA1 hb1 g0 g1 g2 g3 g4 g5 g6 g7
    go_wp2
    go_loopw [27] (fun v27 wr => ∃ (k : Nat) (cur : Ins), k ≤ l.length ∧ v27 = .int .i64 (k : Int) ∧ w.grownBy wr (some p) ∧ wr.heap[p]? = some (.cells cur.cells.toArray 23 (0, 0)) ∧ (l = [] ∧ ao = none ∨ ∃ lb, ao = some ⟨lb, 0, none⟩ ∧ lb ≠ p ∧ lb ≠ wb ∧ wr.heap[lb]? = some (.cells (l.map (Value.int .i64)).toArray 3 (0, 0))) ∧ Hid (fillL cur (l.drop k) (ws.drop k) = fillL i l ws)) (fun v27 wr => l.length - (intOf v27).toNat)
    case atStart => exact ⟨0, i, by omega, rfl, hg1, hp1, hA2, Lib.hid rfl⟩
    case round =>
      clear hp1 hg1 hA2
      obtain ⟨k, cur, hk, rfl, hg, hp2, hA, HL⟩ := hrel
      by_cases hkl : k < l.length
      · have hkw : k < ws.length := by omega
        obtain ⟨what, hwh⟩ : ∃ y, l[k]'hkl = y := ⟨_, rfl⟩
        obtain ⟨tx, htx⟩ : ∃ y, ws[k]'hkw = y := ⟨_, rfl⟩
        have hgw : l[k]? = some what := by rw [List.getElem?_eq_getElem hkl, hwh]
        have hgt : ws[k]? = some tx := by rw [List.getElem?_eq_getElem hkw, htx]
        have htz : tx.size ≤ 281474976710656 := HSZ.out tx (List.mem_of_getElem? hgt)
        have HL2 : fillL cur (what :: l.drop (k + 1)) (tx :: ws.drop (k + 1)) = fillL i l ws := by
          rw [← HL.out, List.drop_eq_getElem_cons hkl, List.drop_eq_getElem_cons hkw, hwh, htx]
        rw [fillL] at HL2
        have HL3 := Lib.hid HL2
        clear HL HL2 hwh htx
        rcases hA with ⟨rfl, _⟩ | ⟨lb, rfl, hlp, hlw, hlc⟩
        · simp at hkl
        have gl := lcell hlc k what hgw
        have gt : wr.cell? ⟨wb, o + k, none⟩ = some (.string tx) := by
          rw [World.cell?_of_block (hg.block wb hwl (fun e => hwp (Option.some.inj e)))]
          exact HWS.out k tx hgt
        have hd : decide ((k : Int) < (l.length : Int)) = true := decide_eq_true (by omega)
        have hd2 : decide (k < ws.length) = true := decide_eq_true hkw
        have hEnv := Lib.hid (hw.grown hg hp4)
        obtain ⟨bt, hbt⟩ : ∃ bt, bareW what tx = bt := ⟨_, rfl⟩
        have hbz : bt.size ≤ 281474976710656 := by rw [← hbt]; exact Nat.le_trans (bareW_size what tx) htz
        have hAt := Lib.hid (Atoi_any bt hbz)
        rw [hbt] at HL3
        by_cases h2 : what ≤ 2
        · have hT : ∀ W, Calls Tryz.prog 61 #[.string tx, .string ⟨#[120]⟩] W fun e w' => e = .returned (.string bt) ∧ w' = W := fun W => by
            rw [← hbt]; unfold bareW; rw [if_pos h2]; exact Tryz.strings_TrimPrefix tx ⟨#[120]⟩ W
          have hT := Lib.hid hT
          have hd3 : decide (what ≤ 2) = true := decide_eq_true h2
          clear hbt
          go_upto_region 11 with (first
            | (go_at_call 61; refine (hT.out _).mono ?_; rintro e w5 ⟨rfl, rfl⟩)
            | (go_at_call 62; refine (hAt.out _ hEnv.out).mono ?_; rintro e w6 ⟨⟨n, er, rfl, hne2⟩, hb6⟩))
          have hg6 : w.grownBy w6 (some p) := grown_trans hg (grown_below hb6 _)
          have hp6 : w6.heap[p]? = some (.cells cur.cells.toArray 23 (0, 0)) := (hb6.block p (Nat.lt_of_lt_of_le hpl hg.size)).trans hp2
          have hlc6 : w6.heap[lb]? = some (.cells (l.map (Value.int .i64)).toArray 3 (0, 0)) := (hb6.block lb (Array.getElem?_eq_some_iff.1 hlc).1).trans hlc
          clear gl gt hEnv
          rcases hne2 with ⟨hok, rfl⟩ | ⟨hno, N, rfl⟩
          · by_cases hin : -4294967296 ≤ n ∧ n ≤ 4294967296
            · have hnum : numOf bt = some n := by unfold numOf; rw [hok]; simp [hin]
              have HF := HL3.out
              rw [hnum] at HF
              have HF := Lib.hid HF
              have hd5 : decide (n < -4294967296) = false := decide_eq_false (by omega)
              have hd6 : decide (4294967296 < n) = false := decide_eq_false (by omega)
              obtain ⟨y0, y1, y2, y3, y4, y5, y6, y7⟩ := box8 hp6
              obtain ⟨hnlo, hnhi⟩ := hin
              clear hok hnum HL3
              have hset : ∀ (o' : Nat) (v : Value) (j : Ins), cur.cells.toArray.setIfInBounds o' v = j.cells.toArray → (w6.setCell ⟨p, o', none⟩ v).heap[p]? = some (.cells j.cells.toArray 23 (0, 0)) := by
                intro o' v j hj
                rw [← hj]
                exact block_setCell6 hp6 v
              have hgs : ∀ (o' : Nat) (v : Value), w.grownBy (w6.setCell ⟨p, o', none⟩ v) (some p) := fun o' v => grown_trans hg6 (grown_set w6 p o' v)
              have hls : ∀ (o' : Nat) (v : Value), (w6.setCell ⟨p, o', none⟩ v).heap[lb]? = some (.cells (l.map (Value.int .i64)).toArray 3 (0, 0)) := fun o' v => (Deep.blk_setCell_other w6 _ v lb hlp).trans hlc6
              have hset := Lib.hid hset
              have hgs := Lib.hid hgs
              have hls := Lib.hid hls
              have fz : ∀ o', w6.frozen? ⟨p, o', none⟩ = false := fun o' => Lib.frozen_of_heap hp6 o'
              by_cases e0 : what = 0
              · subst e0
                have HF := Lib.hid (show fillL { cur with rd := n } (l.drop (k + 1)) (ws.drop (k + 1)) = fillL i l ws from HF.out)
                go_wp2
                go_roundw
                case rel => exact ⟨k + 1, _, by omega, by go_num, hgs.out _ _, hset.out _ _ { cur with rd := n } rfl, .inr ⟨lb, rfl, hlp, hlw, hls.out _ _⟩, HF⟩
                case measure => simp [intOf]; omega
              by_cases e1 : what = 1
              · subst e1
                have HF := Lib.hid (show fillL { cur with rs1 := n } (l.drop (k + 1)) (ws.drop (k + 1)) = fillL i l ws from HF.out)
                go_wp2
                go_roundw
                case rel => exact ⟨k + 1, _, by omega, by go_num, hgs.out _ _, hset.out _ _ { cur with rs1 := n } rfl, .inr ⟨lb, rfl, hlp, hlw, hls.out _ _⟩, HF⟩
                case measure => simp [intOf]; omega
              by_cases e5 : what = 5
              · subst e5; exact absurd h2 (by decide)
              by_cases e2 : what = 2
              · subst e2
                have HF := Lib.hid (show fillL { cur with rs2 := n } (l.drop (k + 1)) (ws.drop (k + 1)) = fillL i l ws from HF.out)
                go_wp2
                go_roundw
                case rel => exact ⟨k + 1, _, by omega, by go_num, hgs.out _ _, hset.out _ _ { cur with rs2 := n } rfl, .inr ⟨lb, rfl, hlp, hlw, hls.out _ _⟩, HF⟩
                case measure => simp [intOf]; omega
              by_cases e4 : what = 4
              · subst e4; exact absurd h2 (by decide)
              have HF := Lib.hid (show fillL { cur with imm := n } (l.drop (k + 1)) (ws.drop (k + 1)) = fillL i l ws from by have this : fillL (setArg cur what n) (l.drop (k + 1)) (ws.drop (k + 1)) = fillL i l ws := HF.out; unfold setArg at this; rw [if_neg e0, if_neg (by omega), if_neg e2, if_neg e4] at this; exact this)
              have q0 := beq_false e0
              have q1 := beq_false e1
              have q5 := beq_false e5
              have q2 := beq_false e2
              have q4 := beq_false e4
              clear e0 e1 e5 e2 e4
              go_wp2
              go_roundw
              case rel => exact ⟨k + 1, _, by omega, by go_num, hgs.out _ _, hset.out _ _ { cur with imm := n } rfl, .inr ⟨lb, rfl, hlp, hlw, hls.out _ _⟩, HF⟩
              case measure => simp [intOf]; omega
            · have hnum : numOf bt = none := by unfold numOf; rw [hok]; simp only [if_neg hin]
              have HF := HL3.out
              rw [hnum] at HF
              by_cases hlo : n < -4294967296
              · have hd5 : decide (n < -4294967296) = true := decide_eq_true hlo
                go_wp2
                go_ret
                exact ⟨by rw [← HF]; rfl, hg6, by intro j h; rw [← HF] at h; cases h⟩
              · have hd5 : decide (n < -4294967296) = false := decide_eq_false hlo
                have hd6 : decide (4294967296 < n) = true := decide_eq_true (by omega)
                go_wp2
                go_ret
                exact ⟨by rw [← HF]; rfl, hg6, by intro j h; rw [← HF] at h; cases h⟩
          · have hnum : numOf bt = none := by
              unfold numOf
              cases h : Lib.atoiAll bt.data.toList with
              | ok m => exact absurd h (hno m)
              | range => rfl
              | _ => rfl
            have HF := HL3.out
            rw [hnum] at HF
            go_wp2
            go_ret
            exact ⟨by rw [← HF]; rfl, hg6, by intro j h; rw [← HF] at h; cases h⟩
        · have hbt' : bt = tx := by rw [← hbt]; unfold bareW; rw [if_neg h2]
          subst hbt'
          have hd3 : decide (what ≤ 2) = false := decide_eq_false h2
          clear hbt
          go_upto_region 11 with (go_at_call 62; refine (hAt.out _ hEnv.out).mono ?_; rintro e w6 ⟨⟨n, er, rfl, hne2⟩, hb6⟩)
          have hg6 : w.grownBy w6 (some p) := grown_trans hg (grown_below hb6 _)
          have hp6 : w6.heap[p]? = some (.cells cur.cells.toArray 23 (0, 0)) := (hb6.block p (Nat.lt_of_lt_of_le hpl hg.size)).trans hp2
          have hlc6 : w6.heap[lb]? = some (.cells (l.map (Value.int .i64)).toArray 3 (0, 0)) := (hb6.block lb (Array.getElem?_eq_some_iff.1 hlc).1).trans hlc
          clear gl gt hEnv
          rcases hne2 with ⟨hok, rfl⟩ | ⟨hno, N, rfl⟩
          · by_cases hin : -4294967296 ≤ n ∧ n ≤ 4294967296
            · have hnum : numOf bt = some n := by unfold numOf; rw [hok]; simp [hin]
              have HF := HL3.out
              rw [hnum] at HF
              have HF := Lib.hid HF
              have hd5 : decide (n < -4294967296) = false := decide_eq_false (by omega)
              have hd6 : decide (4294967296 < n) = false := decide_eq_false (by omega)
              obtain ⟨y0, y1, y2, y3, y4, y5, y6, y7⟩ := box8 hp6
              obtain ⟨hnlo, hnhi⟩ := hin
              clear hok hnum HL3
              have hset : ∀ (o' : Nat) (v : Value) (j : Ins), cur.cells.toArray.setIfInBounds o' v = j.cells.toArray → (w6.setCell ⟨p, o', none⟩ v).heap[p]? = some (.cells j.cells.toArray 23 (0, 0)) := by
                intro o' v j hj
                rw [← hj]
                exact block_setCell6 hp6 v
              have hgs : ∀ (o' : Nat) (v : Value), w.grownBy (w6.setCell ⟨p, o', none⟩ v) (some p) := fun o' v => grown_trans hg6 (grown_set w6 p o' v)
              have hls : ∀ (o' : Nat) (v : Value), (w6.setCell ⟨p, o', none⟩ v).heap[lb]? = some (.cells (l.map (Value.int .i64)).toArray 3 (0, 0)) := fun o' v => (Deep.blk_setCell_other w6 _ v lb hlp).trans hlc6
              have hset := Lib.hid hset
              have hgs := Lib.hid hgs
              have hls := Lib.hid hls
              have fz : ∀ o', w6.frozen? ⟨p, o', none⟩ = false := fun o' => Lib.frozen_of_heap hp6 o'
              by_cases e0 : what = 0
              · subst e0; exact absurd h2 (by decide)
              by_cases e1 : what = 1
              · subst e1; exact absurd h2 (by decide)
              by_cases e5 : what = 5
              · subst e5
                have HF := Lib.hid (show fillL { cur with rs1 := n } (l.drop (k + 1)) (ws.drop (k + 1)) = fillL i l ws from HF.out)
                go_wp2
                go_roundw
                case rel => exact ⟨k + 1, _, by omega, by go_num, hgs.out _ _, hset.out _ _ { cur with rs1 := n } rfl, .inr ⟨lb, rfl, hlp, hlw, hls.out _ _⟩, HF⟩
                case measure => simp [intOf]; omega
              by_cases e2 : what = 2
              · subst e2; exact absurd h2 (by decide)
              by_cases e4 : what = 4
              · subst e4
                have HF := Lib.hid (show fillL { cur with imm := n * 4096 } (l.drop (k + 1)) (ws.drop (k + 1)) = fillL i l ws from HF.out)
                go_wp2
                go_roundw
                case rel => exact ⟨k + 1, _, by omega, by go_num, hgs.out _ _, hset.out _ _ { cur with imm := n * 4096 } rfl, .inr ⟨lb, rfl, hlp, hlw, hls.out _ _⟩, HF⟩
                case measure => simp [intOf]; omega
              have HF := Lib.hid (show fillL { cur with imm := n } (l.drop (k + 1)) (ws.drop (k + 1)) = fillL i l ws from by have this : fillL (setArg cur what n) (l.drop (k + 1)) (ws.drop (k + 1)) = fillL i l ws := HF.out; unfold setArg at this; rw [if_neg e0, if_neg (by omega), if_neg e2, if_neg e4] at this; exact this)
              have q0 := beq_false e0
              have q1 := beq_false e1
              have q5 := beq_false e5
              have q2 := beq_false e2
              have q4 := beq_false e4
              clear e0 e1 e5 e2 e4
              go_wp2
              go_roundw
              case rel => exact ⟨k + 1, _, by omega, by go_num, hgs.out _ _, hset.out _ _ { cur with imm := n } rfl, .inr ⟨lb, rfl, hlp, hlw, hls.out _ _⟩, HF⟩
              case measure => simp [intOf]; omega
            · have hnum : numOf bt = none := by unfold numOf; rw [hok]; simp only [if_neg hin]
              have HF := HL3.out
              rw [hnum] at HF
              by_cases hlo : n < -4294967296
              · have hd5 : decide (n < -4294967296) = true := decide_eq_true hlo
                go_wp2
                go_ret
                exact ⟨by rw [← HF]; rfl, hg6, by intro j h; rw [← HF] at h; cases h⟩
              · have hd5 : decide (n < -4294967296) = false := decide_eq_false hlo
                have hd6 : decide (4294967296 < n) = true := decide_eq_true (by omega)
                go_wp2
                go_ret
                exact ⟨by rw [← HF]; rfl, hg6, by intro j h; rw [← HF] at h; cases h⟩
          · have hnum : numOf bt = none := by
              unfold numOf
              cases h : Lib.atoiAll bt.data.toList with
              | ok m => exact absurd h (hno m)
              | range => rfl
              | _ => rfl
            have HF := HL3.out
            rw [hnum] at HF
            go_wp2
            go_ret
            exact ⟨by rw [← HF]; rfl, hg6, by intro j h; rw [← HF] at h; cases h⟩
      · have hkk : k = l.length := by omega
        subst hkk
        have hf : fillL i l ws = some cur := by
          rw [← HL.out, List.drop_length, hln, List.drop_length]; rfl
        go_wp2
        go_ret
        rw [hf]
        exact ⟨rfl, hg, by intro j h; cases h; exact hp2⟩
  · rw [if_neg hln]
    have hne : ((l.length : Int) != (ws.length : Int)) = true := by rw [bne_iff_ne]; omega
    go_enter Tryz.func40, Tryz.ntmps40
    go_wp2_with (go_at_call 25; refine (hF.out _).mono ?_; rintro e w1 ⟨ao, rfl, hA1, hb1⟩)
    go_ret
    exact ⟨rfl, grown_below hb1 _, by intro j h; cases h⟩
end Go.Proofs.YtmklpjelfonilaaGreatDoor
