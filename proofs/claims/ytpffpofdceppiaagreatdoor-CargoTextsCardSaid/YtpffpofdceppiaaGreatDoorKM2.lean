/- A part of the proof that laganlaw01.CargoTexts answers true at every input and leaves its arguments as they were; the conditions are those of the given row and card, nothing else. -/
import Derived.Test.YtpffpofdceppiaaGreatDoorKM0
import Derived.Test.YtpffpofdceppiaaGreatDoorKA8
import Derived.Maps.OwnOps
import Derived.Maps.RangeWalk
import Derived.RangeFuncBox
import Derived.RangeFuncLeaves
import Derived.RangeFuncFrom
import Derived.RangeFuncNested
import Derived.RangeFuncBound
import Derived.RangeFuncCalls
import Derived.RangeFuncWrites
import Derived.OwnWalkIn
import Derived.TacticsInMore
import Derived.LoopNIn
import Derived.LoopIn
set_option linter.unusedSimpArgs false
set_option linter.unusedVariables false
namespace Go.Proofs.YtpffpofdceppiaaGreatDoor
open Go.RowKit Go.Shelf
open Go.ChangeMaps (setBlock)

/-- 'm[k] = v' at the operation. -/
theorem wpList_update_at {P : Program} {κ ε : Type} [DecidableEq κ] {kt et : TypeId} {kv : κ → Value} {ev : ε → Value} {w : World} {b : Nat} {f : κ → Option ε} {T : TypeId} {ops : Array Oper} {rest : List Oper} {o : Oper} {a : Act} {Q : Exit → Act → World → Prop}
    (hg : o.guard = none) (m x v : Operand) (hop : o.op = Op.mapUpdate T m x v) (K : KeyOK P kt kv) (ht : P.underlying T = some (.map kt et)) (hm : a.eval m = .map (some b)) (h : MapAt kv ev w b f)
    (k : κ) (y : ε) (hx : a.eval x = kv k) (hv : a.eval v = ev y)
    (hK : ∀ ob, MapAt kv ev (setBlock w b ob) b (fun k' => if k' = k then some y else f k') → wpList P ops Q rest (a.put o.dst undef) (setBlock w b ob)) :
    wpList P ops Q (o :: rest) a w := by
  refine wpList_plain hg fun K' hK' => ?_
  obtain ⟨ob, hrun, r1⟩ := h.update K ht k y
  unfold Oper.wp
  simp [execOp, hop, hm, hx, hv, hrun, Result.andThen]
  exact hK' _ _ (hK ob r1)

theorem below_setBlock {B : Nat} {w0 w : World} {b : Nat} {ob : Obj} (h : Below B w0 w) (hb : B ≤ b) : Below B w0 (setBlock w b ob) :=
  h.trans ⟨rfl, rfl, rfl, by simp [setBlock], fun k hk => setBlock_other (by omega)⟩

theorem cell_setBlock {w : World} {b c o : Nat} {ob : Obj} (hc : c ≠ b) : (setBlock w b ob).cell? ⟨c, o, none⟩ = w.cell? ⟨c, o, none⟩ := World.cell?_of_block (w := w) (setBlock_other hc)

/-- Whether a PaperVoid that is known names an Id. -/
def voidOf (l : List Paper) (known : Int) (k : Int) : Bool := l.any (fun x => x.kind == 3 && decide (x.known ≤ known) && x.of == k)
def voidMap (l : List Paper) (known : Int) (k : Int) : Option Bool := if voidOf l known k then some true else none

theorem voidMap_no (l : List Paper) (x : Paper) (known : Int) (h : (x.kind == 3 && decide (x.known ≤ known)) = false) : voidMap (l ++ [x]) known = voidMap l known := by
  funext k
  simp only [voidMap, voidOf, List.any_append, List.any_cons, List.any_nil, h, Bool.false_and, Bool.or_false]
  rfl
theorem voidMap_yes (l : List Paper) (x : Paper) (known : Int) (h : (x.kind == 3 && decide (x.known ≤ known)) = true) : voidMap (l ++ [x]) known = fun k => if k = x.of then some true else voidMap l known k := by
  funext k
  simp only [voidMap, voidOf, List.any_append, List.any_cons, List.any_nil, h, Bool.true_and, Bool.or_false]
  by_cases hk : k = x.of
  · subst hk; simp
  · have : (x.of == k) = false := by simpa using fun q => hk q.symm
    simp [hk, this]

abbrev VoidAt (w : World) (b : Nat) (f : Int → Option Bool) : Prop := MapAt (fun k : Int => .int .i64 k) (fun x : Bool => .bool x) w b f

set_option maxRecDepth 100000 in
set_option maxHeartbeats 4000000 in
theorem counting_any (v : Value) (l : List Paper) (known : Int) (w : World) (hv : PapersAt w v l) (hn : l.length ≤ 1000) :
    Calls Tryz.prog 133 #[v, .int .i64 known] w fun e w' => ∃ B2 B3 B5 Bm, e = .returned (.func (.func 182) #[] #[.pointer (some ⟨B2, 0, none⟩), .pointer (some ⟨B3, 0, none⟩), .pointer (some ⟨B5, 0, none⟩)]) ∧
      w'.cell? ⟨B2, 0, none⟩ = some v ∧ w'.cell? ⟨B3, 0, none⟩ = some (.int .i64 known) ∧ w'.cell? ⟨B5, 0, none⟩ = some (.map (some Bm)) ∧ VoidAt w' Bm (voidMap l known) ∧
      B2 < w'.heap.size ∧ B3 < w'.heap.size ∧ B5 < w'.heap.size ∧ w.heap.size ≤ B2 ∧ w.heap.size ≤ B3 ∧ w.heap.size ≤ B5 ∧ w.heap.size ≤ Bm ∧ Below w.heap.size w w' := by
  obtain ⟨a, c, rfl, h1, h2, h3⟩ := hv
  have hmm := @run_makeMap Tryz.prog
  go_enter Tryz.func133, Tryz.ntmps133
  go_wp2
  have hst : VoidAt ((((w.alloc (.cells #[.slice a l.length c] 30)).alloc (.cells #[.int .i64 known] 3)).alloc (.map #[] 0)).alloc (.cells #[.map (some (w.heap.size + 1 + 1))] 183)) (w.heap.size + 1 + 1) (voidMap [] known) := by
    have h0 := MapAt.made (kv := fun k : Int => .int .i64 k) (ev := fun x : Bool => .bool x) ((w.alloc (.cells #[.slice a l.length c] 30)).alloc (.cells #[.int .i64 known] 3))
    simp only [World.size_alloc] at h0
    exact h0.kept ((MapKept.heap_alloc _ _).2 _ (by simp))
  go_loopw [11] (fun s11 wr => ∃ kk : Nat, kk ≤ l.length ∧ s11 = .int .i64 kk ∧ wr.cell? ⟨w.heap.size, 0, none⟩ = some (.slice a l.length c) ∧ wr.cell? ⟨w.heap.size + 1, 0, none⟩ = some (.int .i64 known) ∧
      wr.cell? ⟨w.heap.size + 1 + 1 + 1, 0, none⟩ = some (.map (some (w.heap.size + 1 + 1))) ∧ VoidAt wr (w.heap.size + 1 + 1) (voidMap (l.take kk) known) ∧ w.heap.size + 1 + 1 + 1 < wr.heap.size ∧ Below w.heap.size w wr) (fun s11 _ => l.length - (intOf s11).toNat)
  case atStart => exact ⟨0, Nat.zero_le _, rfl, by go_simp, by go_simp, by go_simp, hst, by simp, (((((Below.refl _ w).alloc (Nat.le_refl _) _).alloc (by simp) _).alloc (by simp <;> omega) _).alloc (by simp <;> omega) _)⟩
  case round =>
    clear hst
    obtain ⟨kk, hkk, rfl, k2, k3, k5, hm, hlt3, hb⟩ := hrel
    by_cases hlt : kk < l.length
    · obtain ⟨b, off, rfl, hbs, hcell⟩ := h3 (by omega)
      obtain ⟨c0, c1, c2, c3, c4, c5, c6, c7, c8, c9, c10, c11, c12, c13⟩ := paper_cells (w := wr) (b := b) (o := off + kk * 14) l[kk] (fun i u hu => (hb.cell (p := ⟨b, off + kk * 14 + i, none⟩) hbs).trans (hcell kk hlt i u hu))
      have hT : Hid (l.take (kk + 1) = l.take kk ++ [l[kk]]) := by show _ = _; rw [List.take_succ_eq_append_getElem hlt]
      clear hcell h3
      generalize l[kk] = x at *
      have hno := Lib.hid (voidMap_no (l.take kk) x known)
      have hyes := Lib.hid (voidMap_yes (l.take kk) x known)
      have hsz : w.heap.size ≤ wr.heap.size := hb.size
      have hM := Lib.hid (hm.kept (w' := wr.alloc (boxOf x)) ((MapKept.heap_alloc _ _).2 _ (by omega)))
      have hne : Hid (∀ i, i < wr.heap.size → (wr.alloc (boxOf x)).cell? ⟨i, 0, none⟩ = wr.cell? ⟨i, 0, none⟩) := fun i hi => World.cell?_of_block (w := wr) ((MapKept.heap_alloc _ _).2 _ hi)
      have hbW : Below w.heap.size w (wr.alloc (boxOf x)) := hb.alloc hb.size _
      have hszW : (wr.alloc (boxOf x)).heap.size = wr.heap.size + 1 := by simp
      clear hm
      have q1 : w.heap.size + 1 < wr.heap.size := by omega
      have q2 : w.heap.size + 1 ≠ wr.heap.size := by omega
      have q3 : w.heap.size + 1 + 1 + 1 ≠ wr.heap.size := by omega
      have e2 := (hne.out w.heap.size (by omega)).trans k2
      have e3 := (hne.out (w.heap.size + 1) (by omega)).trans k3
      have e5 := (hne.out (w.heap.size + 1 + 1 + 1) (by omega)).trans k5
      have E2 := Lib.hid e2; have E3 := Lib.hid e3; have E5 := Lib.hid e5
      clear e2 e3 e5
      cases g1 : (x.kind == 3)
      · go_wp2_with fail
        go_roundw
        case rel => exact ⟨kk + 1, by omega, by go_num, E2.out, E3.out, E5.out, by rw [hT.out, hno.out (by rw [g1]; rfl)]; exact hM.out, by simp; omega, hbW⟩
        case measure => simp [intOf]; omega
      · by_cases g2 : x.known ≤ known
        · go_wp2_with (at_mapUpdate; refine wpList_update_at rfl _ _ _ rfl int_key Tryz.underlying183 rfl hM.out x.of true rfl rfl ?_; intro ob hM')
          go_roundw
          case rel => exact ⟨kk + 1, by omega, by go_num, (cell_setBlock (by omega)).trans E2.out, (cell_setBlock (by omega)).trans E3.out, (cell_setBlock (by omega)).trans E5.out, by rw [hT.out, hyes.out (by rw [g1, decide_eq_true g2]; rfl)]; exact hM', by simp [setBlock]; omega, below_setBlock hbW (by omega)⟩
          case measure => simp [intOf]; omega
        · go_wp2_with fail
          go_roundw
          case rel => exact ⟨kk + 1, by omega, by go_num, E2.out, E3.out, E5.out, by rw [hT.out, hno.out (by rw [g1]; simp; omega)]; exact hM.out, by simp; omega, hbW⟩
          case measure => simp [intOf]; omega
    · obtain rfl : kk = l.length := by omega
      clear h3
      go_wp2
      go_ret
      rw [List.take_of_length_le (Nat.le_refl _)] at hm
      exact ⟨_, _, _, _, rfl, k2, k3, k5, hm, by omega, by omega, hlt3, by omega, by omega, by omega, by omega, hb⟩

end Go.Proofs.YtpffpofdceppiaaGreatDoor

set_option linter.unusedSimpArgs false
set_option linter.unusedVariables false
namespace Go.Proofs.YtpffpofdceppiaaGreatDoor
open Go.RowKit Go.Shelf
open Go.ChangeMaps (setBlock)

attribute [local go_sem] Oper.semAt_some

/-- Whether a paper counts. -/
def cnt (l : List Paper) (known : Int) (x : Paper) : Bool := (x.kind != 3) && decide (x.known ≤ known) && !(voidOf l known x.id)
def counting (l : List Paper) (known : Int) : List Paper := l.filter (cnt l known)

/-- All below n but block m lies as it lay. -/
structure KeptBut (n m : Nat) (w w' : World) : Prop where
  os : w'.os = w.os
  tape : w'.tape = w.tape
  output : w'.output = w.output
  size : w.heap.size ≤ w'.heap.size
  block : ∀ k, k < n → k ≠ m → w'.heap[k]? = w.heap[k]?

theorem KeptBut.refl (n m : Nat) (w : World) : KeptBut n m w w := ⟨rfl, rfl, rfl, Nat.le_refl _, fun _ _ _ => rfl⟩
theorem KeptBut.of {n m : Nat} {w w' : World} (h : Below n w w') : KeptBut n m w w' := ⟨h.os, h.tape, h.output, h.size, fun k hk _ => h.block k hk⟩
theorem KeptBut.below {n m : Nat} {w w' : World} (h : KeptBut n m w w') (hm : n ≤ m) : Below n w w' := ⟨h.os, h.tape, h.output, h.size, fun k hk => h.block k hk (by omega)⟩
theorem KeptBut.trans {n m : Nat} {a b c : World} (h : KeptBut n m a b) (k : KeptBut n m b c) : KeptBut n m a c :=
  ⟨k.os.trans h.os, k.tape.trans h.tape, k.output.trans h.output, Nat.le_trans h.size k.size, fun i hi hm => (k.block i hi hm).trans (h.block i hi hm)⟩
theorem KeptBut.alloc {n m : Nat} {a w : World} (h : KeptBut n m a w) (hB : n ≤ w.heap.size) (o : Obj) : KeptBut n m a (w.alloc o) :=
  h.trans (.of ((Below.refl _ w).alloc hB o))
theorem KeptBut.cell {n m : Nat} {w w' : World} (h : KeptBut n m w w') {p : Addr} (hp : p.block < n) (hm : p.block ≠ m) : w'.cell? p = w.cell? p := World.cell?_of_block (w := w) (h.block p.block hp hm)
theorem KeptBut.setBlock {n m : Nat} {a w : World} (h : KeptBut n m a w) (o : Obj) : KeptBut n m a (setBlock w m o) :=
  h.trans ⟨rfl, rfl, rfl, by simp [Go.ChangeMaps.setBlock], fun k hk hm => setBlock_other hm⟩

theorem void_look (W : World) (Bm : Nat) (l : List Paper) (known k : Int) (h : VoidAt W Bm (voidMap l known)) :
    (Instr.lookup 183 (.map (some Bm)) (.int .i64 k) false).run Tryz.prog W = .ok (.bool (voidOf l known k)) W := by
  have hz : (zeroValue 4).run Tryz.prog W = .ok (.bool false) W := by kernel_rfl
  have := h.lookup int_key Tryz.underlying183 k (.bool false) hz false
  simp only [Bool.false_eq_true, if_false] at this
  rw [this]
  unfold voidMap
  cases voidOf l known k <;> rfl

set_option maxRecDepth 100000 in
set_option maxHeartbeats 4000000 in
theorem counting1_in (n : Nat) (hn1 : 1 ≤ n) (lp B2 B3 B5 Bm n₀ m₀ : Nat) (v : Value) (l : List Paper) (known : Int) (hn : l.length ≤ 1000) (J Jx : List Paper → World → Prop) (W : World) (hn0 : n₀ ≤ W.heap.size)
    (hJa : ∀ s A o, J s A → J s (A.alloc o))
    (hY : ∀ pre x W1, J pre W1 → pre.length < (counting l known).length → YieldAt Fence.wide (n - 1) Tryz.prog lp #[.agg x.vals.toArray] W1 fun e W' =>
      (e = .returned (.bool true) ∧ J (pre ++ [x]) W' ∧ KeptBut n₀ m₀ W1 W') ∨ (e = .returned (.bool false) ∧ Jx (pre ++ [x]) W'))
    (w0 wp : World) (hw0 : w0.heap.size = n₀) (hW : KeptBut n₀ m₀ w0 W) (hv : PapersAt wp v l) (hwp : wp.heap.size ≤ m₀) (hwp0 : Below wp.heap.size wp w0) (h2 : w0.cell? ⟨B2, 0, none⟩ = some v) (h3 : w0.cell? ⟨B3, 0, none⟩ = some (.int .i64 known)) (h5 : w0.cell? ⟨B5, 0, none⟩ = some (.map (some Bm)))
    (hm : VoidAt w0 Bm (voidMap l known)) (l2 : B2 < n₀) (l3 : B3 < n₀) (l5 : B5 < n₀) (d2 : B2 ≠ m₀) (d3 : B3 ≠ m₀) (d5 : B5 ≠ m₀) (dm : Bm ≠ m₀) (h0 : J [] W) :
    CallsIn Fence.wide n Tryz.prog 182 #[.func (.yield lp) #[] #[], .pointer (some ⟨B2, 0, none⟩), .pointer (some ⟨B3, 0, none⟩), .pointer (some ⟨B5, 0, none⟩)] W fun e W' => (∃ v, e = .returned v) ∧
      ((∃ ys, ys = counting l known ∧ J ys W') ∨ (∃ pre, pre <+: counting l known ∧ Jx pre W')) := by
  obtain ⟨a, c, rfl, g1, g2, g3⟩ := hv
  have k2 := (hW.cell (p := ⟨B2, 0, none⟩) l2 d2).trans h2
  have hws := hwp0.size
  refine callsIn_of_wp Tryz.func182 rfl trivial ?_ rfl
  simp only [Tryz.ntmps182, List.size_toArray, List.length_cons, List.length_nil, Nat.reduceAdd, Nat.reduceSub, Array.replicate_succ, Array.replicate_zero, List.push_toArray, List.append_toArray, List.nil_append, List.cons_append]
  gi_wp2
  gi_loopw [9] (fun i wr => ∃ k : Nat, k ≤ l.length ∧ i = .int .i64 k ∧ J ((l.take k).filter (cnt l known)) wr ∧ KeptBut n₀ m₀ w0 wr)
    (fun i _ => l.length - (intOf i).toNat)
  case atStart => exact ⟨0, Nat.zero_le _, rfl, h0, hW⟩
  case round =>
    obtain ⟨k, hk, rfl, hJs, hnx⟩ := hrel
    by_cases hlt : k < l.length
    · obtain ⟨b, off, rfl, hbs, hcell⟩ := g3 (by omega)
      obtain ⟨c0, c1, c2, c3, c4, c5, c6, c7, c8, c9, c10, c11, c12, c13⟩ := paper_cells (w := wr) (b := b) (o := off + k * 14) l[k] (fun i u hu => (hnx.cell (p := ⟨b, off + k * 14 + i, none⟩) (by show b < _; omega) (by show b ≠ _; omega)).trans ((hwp0.cell (p := ⟨b, off + k * 14 + i, none⟩) hbs).trans (hcell k hlt i u hu)))
      have hT : Hid ((l.take (k + 1)).filter (cnt l known) = (l.take k).filter (cnt l known) ++ if cnt l known l[k] then [l[k]] else []) := by
        show _ = _
        rw [List.take_succ_eq_append_getElem hlt, List.filter_append]
        congr 1
        simp [List.filter_cons]
      have hP : Hid ((l.take (k + 1)).filter (cnt l known) <+: counting l known) := by
        show _ <+: _
        exact (List.take_prefix _ _).filter _
      have hlen : Hid (cnt l known l[k] = true → ((l.take k).filter (cnt l known)).length < (counting l known).length) := fun hc => by
        have := hP.out.length_le
        rw [hT.out, if_pos hc] at this
        simp at this
        omega
      clear hcell g3
      generalize l[k] = x at *
      have sz := hnx.size
      rw [hw0] at sz
      have hbW := hnx.alloc sz (boxOf x)
      have e3 := (hbW.cell (p := ⟨B3, 0, none⟩) l3 d3).trans h3
      have e5 := (hbW.cell (p := ⟨B5, 0, none⟩) l5 d5).trans h5
      have hmW : VoidAt (wr.alloc (boxOf x)) Bm (voidMap l known) := hm.kept (hbW.block _ (by have := hm.lt; omega) dm)
      have hl := void_look _ Bm l known x.id hmW
      have hJ' := hJa _ _ (boxOf x) hJs
      have hcnt : Hid (cnt l known x = ((x.kind != 3) && decide (x.known ≤ known) && !(voidOf l known x.id))) := by show _ = _; rfl
      generalize voidOf l known x.id = vo at hl hcnt
      have hY' := Lib.hid (hY ((l.take k).filter (cnt l known)) x _ hJ')
      have hfold : wr.alloc (boxOf x) = wr.alloc (.cells #[.int .i64 x.id, .int .i64 x.known, .int .u8 x.kind, .int .i64 x.loss, .int .i64 x.pack, .int .i64 x.inn, .string x.mark, .string x.goods, .int .i64 x.lo, .int .i64 x.hi, .int .i64 x.pieces, .int .i64 x.owner, .int .i64 x.count, .int .i64 x.of] 28) := rfl
      rw [hfold] at e3 e5 hl
      have HJ := Lib.hid hJ'
      have HBW := Lib.hid hbW
      clear hJ' hbW hmW hfold hJs
      generalize cnt l known x = ct at *
      cases g1 : (x.kind != 3)
      · have hno : Hid (¬ ct = true) := by show ¬ _; rw [hcnt.out, g1]; simp
        clear hlen hY' hcnt
        gi_wp2
        refine ⟨fun _ h => (by cases h), ?_⟩
        gi_wp2
        go_roundw
        case rel => exact ⟨k + 1, by omega, by go_num, by rw [hT.out, if_neg hno.out, List.append_nil]; exact HJ.out, HBW.out⟩
        case measure => simp [intOf]; omega
      · by_cases g2 : x.known ≤ known
        · cases vo
          · have hyes : Hid (ct = true) := by show _ = _; rw [hcnt.out, g1, decide_eq_true g2]; rfl
            obtain ⟨fn, tmps, assign, body, hy, hR⟩ := hY'.out (hlen.out hyes.out)
            have hR' := Lib.hid hR
            have hy : (Instr.yield lp #[.agg #[.int .i64 x.id, .int .i64 x.known, .int .u8 x.kind, .int .i64 x.loss, .int .i64 x.pack, .int .i64 x.inn, .string x.mark, .string x.goods, .int .i64 x.lo, .int .i64 x.hi, .int .i64 x.pieces, .int .i64 x.owner, .int .i64 x.count, .int .i64 x.of]]).run Tryz.prog (wr.alloc (.cells #[.int .i64 x.id, .int .i64 x.known, .int .u8 x.kind, .int .i64 x.loss, .int .i64 x.pack, .int .i64 x.inn, .string x.mark, .string x.goods, .int .i64 x.lo, .int .i64 x.hi, .int .i64 x.pieces, .int .i64 x.owner, .int .i64 x.count, .int .i64 x.of] 28)) = .ok (.round lp fn tmps assign body) (wr.alloc (.cells #[.int .i64 x.id, .int .i64 x.known, .int .u8 x.kind, .int .i64 x.loss, .int .i64 x.pack, .int .i64 x.inn, .string x.mark, .string x.goods, .int .i64 x.lo, .int .i64 x.hi, .int .i64 x.pieces, .int .i64 x.owner, .int .i64 x.count, .int .i64 x.of] 28)) := hy
            clear hlen hY' hcnt hR
            gi_wp2
            refine hR'.out.mono ?_
            rintro e W3 (⟨rfl, hJ3, hk3⟩ | ⟨rfl, hJx3⟩)
            · have HB3 := Lib.hid (HBW.out.trans hk3)
              clear hk3
              gi_wp2
              go_roundw
              case rel => exact ⟨k + 1, by omega, by go_num, by rw [hT.out, if_pos hyes.out]; exact hJ3, HB3.out⟩
              case measure => simp [intOf]; omega
            · gi_wp2
              refine bodyPost_ret (results_none rfl _ _ _) rfl ?_
              exact ⟨⟨_, rfl⟩, .inr ⟨_, by have := hP.out; rw [hT.out, if_pos hyes.out] at this; exact this, hJx3⟩⟩
          · have hno : Hid (¬ ct = true) := by show ¬ _; rw [hcnt.out]; simp
            clear hlen hY' hcnt
            gi_wp2
            refine ⟨fun _ h => (by cases h), ?_⟩
            gi_wp2
            go_roundw
            case rel => exact ⟨k + 1, by omega, by go_num, by rw [hT.out, if_neg hno.out, List.append_nil]; exact HJ.out, HBW.out⟩
            case measure => simp [intOf]; omega
        · have hno : Hid (¬ ct = true) := by show ¬ _; rw [hcnt.out, decide_eq_false g2]; simp
          clear hlen hY' hcnt
          gi_wp2
          refine ⟨fun _ h => (by cases h), ?_⟩
          gi_wp2
          go_roundw
          case rel => exact ⟨k + 1, by omega, by go_num, by rw [hT.out, if_neg hno.out, List.append_nil]; exact HJ.out, HBW.out⟩
          case measure => simp [intOf]; omega
    · obtain rfl : k = l.length := by omega
      gi_wp2
      go_end0
      refine ⟨⟨_, rfl⟩, .inl ⟨_, ?_, hJs⟩⟩
      rw [List.take_of_length_le (Nat.le_refl _)]; rfl

end Go.Proofs.YtpffpofdceppiaaGreatDoor
