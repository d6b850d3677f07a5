/- A part of the proof that laganlaw01.CargoTexts answers true at every input and leaves its arguments as they were; the conditions are those of the given row and card, nothing else. -/
import Derived.Test.YtpffpofdceppiaaGreatDoorKM2
import Derived.Test.YtpffpofdceppiaaGreatDoorKS1
import Derived.Maps.OwnIn
import Derived.RangeFuncNested
set_option linter.unusedSimpArgs false
set_option linter.unusedVariables false
namespace Go.Proofs.YtpffpofdceppiaaGreatDoor
open Go.RowKit Go.Shelf
open Go.ChangeMaps (setBlock)

/-- 'm[k] = v' at the operation, inside a fence. -/
theorem wpListIn_update_at {F : Fence} {nF : Nat} {P : Program} {κ ε : Type} [DecidableEq κ] {kt et : TypeId} {kv : κ → Value} {ev : ε → Value} {w : World} {b : Nat} {f : κ → Option ε} {T : TypeId} {ops : Array Oper} {rest : List Oper} {o : Oper} {a : Act} {Q : Exit → Act → World → Prop}
    (hg : o.guard = none) (m x v : Operand) (hop : o.op = Op.mapUpdate T m x v) (K : KeyOK P kt kv) (ht : P.underlying T = some (.map kt et)) (hm : a.eval m = .map (some b)) (h : MapAt kv ev w b f)
    (k : κ) (y : ε) (hx : a.eval x = kv k) (hv : a.eval v = ev y)
    (hK : ∀ ob, MapAt kv ev (setBlock w b ob) b (fun k' => if k' = k then some y else f k') → wpListIn F nF P ops Q rest (a.put o.dst undef) (setBlock w b ob)) :
    wpListIn F nF P ops Q (o :: rest) a w := by
  refine wpListIn_plain hg fun K' hK' => ?_
  obtain ⟨ob, hrun, r1⟩ := h.update K ht k y
  unfold Oper.wpIn
  refine ⟨by simp [Oper.about, hop], ?_⟩
  rw [Oper.semAt_plain F _ _ (by rw [hop]; intro c hc'; cases hc')]
  simp [execOp, hop, hm, hx, hv, hrun, Result.andThen]
  exact hK' _ _ (hK ob r1)

def keyOf (x : Paper) : Int × Bool := (x.pack, x.kind == 2)
/-- The last papers of a loss, by their keys. -/
def foundM (loss : Int) (c : List Paper) : Int × Bool → Option Paper :=
  c.foldl (fun f x => if x.loss = loss then fun k => if k = keyOf x then some x else f k else f) (fun _ => none)

theorem foundM_no (loss : Int) (c : List Paper) (x : Paper) (h : ¬ x.loss = loss) : foundM loss (c ++ [x]) = foundM loss c := by simp [foundM, h]
theorem foundM_yes (loss : Int) (c : List Paper) (x : Paper) (h : x.loss = loss) : foundM loss (c ++ [x]) = fun k => if k = keyOf x then some x else foundM loss c k := by simp [foundM, h]

abbrev FoundAt (w : World) (b : Nat) (f : Int × Bool → Option Paper) : Prop := MapAt kv (fun x : Paper => .agg x.vals.toArray) w b f

theorem KeptBut.putObj {n m : Nat} (W : World) (l : Nat) (o o' : Obj) (hl : n ≤ l) (h : W.heap[l]? = some o) : KeptBut n m W (W.putObj l o') := by
  have hg := grownBy_putObj' W l o'
  exact ⟨hg.os, hg.tape, hg.output, hg.size, fun k hk hm => by
    by_cases hkl : k < W.heap.size
    · exact hg.block k hkl (fun e => by cases e; omega)
    · have := (Array.getElem?_eq_some_iff.1 h).1
      omega⟩

theorem keepsFrom_setBlock (B : Nat) (W : World) (m : Nat) (o : Obj) (h : m < B) : KeepsFrom B W (setBlock W m o) :=
  ⟨by simp [setBlock], fun k ob hk he _ => (setBlock_other (by omega)).trans he⟩

/-- The values at which 'last' goes through the papers that count. -/
structure FoundI (n1 S : Nat) (w : World) (loss : Int) (pre : List Paper) (W : World) : Prop where
  c0 : W.cell? ⟨n1, 0, none⟩ = some (.int .i64 loss)
  r0 : W.cell? ⟨n1 + 1, 0, none⟩ = some (.slice none 0 0)
  r1 : W.cell? ⟨n1 + 1, 1, none⟩ = some (.slice none 0 0)
  f0 : W.frozen? ⟨n1 + 1, 0, none⟩ = false
  f1 : W.frozen? ⟨n1 + 1, 1, none⟩ = false
  c3 : W.cell? ⟨n1 + 1 + 1 + 1, 0, none⟩ = some (.map (some (n1 + 1 + 1)))
  found : FoundAt W (n1 + 1 + 1) (foundM loss pre)
  lt : S ≤ W.heap.size
  below : Below n1 w W

theorem FoundI.own {n1 T S : Nat} {w : World} {loss : Int} (hs : n1 + 1 + 1 + 1 < T) (hts : T ≤ S) (hw : n1 ≤ w.heap.size) : OwnFrom S (FoundI n1 T w loss) := by
  intro s W W' row h hg hr
  exact ⟨cell_kept h.c0 hg (fun r e => (hr r e).2), cell_kept h.r0 hg (fun r e => (hr r e).2), cell_kept h.r1 hg (fun r e => (hr r e).2), (frozen_kept h.r0 hg (fun r e => (hr r e).2)).trans h.f0, (frozen_kept h.r1 hg (fun r e => (hr r e).2)).trans h.f1, cell_kept h.c3 hg (fun r e => (hr r e).2),
    h.found.kept (hg.block _ (by have := h.lt; omega) (fun e => by have := (hr _ e.symm).1; omega)), Nat.le_trans h.lt hg.size, h.below.grown hg (Nat.le_trans hw h.below.size) (fun k e => by have := (hr k e).1; omega)⟩

section
variable {P : Program} {κ ε : Type} {kt et : TypeId} {kv : κ → Value} {ev : ε → Value} {w : World} {b : Nat} {f : κ → Option ε} {T : TypeId} {ops : Array Oper} {rest : List Oper} {o : Oper} {a : Act} {Q : Exit → Act → World → Prop}

/-- 'x, ok := m[k]' at the operation. -/
theorem wpList_lookup_at (hg : o.guard = none) (m x : Operand) (hop : o.op = Op.lookup T m x true) (K : KeyOK P kt kv) (ht : P.underlying T = some (.map kt et)) (hm : a.eval m = .map (some b)) (h : MapAt kv ev w b f)
    (k : κ) (hx : a.eval x = kv k) (z : Value) (hz : (zeroValue et).run P w = .ok z w)
    (v : Value) (q : Bool) (hv : ((f k).map ev).getD z = v) (hq : (f k).isSome = q)
    (hK : wpList P ops Q rest (a.put o.dst (.tuple #[v, .bool q])) w) :
    wpList P ops Q (o :: rest) a w := by
  subst hv hq
  refine wpList_plain hg fun K' hK' => ?_
  have hrun := h.lookup K ht k z hz true
  unfold Oper.wp
  simp [execOp, hop, hm, hx, hrun, Result.andThen]
  exact hK' _ _ hK

variable [DecidableEq κ]

/-- What a round over a map may take. -/
def NextK {κ ε : Type} [DecidableEq κ] (kv : κ → Value) (ev : ε → Value) (P : Program) (w : World) (b r : Nat) (f : κ → Option ε) (lk : List κ) (C : κ → ε → World → Prop) : Prop :=
  ∀ k x w1 ob, k ∈ lk → f k = some x → (w1 = w ∨ w1 = w.drew) → IterAt kv ev (setBlock w1 r ob) b r f (lk.erase k) →
      (∀ w2 : World, w2.heap[b]? = (setBlock w1 r ob).heap[b]? → w2.heap[r]? = (setBlock w1 r ob).heap[r]? → (Instr.entry (.pointer (some ⟨r, 0, none⟩))).run P w2 = .ok (.tuple #[kv k, ev x]) w2) → C k x (setBlock w1 r ob)

/-- The next of a map at the operation. -/
theorem wpList_next_at {r : Nat} {lk : List κ} (hg : o.guard = none) (it : Operand) (hop : o.op = Op.next it false) (K : KeyOK P kt kv) (hi : a.eval it = .pointer (some ⟨r, 0, none⟩)) (hrb : r ≠ b) (h : IterAt kv ev w b r f lk)
    (h0 : lk = [] → wpList P ops Q rest (a.put o.dst (.tuple #[.bool false])) w)
    (h1 : NextK kv ev P w b r f lk fun k x w2 => wpList P ops Q rest (a.put o.dst (.tuple #[.bool true, kv k, ev x])) w2) :
    wpList P ops Q (o :: rest) a w := by
  refine wpList_plain hg fun K' hK' => ?_
  unfold Oper.wp
  rcases h.next (P := P) K hrb o.type with ⟨hl, hrun⟩ | ⟨k, x, w1, ob, hk, hf, hw1, hrun, hit, hen⟩
  · simp [execOp, hop, hi, hrun, Result.andThen]
    exact hK' _ _ (h0 hl)
  · simp [execOp, hop, hi, hrun, Result.andThen]
    exact hK' _ _ (h1 k x w1 ob hk hf hw1 hit hen)
end

/-- The key of a package or a total, as the loop over the last papers takes it. -/
def papOf (f : Int × Bool → Option Paper) (k : Int × Bool) : Option Paper := if k.2 then none else f k
def totOf (f : Int × Bool → Option Paper) (k : Int × Bool) : Option Paper := if k.2 && ((f (k.1, false)).isSome || k.1 == 0) then f k else none

open Classical in
/-- How many keys are still to come, read off the world. -/
noncomputable def leftN (b r : Nat) (f : Int × Bool → Option Paper) (W : World) : Nat :=
  if h : ∃ lk, IterAt kv (fun x : Paper => .agg x.vals.toArray) W b r f lk then (Classical.choose h).length else 0

theorem leftN_eq {b r : Nat} {f : Int × Bool → Option Paper} {W : World} {lk : List (Int × Bool)} (h : IterAt kv (fun x : Paper => .agg x.vals.toArray) W b r f lk) : leftN b r f W = lk.length := by
  have hex : ∃ lk, IterAt kv (fun x : Paper => .agg x.vals.toArray) W b r f lk := ⟨lk, h⟩
  unfold leftN
  rw [dif_pos hex]
  obtain ⟨es, cl, si, se, c0, e1, e2, e3, e4, e5, e6, e7, e8, n1, m1⟩ := h
  obtain ⟨es', cl', si', se', c0', f1, f2, f3, f4, f5, f6, f7, f8, n2, m2⟩ := Classical.choose_spec hex
  rw [e1] at f1; cases f1
  rw [e2] at f2; cases f2
  exact ((List.perm_ext_iff_of_nodup n2 n1).2 (fun k => (m2 k).trans (m1 k).symm)).length_eq

abbrev Own28 (base : Nat) (W : World) (v : Value) (l : List Paper) : Prop := W.ownsRow base 28 14 v l.length (l.flatMap Paper.vals)

/-- The values at which 'last' goes through the map, but for its iterator. -/
structure LastB (n1 mv base D : Nat) (w : World) (pl tl : List Paper) (vp vt : Value) (W : World) : Prop where
  r0 : W.cell? ⟨n1 + 1, 0, none⟩ = some (.slice none 0 0)
  r1 : W.cell? ⟨n1 + 1, 1, none⟩ = some (.slice none 0 0)
  f0 : W.frozen? ⟨n1 + 1, 0, none⟩ = false
  f1 : W.frozen? ⟨n1 + 1, 1, none⟩ = false
  c3 : W.cell? ⟨n1 + 1 + 1 + 1, 0, none⟩ = some (.map (some (n1 + 1 + 1)))
  m0 : W.cell? ⟨mv, 0, none⟩ = some vp
  m1 : W.cell? ⟨mv, 1, none⟩ = some vt
  z0 : W.frozen? ⟨mv, 0, none⟩ = false
  z1 : W.frozen? ⟨mv, 1, none⟩ = false
  own0 : Own28 base W vp pl
  own1 : Own28 base W vt tl
  apart : vp.ownBlock = none ∨ vp.ownBlock ≠ vt.ownBlock
  lt : base ≤ W.heap.size
  def' : W.heap[D]? = some (.deferred (some []))
  below : Below n1 w W

theorem far_of {W W' : World} {row : Option Nat} (hg : W.grownBy W' row) {b o : Nat} {v : Value} (h : W.cell? ⟨b, o, none⟩ = some v) (hr : some b ≠ row) : W'.cell? ⟨b, o, none⟩ = some v := by
  obtain ⟨ob, ho, _⟩ := cells_of_cell h
  exact (hg.cell_far ⟨b, o, none⟩ (Array.getElem?_eq_some_iff.1 ho).1 hr).trans h

theorem near_of {W W' : World} {row : Option Nat} (hg : W.grownBy W' row) {b o o' : Nat} {v : Value} (h : W.cell? ⟨b, o, none⟩ = some v) (hf : W.frozen? ⟨b, o', none⟩ = false) (hr : some b ≠ row) : W'.frozen? ⟨b, o', none⟩ = false := by
  obtain ⟨ob, ho, _⟩ := cells_of_cell h
  exact (hg.frozen_far ⟨b, o', none⟩ (Array.getElem?_eq_some_iff.1 ho).1 hr).trans hf

theorem LastB.grown {n1 mv base D : Nat} {w : World} {pl tl : List Paper} {vp vt : Value} {W W' : World} {row : Option Nat} (h : LastB n1 mv base D w pl tl vp vt W) (hn : n1 ≤ w.heap.size) (hlt : n1 + 1 + 1 + 1 < mv) (hD : D < mv) (hb : mv + 1 < base)
    (hg : W.grownBy W' row) (hr : row = none ∨ row = some (mv + 1)) : LastB n1 mv base D w pl tl vp vt W' := by
  have hne : ∀ k, k ≠ mv + 1 → some k ≠ row := fun k hk => by rcases hr with rfl | rfl <;> simp [hk]
  have hno : ∀ v l, Own28 base W v l → v.ownBlock = none ∨ v.ownBlock ≠ row := fun v l ho => by
    cases hv : v.ownBlock with
    | none => exact .inl rfl
    | some k => exact .inr (hne k (by have := (ho.lt k hv).1; omega))
  exact ⟨far_of hg h.r0 (hne _ (by omega)), far_of hg h.r1 (hne _ (by omega)), near_of hg h.r0 h.f0 (hne _ (by omega)), near_of hg h.r0 h.f1 (hne _ (by omega)), far_of hg h.c3 (hne _ (by omega)), far_of hg h.m0 (hne _ (by omega)), far_of hg h.m1 (hne _ (by omega)), near_of hg h.m0 h.z0 (hne _ (by omega)), near_of hg h.m0 h.z1 (hne _ (by omega)),
    h.own0.kept hg (hno _ _ h.own0), h.own1.kept hg (hno _ _ h.own1), h.apart, Nat.le_trans h.lt hg.size, (hg.block D (Array.getElem?_eq_some_iff.1 h.def').1 (hne _ (by omega))).trans h.def',
    h.below.grown hg (Nat.le_trans hn h.below.size) (fun k hk => by rcases hr with rfl | rfl <;> simp at hk; omega)⟩

theorem flat_one (l : List Paper) (x : Paper) : (l ++ [x]).flatMap Paper.vals = l.flatMap Paper.vals ++ x.vals := by simp

theorem LastB.add0 {n1 mv base D g cap : Nat} {w : World} {pl tl : List Paper} {vp vt : Value} {W W' : World} {x : Paper} (h : LastB n1 mv base D w pl tl vp vt W) (hn : n1 ≤ w.heap.size) (hlt : n1 + 1 + 1 + 1 < mv) (hD : D < mv) (hb : mv + 1 < base)
    (hown : W'.ownsRow base 28 14 (.slice (some ⟨g, 0, none⟩) (pl.length + 1) cap) (pl.length + 1) (pl.flatMap Paper.vals ++ x.vals)) (hg : W.grownBy W' vp.ownBlock) (hor : vp.ownBlock = some g ∨ g = W.heap.size) :
    W'.cell? ⟨mv, 0, none⟩ = some vp ∧ W'.frozen? ⟨mv, 0, none⟩ = false ∧ LastB n1 mv base D w (pl ++ [x]) tl (.slice (some ⟨g, 0, none⟩) (pl.length + 1) cap) vt (W'.setCell ⟨mv, 0, none⟩ (.slice (some ⟨g, 0, none⟩) (pl.length + 1) cap)) := by
  have hne : ∀ k, k < base → some k ≠ vp.ownBlock := fun k hk e => by have := (h.own0.lt k e.symm).1; omega
  have hc0 := far_of hg h.m0 (hne _ (by omega))
  have hc : ∀ k o v, k ≠ mv → W'.cell? ⟨k, o, none⟩ = some v → (W'.setCell ⟨mv, 0, none⟩ (.slice (some ⟨g, 0, none⟩) (pl.length + 1) cap)).cell? ⟨k, o, none⟩ = some v := fun k o v hk hv => (World.cell?_of_block (w := W') (Below.heap_setCell _ _ _ _ (by simpa using hk))).trans hv
  have hbk : ∀ k, k ≠ mv → (W'.setCell ⟨mv, 0, none⟩ (.slice (some ⟨g, 0, none⟩) (pl.length + 1) cap)).heap[k]? = W'.heap[k]? := fun k hk => Below.heap_setCell _ _ _ _ (by simpa using hk)
  have hgt : ∀ v l, Own28 base W' v l → Own28 base (W'.setCell ⟨mv, 0, none⟩ (.slice (some ⟨g, 0, none⟩) (pl.length + 1) cap)) v l := fun v l ho => ownsRow_setCell_below ho (by simp; omega) _
  have hvt : vt.ownBlock = none ∨ vt.ownBlock ≠ vp.ownBlock := by
    cases hq : vt.ownBlock with
    | none => exact .inl rfl
    | some k => rcases h.apart with e | e
                · rw [e]; exact .inr (by simp)
                · rw [hq] at e; exact .inr (Ne.symm e)
  have hown' : Own28 base W' (.slice (some ⟨g, 0, none⟩) (pl.length + 1) cap) (pl ++ [x]) := by
    unfold Own28; rw [flat_one, List.length_append]; exact hown
  have hgb := (hown.lt g rfl).1
  have hz0 := near_of hg h.m0 h.z0 (hne _ (by omega))
  have hz1 := near_of hg h.m0 h.z1 (hne _ (by omega))
  refine ⟨hc0, hz0, hc _ _ _ (by omega) (far_of hg h.r0 (hne _ (by omega))), hc _ _ _ (by omega) (far_of hg h.r1 (hne _ (by omega))), by rw [World.frozen?_setCell]; exact near_of hg h.r0 h.f0 (hne _ (by omega)), by rw [World.frozen?_setCell]; exact near_of hg h.r0 h.f1 (hne _ (by omega)), hc _ _ _ (by omega) (far_of hg h.c3 (hne _ (by omega))), World.cell?_setCell_same' _ _ _ (by rw [hc0]; rfl), ?_, by rw [World.frozen?_setCell]; exact hz0, by rw [World.frozen?_setCell]; exact hz1, hgt _ _ hown', hgt _ _ (h.own1.kept hg hvt), ?_, ?_, (hbk _ (by omega)).trans ((hg.block D (Array.getElem?_eq_some_iff.1 h.def').1 (hne _ (by omega))).trans h.def'), ?_⟩
  · rw [World.cell?_setCell_other]
    · exact far_of hg h.m1 (hne _ (by omega))
    · simp
  · refine .inr fun e => ?_
    simp only [Value.ownBlock] at e
    rcases hor with ho | ho
    · rcases h.apart with q | q
      · rw [q] at ho; cases ho
      · exact q (ho.trans e)
    · have := (h.own1.lt g e.symm).2
      omega
  · have := hg.size; have := h.lt; simp [World.setCell]; omega
  · exact (h.below.grown hg (Nat.le_trans hn h.below.size) (fun k hk => by have := (h.own0.lt k hk).1; omega)).setCell (by simp; omega) _

theorem LastB.add1 {n1 mv base D g cap : Nat} {w : World} {pl tl : List Paper} {vp vt : Value} {W W' : World} {x : Paper} (h : LastB n1 mv base D w pl tl vp vt W) (hn : n1 ≤ w.heap.size) (hlt : n1 + 1 + 1 + 1 < mv) (hD : D < mv) (hb : mv + 1 < base)
    (hown : W'.ownsRow base 28 14 (.slice (some ⟨g, 0, none⟩) (tl.length + 1) cap) (tl.length + 1) (tl.flatMap Paper.vals ++ x.vals)) (hg : W.grownBy W' vt.ownBlock) (hor : vt.ownBlock = some g ∨ g = W.heap.size) :
    W'.cell? ⟨mv, 1, none⟩ = some vt ∧ W'.frozen? ⟨mv, 1, none⟩ = false ∧ LastB n1 mv base D w pl (tl ++ [x]) vp (.slice (some ⟨g, 0, none⟩) (tl.length + 1) cap) (W'.setCell ⟨mv, 1, none⟩ (.slice (some ⟨g, 0, none⟩) (tl.length + 1) cap)) := by
  have hne : ∀ k, k < base → some k ≠ vt.ownBlock := fun k hk e => by have := (h.own1.lt k e.symm).1; omega
  have hc0 := far_of hg h.m1 (hne _ (by omega))
  have hc : ∀ k o v, k ≠ mv → W'.cell? ⟨k, o, none⟩ = some v → (W'.setCell ⟨mv, 1, none⟩ (.slice (some ⟨g, 0, none⟩) (tl.length + 1) cap)).cell? ⟨k, o, none⟩ = some v := fun k o v hk hv => (World.cell?_of_block (w := W') (Below.heap_setCell _ _ _ _ (by simpa using hk))).trans hv
  have hbk : ∀ k, k ≠ mv → (W'.setCell ⟨mv, 1, none⟩ (.slice (some ⟨g, 0, none⟩) (tl.length + 1) cap)).heap[k]? = W'.heap[k]? := fun k hk => Below.heap_setCell _ _ _ _ (by simpa using hk)
  have hgt : ∀ v l, Own28 base W' v l → Own28 base (W'.setCell ⟨mv, 1, none⟩ (.slice (some ⟨g, 0, none⟩) (tl.length + 1) cap)) v l := fun v l ho => ownsRow_setCell_below ho (by simp; omega) _
  have hvt : vp.ownBlock = none ∨ vp.ownBlock ≠ vt.ownBlock := h.apart
  have hown' : Own28 base W' (.slice (some ⟨g, 0, none⟩) (tl.length + 1) cap) (tl ++ [x]) := by
    unfold Own28; rw [flat_one, List.length_append]; exact hown
  have hgb := (hown.lt g rfl).1
  have hz0 := near_of hg h.m0 h.z0 (hne _ (by omega))
  have hz1 := near_of hg h.m0 h.z1 (hne _ (by omega))
  refine ⟨hc0, hz1, hc _ _ _ (by omega) (far_of hg h.r0 (hne _ (by omega))), hc _ _ _ (by omega) (far_of hg h.r1 (hne _ (by omega))), by rw [World.frozen?_setCell]; exact near_of hg h.r0 h.f0 (hne _ (by omega)), by rw [World.frozen?_setCell]; exact near_of hg h.r0 h.f1 (hne _ (by omega)), hc _ _ _ (by omega) (far_of hg h.c3 (hne _ (by omega))), ?_, World.cell?_setCell_same' _ _ _ (by rw [hc0]; rfl), by rw [World.frozen?_setCell]; exact hz0, by rw [World.frozen?_setCell]; exact hz1, hgt _ _ (h.own0.kept hg hvt), hgt _ _ hown', ?_, ?_, (hbk _ (by omega)).trans ((hg.block D (Array.getElem?_eq_some_iff.1 h.def').1 (hne _ (by omega))).trans h.def'), ?_⟩
  · rw [World.cell?_setCell_other]
    · exact far_of hg h.m0 (hne _ (by omega))
    · simp
  · cases hq : vp.ownBlock with
    | none => exact .inl rfl
    | some k =>
      refine .inr fun e => ?_
      simp only [Value.ownBlock] at e
      cases e
      rcases hor with ho | ho
      · rcases h.apart with q | q
        · rw [q] at hq; cases hq
        · exact q (hq.trans ho.symm)
      · have := (h.own0.lt _ hq).2
        omega
  · have := hg.size; have := h.lt; simp [World.setCell]; omega
  · exact (h.below.grown hg (Nat.le_trans hn h.below.size) (fun k hk => by have := (h.own1.lt k hk).1; omega)).setCell (by simp; omega) _

/-- The values at which 'last' goes through the map. -/
structure LastI (n1 mv base D : Nat) (w : World) (f : Int × Bool → Option Paper) (ks : List (Int × Bool)) (pl tl : List Paper) (vp vt : Value) (lk done : List (Int × Bool)) (W : World) : Prop where
  b : LastB n1 mv base D w pl tl vp vt W
  iter : IterAt kv (fun x : Paper => .agg x.vals.toArray) W (n1 + 1 + 1) (mv + 1) f lk
  perm : ks.Perm (done ++ lk)
  pe : pl = done.filterMap (papOf f)
  te : tl = done.filterMap (totOf f)

theorem length_le_sub {α : Type} [DecidableEq α] : ∀ (a b : List α), a.Nodup → (∀ x ∈ a, x ∈ b) → a.length ≤ b.length
  | [], _, _, _ => Nat.zero_le _
  | x :: a, b, hn, hs => by
    have hx := hs x (.head _)
    rw [List.nodup_cons] at hn
    have := length_le_sub a (b.erase x) hn.2 (fun y hy => (List.mem_erase_of_ne (by rintro rfl; exact hn.1 hy)).2 (hs y (.tail _ hy)))
    rw [List.length_erase_of_mem hx] at this
    have := List.length_pos_of_mem hx
    simp only [List.length_cons]
    omega

theorem foundM_some (loss : Int) (k : Int × Bool) (x : Paper) : ∀ (n : Nat) (c : List Paper), c.length = n → foundM loss c k = some x → x ∈ c ∧ keyOf x = k ∧ x.loss = loss := by
  intro n
  induction n with
  | zero => intro c hc h; obtain rfl := List.length_eq_zero_iff.1 hc; cases h
  | succ n ih =>
    intro c hc h
    obtain rfl | ⟨c, y, rfl⟩ := List.eq_nil_or_concat c
    · cases hc
    rw [List.concat_eq_append] at hc h ⊢
    have hc : c.length = n := by simpa using hc
    by_cases hl : y.loss = loss
    · rw [foundM_yes loss c y hl] at h
      by_cases hk : k = keyOf y
      · simp only [hk, if_true] at h
        cases h
        exact ⟨by simp, hk.symm, hl⟩
      · simp only [hk, if_false] at h
        have := ih c hc h
        exact ⟨by simp [this.1], this.2⟩
    · rw [foundM_no loss c y hl] at h
      have := ih c hc h
      exact ⟨by simp [this.1], this.2⟩

/-- What 'last' hands back. -/
def papersOf (f : Int × Bool → Option Paper) : List Paper := (List.range 201).filterMap (fun p : Nat => f ((p : Int), false))
def totalsOf (f : Int × Bool → Option Paper) : List Paper := (List.range 201).filterMap (fun p : Nat => if (f ((p : Int), false)).isSome || p == 0 then f ((p : Int), true) else none)

/-- Strictly ascending lists with the same elements are one. -/
theorem asc_eq (A B : List Paper) (hA : A.Pairwise (fun x y => x.pack < y.pack)) (hB : B.Pairwise (fun x y => x.pack < y.pack)) (h : ∀ x, x ∈ A ↔ x ∈ B) : A = B := by
  induction A generalizing B with
  | nil =>
    cases B with
    | nil => rfl
    | cons y B => have := (h y).2 (.head _); cases this
  | cons x A ih =>
    cases B with
    | nil => have := (h x).1 (.head _); cases this
    | cons y B =>
      rw [List.pairwise_cons] at hA hB
      have hxy : x = y := by
        have h1 := (h x).1 (.head _)
        have h2 := (h y).2 (.head _)
        cases h1 with
        | head => rfl
        | tail _ h1 =>
          cases h2 with
          | head => rfl
          | tail _ h2 =>
            have := hA.1 y h2
            have := hB.1 x h1
            omega
      subst hxy
      rw [ih B hA.2 hB.2 (fun z => ?_)]
      have hz := h z
      simp only [List.mem_cons] at hz
      constructor
      · intro hm
        rcases hz.1 (.inr hm) with rfl | hm'
        · have := hA.1 z hm; omega
        · exact hm'
      · intro hm
        rcases hz.2 (.inr hm) with rfl | hm'
        · have := hB.1 z hm; omega
        · exact hm'

/-- What is sorted from the keys of a map is what lies at each pack. -/
theorem sorted_keys (g : Int × Bool → Option Paper) (c : Bool) (ks done : List (Int × Bool)) (pl ls : List Paper) (hk : ks.Nodup) (hp : ks.Perm done) (hpl : pl = done.filterMap g) (hls : ls.Perm pl) (hs : ls.Pairwise (fun x y => x.pack ≤ y.pack))
    (hg : ∀ k x, g k = some x → k.2 = c ∧ x.pack = k.1 ∧ 0 ≤ k.1 ∧ k.1 ≤ 200 ∧ k ∈ ks) : ls = (List.range 201).filterMap (fun p : Nat => g ((p : Int), c)) := by
  subst hpl
  have hne : (done.filterMap g).Pairwise (fun x y => x.pack ≠ y.pack) := by
    rw [List.pairwise_filterMap]
    refine (hp.nodup_iff.1 hk).imp ?_
    rintro a b hab x hx y hy he
    obtain ⟨a1, a2, _⟩ := hg a x hx
    obtain ⟨b1, b2, _⟩ := hg b y hy
    exact hab (Prod.ext (by rw [← a2, ← b2, he]) (by rw [a1, b1]))
  have hne' : ls.Pairwise (fun x y => x.pack ≠ y.pack) := (hls.pairwise_iff (fun h => Ne.symm h)).2 hne
  refine asc_eq _ _ ((hs.and hne').imp (fun h => by omega)) ?_ (fun x => ?_)
  · rw [List.pairwise_filterMap]
    refine List.pairwise_lt_range.imp ?_
    rintro a b hab x hx y hy
    have h1 := (hg _ x hx).2.1
    have h2 := (hg _ y hy).2.1
    simp only at h1 h2
    omega
  · rw [hls.mem_iff, List.mem_filterMap, List.mem_filterMap]
    constructor
    · rintro ⟨k, _, hx⟩
      obtain ⟨a1, a2, a3, a4, _⟩ := hg k x hx
      refine ⟨k.1.toNat, List.mem_range.2 (by omega), ?_⟩
      rw [show ((k.1.toNat : Nat) : Int) = k.1 by omega, ← a1]
      exact hx
    · rintro ⟨p, _, hx⟩
      exact ⟨_, hp.mem_iff.1 (hg _ x hx).2.2.2.2, hx⟩

theorem LastB.sort0 {n1 mv base D : Nat} {w : World} {pl pl' tl : List Paper} {vp vt : Value} {W W' : World} (h : LastB n1 mv base D w pl tl vp vt W) (hn : n1 ≤ w.heap.size) (hlt : n1 + 1 + 1 + 1 < mv) (hD : D < mv) (hb : mv + 1 < base)
    (hown : Own28 base W' vp pl') (hg : W.grownBy W' vp.ownBlock) : LastB n1 mv base D w pl' tl vp vt W' := by
  have hne : ∀ k, k < base → some k ≠ vp.ownBlock := fun k hk e => by have := (h.own0.lt k e.symm).1; omega
  have hvt : vt.ownBlock = none ∨ vt.ownBlock ≠ vp.ownBlock := by
    cases hq : vt.ownBlock with
    | none => exact .inl rfl
    | some k => rcases h.apart with e | e
                · rw [e]; exact .inr (by simp)
                · rw [hq] at e; exact .inr (Ne.symm e)
  exact ⟨far_of hg h.r0 (hne _ (by omega)), far_of hg h.r1 (hne _ (by omega)), near_of hg h.r0 h.f0 (hne _ (by omega)), near_of hg h.r0 h.f1 (hne _ (by omega)), far_of hg h.c3 (hne _ (by omega)), far_of hg h.m0 (hne _ (by omega)), far_of hg h.m1 (hne _ (by omega)), near_of hg h.m0 h.z0 (hne _ (by omega)), near_of hg h.m0 h.z1 (hne _ (by omega)),
    hown, h.own1.kept hg hvt, h.apart, Nat.le_trans h.lt hg.size, (hg.block D (Array.getElem?_eq_some_iff.1 h.def').1 (hne _ (by omega))).trans h.def', h.below.grown hg (Nat.le_trans hn h.below.size) (fun k hk => by have := (h.own0.lt k hk).1; omega)⟩

theorem LastB.sort1 {n1 mv base D : Nat} {w : World} {pl tl' tl : List Paper} {vp vt : Value} {W W' : World} (h : LastB n1 mv base D w pl tl vp vt W) (hn : n1 ≤ w.heap.size) (hlt : n1 + 1 + 1 + 1 < mv) (hD : D < mv) (hb : mv + 1 < base)
    (hown : Own28 base W' vt tl') (hg : W.grownBy W' vt.ownBlock) : LastB n1 mv base D w pl tl' vp vt W' := by
  have hne : ∀ k, k < base → some k ≠ vt.ownBlock := fun k hk e => by have := (h.own1.lt k e.symm).1; omega
  exact ⟨far_of hg h.r0 (hne _ (by omega)), far_of hg h.r1 (hne _ (by omega)), near_of hg h.r0 h.f0 (hne _ (by omega)), near_of hg h.r0 h.f1 (hne _ (by omega)), far_of hg h.c3 (hne _ (by omega)), far_of hg h.m0 (hne _ (by omega)), far_of hg h.m1 (hne _ (by omega)), near_of hg h.m0 h.z0 (hne _ (by omega)), near_of hg h.m0 h.z1 (hne _ (by omega)),
    h.own0.kept hg h.apart, hown, h.apart, Nat.le_trans h.lt hg.size, (hg.block D (Array.getElem?_eq_some_iff.1 h.def').1 (hne _ (by omega))).trans h.def', h.below.grown hg (Nat.le_trans hn h.below.size) (fun k hk => by have := (h.own1.lt k hk).1; omega)⟩

theorem own_shape {base : Nat} {W : World} {v : Value} {l : List Paper} (h : Own28 base W v l) : ∃ p n c, v = .slice p n c := by
  rcases h.2 with ⟨rfl, _⟩ | ⟨g, cap, cur, rfl, _⟩
  · exact ⟨_, _, _, rfl⟩
  · exact ⟨_, _, _, rfl⟩

end Go.Proofs.YtpffpofdceppiaaGreatDoor

set_option linter.unusedSimpArgs false
set_option linter.unusedVariables false
namespace Go.Proofs.YtpffpofdceppiaaGreatDoor
open Go.RowKit Go.Shelf
open Go.ChangeMaps (setBlock)

theorem owns_mono {w : World} {base base' : Nat} {e : TypeId} {size : Nat} {v : Value} {n : Nat} {xs : List Value} (h : w.ownsRow base e size v n xs) (hb : base' ≤ base) : w.ownsRow base' e size v n xs := by
  refine ⟨h.1, h.2.imp id ?_⟩
  rintro ⟨g, cap, cur, h1, h2, h3⟩
  exact ⟨g, cap, cur, h1, by omega, h3⟩

attribute [local go_sem] Oper.semAt_some

set_option maxRecDepth 100000 in
set_option maxHeartbeats 4000000 in
theorem last_any (v : Value) (l : List Paper) (known loss : Int) (w : World) (hv : PapersAt w v l) (hn : l.length ≤ 1000) (hpk : ∀ x ∈ l, x.kind ≠ 3 → 0 ≤ x.pack ∧ x.pack ≤ 200) :
    Calls Tryz.prog 165 #[v, .int .i64 known, .int .i64 loss] w fun e w' => ∃ vp vt, e = .returned (.agg #[vp, vt]) ∧ Own28 w.heap.size w' vp (papersOf (foundM loss (counting l known))) ∧ Own28 w.heap.size w' vt (totalsOf (foundM loss (counting l known))) ∧ Below w.heap.size w w' := by
  have hmm := @run_makeMap Tryz.prog
  have hfm : Hid (∀ k x, foundM loss (counting l known) k = some x → keyOf x = k ∧ 0 ≤ x.pack ∧ x.pack ≤ 200) := fun k x hx => by
    obtain ⟨h1, h2, _⟩ := foundM_some _ _ _ _ _ rfl hx
    rw [counting, List.mem_filter, cnt] at h1
    simp at h1
    exact ⟨h2, hpk x h1.1 h1.2.1.1⟩
  clear hpk
  have hv0 := hv
  obtain ⟨a, c, rfl, h1, h2, h3⟩ := hv
  have HC := Lib.hid (fun W (h : Below w.heap.size w W) => counting_any _ l known W (hv0.below h) hn)
  rw [← callsIn_wide (n := 10)]
  refine callsIn_of_wp_marks Tryz.func165 rfl trivial ?_ rfl
  simp only [Tryz.ntmps165, List.size_toArray, List.length_cons, List.length_nil, Nat.reduceAdd, Nat.reduceSub, Array.replicate_succ, Array.replicate_zero, List.push_toArray, List.append_toArray, List.nil_append, List.cons_append]
  rw [wpIn_wide]
  go_wp2_with fail
  have hB0 : Below w.heap.size w ((((w.alloc (.cells #[.int .i64 loss] 3)).alloc (.cells #[.slice none 0 0, .slice none 0 0] 100)).alloc (.map #[] 0)).alloc (.cells #[.map (some (w.heap.size + 1 + 1))] 187)) := by
    repeat (first | exact Below.refl _ _ | refine Below.alloc ?_ (by simp <;> omega) _ )
  have hI0 : FoundI w.heap.size (w.heap.size + 1 + 1 + 1 + 1) w loss [] ((((w.alloc (.cells #[.int .i64 loss] 3)).alloc (.cells #[.slice none 0 0, .slice none 0 0] 100)).alloc (.map #[] 0)).alloc (.cells #[.map (some (w.heap.size + 1 + 1))] 187)) := by
    refine ⟨by go_simp, by go_simp, by go_simp, by go_simp, by go_simp, by go_simp, ?_, by simp, hB0⟩
    have h0 := MapAt.made (kv := kv) (ev := fun x : Paper => .agg x.vals.toArray) ((w.alloc (.cells #[.int .i64 loss] 3)).alloc (.cells #[.slice none 0 0, .slice none 0 0] 100))
    simp only [World.size_alloc] at h0
    exact h0.kept ((MapKept.heap_alloc _ _).2 _ (by simp))
  have hZ0 : ((((w.alloc (.cells #[.int .i64 loss] 3)).alloc (.cells #[.slice none 0 0, .slice none 0 0] 100)).alloc (.map #[] 0)).alloc (.cells #[.map (some (w.heap.size + 1 + 1))] 187)).heap.size = w.heap.size + 1 + 1 + 1 + 1 := by simp
  generalize ((((w.alloc (.cells #[.int .i64 loss] 3)).alloc (.cells #[.slice none 0 0, .slice none 0 0] 100)).alloc (.map #[] 0)).alloc (.cells #[.map (some (w.heap.size + 1 + 1))] 187)) = W0 at *
  refine (HC.out _ hB0).mono ?_
  rintro e w' ⟨B2, B3, B5, Bm, rfl, k2, k3, k5, hm, l2, l3, l5, g2, g3, g5, gm, hb1⟩
  rw [hZ0] at hb1 g2 g3 g5 gm
  have hIw : FoundI w.heap.size w'.heap.size w loss [] w' := by
    have hsz := hb1.size
    exact ⟨(hb1.cell (p := ⟨w.heap.size, 0, none⟩) (by simp <;> omega)).trans hI0.c0, (hb1.cell (p := ⟨w.heap.size + 1, 0, none⟩) (by simp <;> omega)).trans hI0.r0, (hb1.cell (p := ⟨w.heap.size + 1, 1, none⟩) (by simp <;> omega)).trans hI0.r1, (hb1.frozen (p := ⟨w.heap.size + 1, 0, none⟩) (by simp <;> omega)).trans hI0.f0, (hb1.frozen (p := ⟨w.heap.size + 1, 1, none⟩) (by simp <;> omega)).trans hI0.f1,
      (hb1.cell (p := ⟨w.heap.size + 1 + 1 + 1, 0, none⟩) (by simp <;> omega)).trans hI0.c3, hI0.found.kept (hb1.block _ (by omega)), Nat.le_refl _, hB0.trans (hb1.mono (by omega))⟩
  have hlt0 : w.heap.size + 1 + 1 + 1 < w'.heap.size := by have := hb1.size; omega
  have hbw := hIw.below
  clear hI0 hB0 hZ0 hb1 h3
  go_wp2_with fail
  rw [← wpIn_wide (n := 10)]
  refine wpIn_rangeFunc_ownH rfl (by omega) (gf := 182) (lb := #[.pointer (some ⟨B2, 0, none⟩), .pointer (some ⟨B3, 0, none⟩), .pointer (some ⟨B5, 0, none⟩)]) rfl trivial (enters_of Tryz.func182 (by kernel_rfl) rfl)
    (encs := fun x : Paper => #[.agg #[.int .i64 x.id, .int .i64 x.known, .int .u8 x.kind, .int .i64 x.loss, .int .i64 x.pack, .int .i64 x.inn, .string x.mark, .string x.goods, .int .i64 x.lo, .int .i64 x.hi, .int .i64 x.pieces, .int .i64 x.owner, .int .i64 x.count, .int .i64 x.of]]) (Kp := KeptBut w'.heap.size (w.heap.size + 1 + 1)) (S := fun ys => ys = counting l known) (Sp := fun pre => pre <+: counting l known) (N := (counting l known).length) (w0 := w')
    (fun lp J Jx W hW hJ hJx hY h0 => counting1_in (10 - 1) (by omega) lp B2 B3 B5 Bm w'.heap.size (w.heap.size + 1 + 1) _ l known hn J Jx W hW.size (fun s A o hs => hJ s A (A.alloc o) none hs (World.grownBy_alloc A o none) (fun r e => by cases e)) hY w' w rfl (.of hW) hv0 (by omega) hbw k2 k3 k5 hm l2 l3 l5 (by omega) (by omega) (by omega) (by omega) h0)
    (fun h k => h.trans k) (fun W lx o o' hl h _ _ => KeptBut.putObj W lx o o' hl h) (Below.refl _ _) (fun _ => rfl)
    (FoundI w.heap.size w'.heap.size w loss) (fun _ _ _ => False) (FoundI.own hlt0 (Nat.le_refl _) (Nat.le_refl _)) (fun _ _ _ _ _ hs _ _ => hs) hIw
    (fun x a' W => ∃ b, b < W.heap.size ∧ w'.heap.size ≤ b ∧ (∀ i u, x.vals[i]? = some u → W.cell? ⟨b, i, none⟩ = some u) ∧ a' = { tmps := #[.slice a l.length c, .int .i64 known, .int .i64 loss, undef, undef, .pointer (some ⟨w.heap.size, 0, none⟩), .pointer (some ⟨w.heap.size + 1, 0, none⟩), .pointer (some ⟨w.heap.size + 1 + 1 + 1, 0, none⟩), .pointer (some ⟨b, 0, none⟩), undef, undef, undef, undef, undef, undef, .map (some (w.heap.size + 1 + 1)), .slice a l.length c, .int .i64 known, .func (.func 182) #[] #[.pointer (some ⟨B2, 0, none⟩), .pointer (some ⟨B3, 0, none⟩), .pointer (some ⟨B5, 0, none⟩)], .agg #[.int .i64 x.id, .int .i64 x.known, .int .u8 x.kind, .int .i64 x.loss, .int .i64 x.pack, .int .i64 x.inn, .string x.mark, .string x.goods, .int .i64 x.lo, .int .i64 x.hi, .int .i64 x.pieces, .int .i64 x.owner, .int .i64 x.count, .int .i64 x.of], undef, undef, undef, undef, undef, undef, undef, undef, undef, undef, undef, undef, undef, undef, undef, undef, undef, undef, undef, undef, undef, undef, undef, undef, undef, undef, undef, undef, undef, undef, undef, undef, undef, undef, undef, undef, undef, undef, undef, undef, undef, undef, undef, undef, undef, undef, undef, undef, undef, undef, undef, undef, undef, undef, undef, undef, undef, undef, undef], defers := [] })
    (fun x a' _ X Y row hs hg hr => by
      obtain ⟨b, h1, h2, h3, h4⟩ := hs
      exact ⟨b, Nat.lt_of_lt_of_le h1 hg.size, h2, fun i u hu => cell_kept (h3 i u hu) hg (fun r e => (hr r e).2), h4⟩)
    ?assign ?body ?done ?stop
  case assign =>
    intro lx pre x W K hI hK
    have hwl := hI.lt
    have HI := Lib.hid hI
    have HK := Lib.hid hK
    clear hI hK
    gi_wp2_with fail
    exact HK.out _ _ ((KeepsOthers.alloc W _).from _) ((KeptBut.refl _ _ W).alloc (by omega) _) (FoundI.own hlt0 (Nat.le_refl _) (Nat.le_refl _) pre W _ none HI.out (World.grownBy_alloc _ _ none) (fun r e => by cases e)) ⟨W.heap.size, by simp, by omega, fun i u hu => by simp only [World.cell?_alloc_new]; rw [← hu]; simp [Paper.vals], rfl⟩
  case body =>
    rintro lx pre x a' W hlx hrx hI ⟨b, q1, q2, q3, rfl⟩ hlen
    have hwl := hbw.size
    obtain ⟨c0, c1, c2, c3, c4, c5, c6, c7, c8, c9, c10, c11, c12, c13⟩ := paper_cells (w := W) (b := b) (o := 0) x (fun i u hu => by rw [Nat.zero_add]; exact q3 i u hu)
    obtain ⟨e0, e1, e2, ez0, ez1, e3, ef, elt, eb⟩ := hI
    have HF := Lib.hid ef
    have HBB := Lib.hid eb
    clear ef eb q3
    have hn1 := hlt0
    cases g : (x.loss == loss)
    case true =>
      have HY := Lib.hid (foundM_yes loss pre x (by simpa using g))
      gi_wp2_with (gi_at_mapUpdate; refine wpListIn_update_at rfl _ _ _ rfl kv_key Tryz.underlying187 rfl HF.out (keyOf x) x rfl rfl ?_; intro ob hM)
      refine ⟨keepsFrom_setBlock _ W _ _ (by omega), (KeptBut.refl _ _ W).setBlock _, (cell_setBlock (by omega)).trans e0, (cell_setBlock (by omega)).trans e1, (cell_setBlock (by omega)).trans e2, (World.frozen?_of_block (w := W) (setBlock_other (by show w.heap.size + 1 ≠ _; omega))).trans ez0, (World.frozen?_of_block (w := W) (setBlock_other (by show w.heap.size + 1 ≠ _; omega))).trans ez1, (cell_setBlock (by omega)).trans e3, by rw [HY.out]; exact hM, by simpa [setBlock] using elt, below_setBlock HBB.out (by omega)⟩
    case false =>
      have HY := Lib.hid (foundM_no loss pre x (by simpa using g))
      gi_wp2_with fail
      exact ⟨KeepsFrom.refl _ _, KeptBut.refl _ _ _, e0, e1, e2, ez0, ez1, e3, by rw [HY.out]; exact HF.out, elt, HBB.out⟩
  case stop =>
    rintro D c pre W _ _ h _
    exact h.elim
  case done =>
    rintro D ys W hD rfl hI hK
    obtain ⟨e0, e1, e2, ez0, ez1, e3, ef, elt, eb⟩ := hI
    have hDl := (Array.getElem?_eq_some_iff.1 hK).1
    have q3 : w.heap.size + 1 + 1 + 1 ≠ W.heap.size := by omega
    have ef' : FoundAt (W.alloc (.cells #[.slice none 0 0, .slice none 0 0] 100)) (w.heap.size + 1 + 1) (foundM loss (counting l known)) := ef.kept ((MapKept.heap_alloc _ _).2 _ (by omega))
    obtain ⟨ks, kn, kk⟩ := ef'.keys kv_key
    obtain ⟨ob, hrun, hit⟩ := IterAt.start kv_key Tryz.underlying187 ef' kn kk
    have hL0 : LastI w.heap.size W.heap.size (W.heap.size + 1 + 1) D w (foundM loss (counting l known)) ks [] [] (.slice none 0 0) (.slice none 0 0) ks [] ((W.alloc (.cells #[.slice none 0 0, .slice none 0 0] 100)).alloc ob) := by
      have hb : ∀ k, k < W.heap.size → ((W.alloc (.cells #[.slice none 0 0, .slice none 0 0] 100)).alloc ob).heap[k]? = W.heap[k]? := fun k hk => (Below.heap_alloc _ _ _ (by simp; omega)).trans (Below.heap_alloc _ _ _ hk)
      have hc : ∀ k i, k < W.heap.size → ((W.alloc (.cells #[.slice none 0 0, .slice none 0 0] 100)).alloc ob).cell? ⟨k, i, none⟩ = W.cell? ⟨k, i, none⟩ := fun k i hk => World.cell?_of_block (w := W) (hb k hk)
      have hz : ∀ k i, k < W.heap.size → ((W.alloc (.cells #[.slice none 0 0, .slice none 0 0] 100)).alloc ob).frozen? ⟨k, i, none⟩ = W.frozen? ⟨k, i, none⟩ := fun k i hk => World.frozen?_of_block (w := W) (hb k hk)
      refine ⟨⟨(hc _ _ (by omega)).trans e1, (hc _ _ (by omega)).trans e2, (hz _ _ (by omega)).trans ez0, (hz _ _ (by omega)).trans ez1, (hc _ _ (by omega)).trans e3, by go_simp, by go_simp, by go_simp, by go_simp, World.ownsRow_nil _ _ _ _, World.ownsRow_nil _ _ _ _, .inl rfl, by simp, (hb _ hDl).trans hK, (eb.alloc (by omega) _).alloc (by simp; omega) _⟩, by simpa using hit, by simp, rfl, rfl⟩
    simp only [World.size_alloc] at hrun
    have e3' : (W.alloc (.cells #[.slice none 0 0, .slice none 0 0] 100)).cell? ⟨w.heap.size + 1 + 1 + 1, 0, none⟩ = some (.map (some (w.heap.size + 1 + 1))) := (World.cell?_of_block (w := W) (Below.heap_alloc _ _ _ (by show w.heap.size + 1 + 1 + 1 < _; omega))).trans e3
    clear e3
    have HL := Lib.hid hL0
    clear ef eb HC k2 k3 k5 hm hIw hv0 hbw e0 hit ef' hL0 e1 e2 ez0 ez1
    have hks : ks.length ≤ 1000 := by
      have := length_le_sub ks ((counting l known).map keyOf) kn (fun k hk => by
        obtain ⟨x, hx⟩ := Option.isSome_iff_exists.1 ((kk k).1 hk)
        obtain ⟨g1, g2, _⟩ := foundM_some _ _ _ _ _ rfl hx
        exact List.mem_map.2 ⟨x, g1, g2⟩)
      rw [List.length_map] at this
      exact Nat.le_trans this (Nat.le_trans (List.length_filter_le _ _) hn)
    obtain ⟨i0, hi, hz0, hz1, hz2⟩ := info_parts Tryz.info28
    generalize hff : foundM loss (counting l known) = f at *
    have hff := Lib.hid hff
    go_wp2_with fail
    generalize hW2 : (W.alloc (.cells #[.slice none 0 0, .slice none 0 0] 100)).alloc ob = W2 at *
    go_loopw [34] (fun _ wr => ∃ pl tl vp vt lk done, LastI w.heap.size W.heap.size (W.heap.size + 1 + 1) D w f ks pl tl vp vt lk done wr) (fun _ wr => leftN (w.heap.size + 1 + 1) (W.heap.size + 1) f wr)
    case atStart => exact ⟨_, _, _, _, _, _, HL.out⟩
    case round =>
      obtain ⟨pl, tl, vp, vt, lk, done, hI⟩ := hrel
      have hit := hI.iter
      go_wp2_with (at_next; refine wpList_next_at rfl _ rfl kv_key rfl (by omega) hit ?_ ?_)
      · intro hl0
        subst hl0
        have hkp : ks.Perm done := by simpa using hI.perm
        have hB := hI.b
        have hn1 : w.heap.size + 1 + 1 + 1 < W.heap.size := by omega
        obtain ⟨p1, m1, q1, rfl⟩ := own_shape hB.own0
        obtain ⟨p2, m2, q2, rfl⟩ := own_shape hB.own1
        have hpl : pl.length ≤ 1000 := by rw [hI.pe]; exact Nat.le_trans (List.length_filterMap_le _ _) (by rw [← hkp.length_eq]; exact hks)
        have htl : tl.length ≤ 1000 := by rw [hI.te]; exact Nat.le_trans (List.length_filterMap_le _ _) (by rw [← hkp.length_eq]; exact hks)
        have hpe := hI.pe
        have hte := hI.te
        have HB := Lib.hid hB
        have c0 := hB.m0
        have HP : Hid (∀ ls, ls.Perm pl → ls.Pairwise (fun x y => x.pack ≤ y.pack) → ls = papersOf f) := fun ls h1 h2 =>
          sorted_keys (papOf f) false ks done pl ls kn hkp hpe h1 h2 (fun k x hx => by
            obtain ⟨k1, k2⟩ := k
            cases k2 with
            | true => cases hx
            | false =>
              have hx : f (k1, false) = some x := hx
              obtain ⟨e1, e2, e3⟩ := hfm.out _ _ hx
              have e4 : x.pack = k1 := congrArg Prod.fst e1
              exact ⟨rfl, e4, by simp; omega, by simp; omega, (kk _).2 (by rw [hx]; rfl)⟩)
        have HT : Hid (∀ ls, ls.Perm tl → ls.Pairwise (fun x y => x.pack ≤ y.pack) → ls = totalsOf f) := fun ls h1 h2 => by
          rw [sorted_keys (totOf f) true ks done tl ls kn hkp hte h1 h2 (fun k x hx => by
            obtain ⟨k1, k2⟩ := k
            cases k2 with
            | false => simp [totOf] at hx
            | true =>
              have hx : f (k1, true) = some x := by
                unfold totOf at hx
                split at hx
                · exact hx
                · cases hx
              obtain ⟨e1, e2, e3⟩ := hfm.out _ _ hx
              have e4 : x.pack = k1 := congrArg Prod.fst e1
              exact ⟨rfl, e4, by simp; omega, by simp; omega, (kk _).2 (by rw [hx]; rfl)⟩)]
          unfold totalsOf
          congr 1
          funext p
          simp [totOf]
        clear hI hit hB HL hrun hW2 hpe hte
        go_wp2_with fail
        refine (SortPapers_any _ pl _ wr HB.out.own0 hpl).mono ?_
        rintro e w2 ⟨rfl, pl', a1, a2, a3, a4⟩
        have HB2 := Lib.hid (HB.out.sort0 (Nat.le_refl _) hn1 hDl (by omega) a3 a4)
        have c1 := HB2.out.m1
        clear c0 a3 a4
        go_wp2_with fail
        refine (SortPapers_any _ tl _ w2 HB2.out.own1 htl).mono ?_
        rintro e w3 ⟨rfl, tl', b1, b2, b3, b4⟩
        have HB3 := Lib.hid (HB2.out.sort1 (Nat.le_refl _) hn1 hDl (by omega) b3 b4)
        have d0 := HB3.out.m0
        have d1 := HB3.out.m1
        have d2 := HB3.out.r0
        have d3 := HB3.out.r1
        have d4 := HB3.out.f0
        have d5 := HB3.out.f1
        clear c1 b3 b4
        go_wp2_with fail
        have hD3 := HB3.out.def'
        have hD4 : ((w3.setCell ⟨w.heap.size + 1, 0, none⟩ (.slice p1 m1 q1)).setCell ⟨w.heap.size + 1, 1, none⟩ (.slice p2 m2 q2)).heap[D]? = some (.deferred (some [])) := by
          rw [Below.heap_setCell _ _ _ _ (by show D ≠ w.heap.size + 1; omega), Below.heap_setCell _ _ _ _ (by show D ≠ w.heap.size + 1; omega)]; exact hD3
        refine ⟨by simp, .inl ⟨_, _, rfl, run_takeDeferred hD4, ?_⟩⟩
        have hlt3 := HB3.out.lt
        have hr0 : (((w3.setCell ⟨w.heap.size + 1, 0, none⟩ (.slice p1 m1 q1)).setCell ⟨w.heap.size + 1, 1, none⟩ (.slice p2 m2 q2)).putObj D (.deferred none)).cell? ⟨w.heap.size + 1, 0, none⟩ = some (.slice p1 m1 q1) := by
          refine cell_kept ?_ (grownBy_putObj' _ D (.deferred none)) (fun r e => by cases e; exact ⟨_, hD4, rfl⟩)
          rw [World.cell?_setCell_other _ _ _ _ (by simp)]
          exact World.cell?_setCell_same' _ _ _ (by rw [d2]; rfl)
        have hr1 : (((w3.setCell ⟨w.heap.size + 1, 0, none⟩ (.slice p1 m1 q1)).setCell ⟨w.heap.size + 1, 1, none⟩ (.slice p2 m2 q2)).putObj D (.deferred none)).cell? ⟨w.heap.size + 1, 1, none⟩ = some (.slice p2 m2 q2) := by
          refine cell_kept ?_ (grownBy_putObj' _ D (.deferred none)) (fun r e => by cases e; exact ⟨_, hD4, rfl⟩)
          refine World.cell?_setCell_same' _ _ _ ?_
          rw [World.cell?_setCell_other _ _ _ _ (by simp), d3]; rfl
        have ho0 := ownsRow_putObj (ownsRow_setCell_below (ownsRow_setCell_below HB3.out.own0 (a := ⟨w.heap.size + 1, 0, none⟩) (by simp; omega) (.slice p1 m1 q1)) (a := ⟨w.heap.size + 1, 1, none⟩) (by simp; omega) (.slice p2 m2 q2)) (.deferred none) hD4 rfl
        have ho1 := ownsRow_putObj (ownsRow_setCell_below (ownsRow_setCell_below HB3.out.own1 (a := ⟨w.heap.size + 1, 0, none⟩) (by simp; omega) (.slice p1 m1 q1)) (a := ⟨w.heap.size + 1, 1, none⟩) (by simp; omega) (.slice p2 m2 q2)) (.deferred none) hD4 rfl
        have hbb := (((HB3.out.below.setCell (p := ⟨w.heap.size + 1, 0, none⟩) (by simp) (.slice p1 m1 q1)).setCell (p := ⟨w.heap.size + 1, 1, none⟩) (by simp) (.slice p2 m2 q2)).trans (belowK_b (w := w) (Nat.le_refl _) _ D _ (.deferred none) (by omega) hD4 rfl rfl))
        refine ⟨.agg #[.slice p1 m1 q1, .slice p2 m2 q2], by simp [results, Tryz.f165, go_sem, hr0, hr1], _, _, rfl, ?_, ?_, hbb⟩
        · rw [hff.out, ← HP.out pl' a1 a2]; exact owns_mono ho0 (by omega)
        · rw [hff.out, ← HT.out tl' b1 b2]; exact owns_mono ho1 (by omega)
      · intro k x w1 ob1 hkl hfk hw1 hit1 hen
        obtain ⟨k1, k2⟩ := k
        have hlp : lk.Perm ((k1, k2) :: (@List.erase _ instBEqOfDecidableEq lk (k1, k2))) := @List.perm_cons_erase _ instBEqOfDecidableEq _ _ _ hkl
        generalize (@List.erase _ instBEqOfDecidableEq lk (k1, k2)) = lk' at *
        have hg3 : wr.grownBy (setBlock w1 (W.heap.size + 1) ob1) (some (W.heap.size + 1)) := by
          rcases hw1 with rfl | rfl <;> exact ⟨rfl, rfl, rfl, by simp [setBlock], fun k hk hne => setBlock_other (fun e => hne (by rw [e]))⟩
        have hn1 : w.heap.size + 1 + 1 + 1 < W.heap.size := by omega
        have hB3 := hI.b.grown (Nat.le_refl _) hn1 hDl (by omega) hg3 (.inr rfl)
        have hen3 : (Instr.entry (.pointer (some ⟨W.heap.size + 1, 0, none⟩))).run Tryz.prog (setBlock w1 (W.heap.size + 1) ob1) = .ok (.tuple #[.agg #[.int .i64 k1, .bool k2], .agg #[.int .i64 x.id, .int .i64 x.known, .int .u8 x.kind, .int .i64 x.loss, .int .i64 x.pack, .int .i64 x.inn, .string x.mark, .string x.goods, .int .i64 x.lo, .int .i64 x.hi, .int .i64 x.pieces, .int .i64 x.owner, .int .i64 x.count, .int .i64 x.of]]) (setBlock w1 (W.heap.size + 1) ob1) := hen _ rfl rfl
        rw [show kv (k1, k2) = .agg #[.int .i64 k1, .bool k2] from rfl, show Value.agg x.vals.toArray = .agg #[.int .i64 x.id, .int .i64 x.known, .int .u8 x.kind, .int .i64 x.loss, .int .i64 x.pack, .int .i64 x.inn, .string x.mark, .string x.goods, .int .i64 x.lo, .int .i64 x.hi, .int .i64 x.pieces, .int .i64 x.owner, .int .i64 x.count, .int .i64 x.of] from rfl]
        have hszr := hg3.size
        clear hen hg3 hw1
        generalize hW3 : setBlock w1 (W.heap.size + 1) ob1 = W3 at *
        clear hW3
        have hz28 : Hid (∀ W', (zeroValue 28).run Tryz.prog W' = .ok (.agg Paper.zero.vals.toArray) W') := fun W' => by kernel_rfl
        have HX : Hid (∀ u ∈ x.vals, u.oneCell' = true) := by
          show ∀ u ∈ x.vals, _
          have := vals_one [x]
          simpa using this
        have HN : Hid (∀ (V : World) j u, x.vals[j]? = some u → (V.alloc (.cells #[.int .i64 x.id, .int .i64 x.known, .int .u8 x.kind, .int .i64 x.loss, .int .i64 x.pack, .int .i64 x.inn, .string x.mark, .string x.goods, .int .i64 x.lo, .int .i64 x.hi, .int .i64 x.pieces, .int .i64 x.owner, .int .i64 x.count, .int .i64 x.of] 28)).cell? ((⟨V.heap.size, 0, none⟩ : Addr).add j) = some u) := fun V j u hu => by
          rw [Addr.add_lit, Nat.zero_add, World.cell?_alloc_new, ← hu]; simp [Paper.vals]
        have hm3 := hit1.map
        have hl3 := hB3.lt
        have HI := Lib.hid hI
        have HB3 := Lib.hid hB3
        have HIT := Lib.hid hit1
        have HM3 := Lib.hid hm3
        clear hI hit hB3 hit1 hm3 HL
        obtain ⟨W5, hW5⟩ : ∃ W5, W5 = (W3.alloc (.cells #[.int .i64 k1, .bool k2] 189)).alloc (.cells #[.int .i64 x.id, .int .i64 x.known, .int .u8 x.kind, .int .i64 x.loss, .int .i64 x.pack, .int .i64 x.inn, .string x.mark, .string x.goods, .int .i64 x.lo, .int .i64 x.hi, .int .i64 x.pieces, .int .i64 x.owner, .int .i64 x.count, .int .i64 x.of] 28) := ⟨_, rfl⟩
        have hz5 : W5.heap.size = W3.heap.size + 1 + 1 := by rw [hW5]; simp
        have hh5 : ∀ k, k < W3.heap.size → W5.heap[k]? = W3.heap[k]? := fun k hk => by rw [hW5]; exact (Below.heap_alloc _ _ _ (by simp; omega)).trans (Below.heap_alloc _ _ _ hk)
        have hB5 : LastB w.heap.size W.heap.size (W.heap.size + 1 + 1) D w pl tl vp vt W5 := by
          rw [hW5]
          exact (HB3.out.grown (Nat.le_refl _) hn1 hDl (by omega) (World.grownBy_alloc _ _ none) (.inl rfl)).grown (Nat.le_refl _) hn1 hDl (by omega) (World.grownBy_alloc _ _ none) (.inl rfl)
        have HM5 : FoundAt W5 (w.heap.size + 1 + 1) f := HM3.out.kept (hh5 _ (by omega))
        have hf0 : W5.cell? ⟨W3.heap.size, 0, none⟩ = some (.int .i64 k1) := by
          rw [hW5]; refine (World.cell?_of_block (w := W3.alloc (.cells #[.int .i64 k1, .bool k2] 189)) (Below.heap_alloc _ _ _ (by simp))).trans ?_
          rw [World.cell?_alloc_new]; rfl
        have hf1 : W5.cell? ⟨W3.heap.size, 1, none⟩ = some (.bool k2) := by
          rw [hW5]; refine (World.cell?_of_block (w := W3.alloc (.cells #[.int .i64 k1, .bool k2] 189)) (Below.heap_alloc _ _ _ (by simp))).trans ?_
          rw [World.cell?_alloc_new]; rfl
        have hbx : ∀ i u, x.vals[i]? = some u → W5.cell? ⟨W3.heap.size + 1, i, none⟩ = some u := fun i u hu => by
          have e : W3.heap.size + 1 = (W3.alloc (.cells #[.int .i64 k1, .bool k2] 189)).heap.size := by simp
          rw [hW5, e, World.cell?_alloc_new, ← hu]; simp [Paper.vals]
        have hs6 : ∀ ob b o, b < W5.heap.size → (W5.alloc ob).cell? ⟨b, o, none⟩ = W5.cell? ⟨b, o, none⟩ := fun ob b o hb => World.cell?_of_block (w := W5) (Below.heap_alloc _ _ _ hb)
        have h6 : Hid (∀ ob, (W5.alloc ob).cell? ⟨W3.heap.size + 1, 0, none⟩ = some (.int .i64 x.id) ∧ (W5.alloc ob).cell? ⟨W3.heap.size + 1, 1, none⟩ = some (.int .i64 x.known) ∧ (W5.alloc ob).cell? ⟨W3.heap.size + 1, 2, none⟩ = some (.int .u8 x.kind) ∧ (W5.alloc ob).cell? ⟨W3.heap.size + 1, 3, none⟩ = some (.int .i64 x.loss) ∧ (W5.alloc ob).cell? ⟨W3.heap.size + 1, 4, none⟩ = some (.int .i64 x.pack) ∧ (W5.alloc ob).cell? ⟨W3.heap.size + 1, 5, none⟩ = some (.int .i64 x.inn) ∧ (W5.alloc ob).cell? ⟨W3.heap.size + 1, 6, none⟩ = some (.string x.mark) ∧ (W5.alloc ob).cell? ⟨W3.heap.size + 1, 7, none⟩ = some (.string x.goods) ∧ (W5.alloc ob).cell? ⟨W3.heap.size + 1, 8, none⟩ = some (.int .i64 x.lo) ∧ (W5.alloc ob).cell? ⟨W3.heap.size + 1, 9, none⟩ = some (.int .i64 x.hi) ∧ (W5.alloc ob).cell? ⟨W3.heap.size + 1, 10, none⟩ = some (.int .i64 x.pieces) ∧ (W5.alloc ob).cell? ⟨W3.heap.size + 1, 11, none⟩ = some (.int .i64 x.owner) ∧ (W5.alloc ob).cell? ⟨W3.heap.size + 1, 12, none⟩ = some (.int .i64 x.count) ∧ (W5.alloc ob).cell? ⟨W3.heap.size + 1, 13, none⟩ = some (.int .i64 x.of) ∧ (W5.alloc ob).cell? ⟨W3.heap.size, 0, none⟩ = some (.int .i64 k1) ∧ (W5.alloc ob).cell? ⟨W3.heap.size, 1, none⟩ = some (.bool k2) ∧
            (W5.alloc ob).cell? ⟨W.heap.size, 0, none⟩ = some vp ∧ (W5.alloc ob).cell? ⟨W.heap.size, 1, none⟩ = some vt ∧ LastB w.heap.size W.heap.size (W.heap.size + 1 + 1) D w pl tl vp vt (W5.alloc ob)) := fun ob => by
          have ht := hs6 ob (W3.heap.size + 1)
          obtain ⟨c0, c1, c2, c3, c4, c5, c6, c7, c8, c9, c10, c11, c12, c13⟩ := paper_cells (w := W5.alloc ob) (b := W3.heap.size + 1) (o := 0) x (fun i u hu => by rw [Nat.zero_add]; exact (ht i (by omega)).trans (hbx i u hu))
          exact ⟨c0, c1, c2, c3, c4, c5, c6, c7, c8, c9, c10, c11, c12, c13, (hs6 _ _ _ (by omega)).trans hf0, (hs6 _ _ _ (by omega)).trans hf1, (hs6 _ _ _ (by omega)).trans hB5.m0, (hs6 _ _ _ (by omega)).trans hB5.m1,
            hB5.grown (Nat.le_refl _) hn1 hDl (by omega) (World.grownBy_alloc _ _ none) (.inl rfl)⟩
        have c5 : ((W3.alloc (.cells #[.int .i64 k1, .bool k2] 189)).alloc (.cells #[.int .i64 x.id, .int .i64 x.known, .int .u8 x.kind, .int .i64 x.loss, .int .i64 x.pack, .int .i64 x.inn, .string x.mark, .string x.goods, .int .i64 x.lo, .int .i64 x.hi, .int .i64 x.pieces, .int .i64 x.owner, .int .i64 x.count, .int .i64 x.of] 28)).cell? ⟨w.heap.size + 1 + 1 + 1, 0, none⟩ = some (.map (some (w.heap.size + 1 + 1))) := hW5 ▸ hB5.c3
        have HW5 := Lib.hid hW5
        have HH5 := Lib.hid hh5
        clear hW5 hh5 hB5 hf0 hf1 hbx hs6
        have hpt := HI.out.perm
        have hln : done.length + lk.length ≤ 1000 := by rw [← List.length_append, ← hpt.length_eq]; exact hks
        have hpl : pl.length ≤ done.length := by rw [HI.out.pe]; exact List.length_filterMap_le _ _
        have htl : tl.length ≤ done.length := by rw [HI.out.te]; exact List.length_filterMap_le _ _
        have hkpos := List.length_pos_of_mem hkl
        have HPT := Lib.hid (show ks.Perm ((done ++ [(k1, k2)]) ++ lk') by
          rw [List.append_assoc]; exact hpt.trans (hlp.append_left done))
        have HER := Lib.hid (show lk'.length < lk.length by rw [hlp.length_eq]; simp)
        clear hpt
        cases k2
        case false =>
          obtain ⟨d0, d1, d2, d3, d4, d5, d6, d7, d8, d9, d10, d11, d12, d13, f0, f1, n0, n1, hB6⟩ := h6.out (.cells #[.int .i64 x.id, .int .i64 x.known, .int .u8 x.kind, .int .i64 x.loss, .int .i64 x.pack, .int .i64 x.inn, .string x.mark, .string x.goods, .int .i64 x.lo, .int .i64 x.hi, .int .i64 x.pieces, .int .i64 x.owner, .int .i64 x.count, .int .i64 x.of] 28)
          have HB6 := Lib.hid hB6
          have hB6 := HB6
          go_wp2_with (first | (at_lookup; refine wpList_lookup_at rfl _ _ rfl kv_key Tryz.underlying187 rfl (HW5.out ▸ HM5) (k1, false) rfl _ (hz28.out _) (.agg #[.int .i64 x.id, .int .i64 x.known, .int .u8 x.kind, .int .i64 x.loss, .int .i64 x.pack, .int .i64 x.inn, .string x.mark, .string x.goods, .int .i64 x.lo, .int .i64 x.hi, .int .i64 x.pieces, .int .i64 x.owner, .int .i64 x.count, .int .i64 x.of]) true (by rw [hfk]; rfl) (by rw [hfk]; rfl) ?_; rw [← HW5.out]) | (at_builtin; go_must (refine wpList_append_lies _ rfl _ _ 30 rfl (W.heap.size + 1 + 1) 28 i0 _ 14 128 Tryz.underlying30 hi hz0 hz1 hz2 rfl (by decide) vp pl.length (pl.flatMap Paper.vals) rfl ((hB6.out.own0).alloc _) ⟨W3.heap.size + 1 + 1 + 1, 0, none⟩ 1 1 x.vals rfl rfl (fun j u hu => by have e := HN.out (W5.alloc (.cells #[.int .i64 x.id, .int .i64 x.known, .int .u8 x.kind, .int .i64 x.loss, .int .i64 x.pack, .int .i64 x.inn, .string x.mark, .string x.goods, .int .i64 x.lo, .int .i64 x.hi, .int .i64 x.pieces, .int .i64 x.owner, .int .i64 x.count, .int .i64 x.of] 28)) j u hu; rw [World.size_alloc, hz5] at e; exact e) HX.out (by decide) (by unfold maxLen; omega) (by omega) (by simp; omega) _ rfl ?_; intro g cap w9 hown9 hg9 hor9 hlt9; obtain ⟨hc9, hz9, hB9⟩ := LastB.add0 (hB6.out.grown (Nat.le_refl _) hn1 hDl (by omega) (World.grownBy_alloc _ _ none) (.inl rfl)) (Nat.le_refl _) hn1 hDl (by omega) hown9 hg9 hor9; have HB9 := Lib.hid hB9; clear hB9)))
          · have hfar : ∀ k, k < W.heap.size + 1 + 1 → k ≠ W.heap.size → (w9.setCell ⟨W.heap.size, 0, none⟩ (.slice (some ⟨g, 0, none⟩) (pl.length + 1) cap)).heap[k]? = W3.heap[k]? := fun k hk hk2 =>
              (Below.heap_setCell _ _ _ _ (by simpa using hk2)).trans ((hg9.block k (by simp; omega) (fun e => by have := ((HB6.out.own0).lt k e.symm).1; omega)).trans ((Below.heap_alloc _ _ _ (by simp; omega)).trans ((Below.heap_alloc _ _ _ (by omega)).trans (HH5.out k (by omega)))))
            have HIF := Lib.hid (HIT.out.kept (hfar _ (by omega) (by omega)) (hfar _ (by omega) (by omega)))
            go_roundw
            case rel => exact ⟨_, _, _, _, lk', done ++ [(k1, false)], ⟨HB9.out, HIF.out, HPT.out, (by rw [List.filterMap_append, ← HI.out.pe]; simp [papOf, hfk]), (by rw [List.filterMap_append, ← HI.out.te]; simp [totOf, hfk])⟩⟩
            case measure => rw [leftN_eq HIF.out, leftN_eq HI.out.iter]; exact HER.out
        case true =>
          cases hfp : f (k1, false)
          case some y =>
            obtain ⟨d0, d1, d2, d3, d4, d5, d6, d7, d8, d9, d10, d11, d12, d13, f0, f1, n0, n1, hB6⟩ := h6.out (.cells #[.int .i64 y.id, .int .i64 y.known, .int .u8 y.kind, .int .i64 y.loss, .int .i64 y.pack, .int .i64 y.inn, .string y.mark, .string y.goods, .int .i64 y.lo, .int .i64 y.hi, .int .i64 y.pieces, .int .i64 y.owner, .int .i64 y.count, .int .i64 y.of] 28)
            have HB6 := Lib.hid hB6
            have hB6 := HB6
            go_wp2_with (first | (at_lookup; refine wpList_lookup_at rfl _ _ rfl kv_key Tryz.underlying187 rfl (HW5.out ▸ HM5) (k1, false) rfl _ (hz28.out _) (.agg #[.int .i64 y.id, .int .i64 y.known, .int .u8 y.kind, .int .i64 y.loss, .int .i64 y.pack, .int .i64 y.inn, .string y.mark, .string y.goods, .int .i64 y.lo, .int .i64 y.hi, .int .i64 y.pieces, .int .i64 y.owner, .int .i64 y.count, .int .i64 y.of]) true (by rw [hfp]; rfl) (by rw [hfp]; rfl) ?_; rw [← HW5.out]) | (at_builtin; go_must (refine wpList_append_lies _ rfl _ _ 30 rfl (W.heap.size + 1 + 1) 28 i0 _ 14 128 Tryz.underlying30 hi hz0 hz1 hz2 rfl (by decide) vt tl.length (tl.flatMap Paper.vals) rfl ((hB6.out.own1).alloc _) ⟨W3.heap.size + 1 + 1 + 1, 0, none⟩ 1 1 x.vals rfl rfl (fun j u hu => by have e := HN.out (W5.alloc (.cells #[.int .i64 y.id, .int .i64 y.known, .int .u8 y.kind, .int .i64 y.loss, .int .i64 y.pack, .int .i64 y.inn, .string y.mark, .string y.goods, .int .i64 y.lo, .int .i64 y.hi, .int .i64 y.pieces, .int .i64 y.owner, .int .i64 y.count, .int .i64 y.of] 28)) j u hu; rw [World.size_alloc, hz5] at e; exact e) HX.out (by decide) (by unfold maxLen; omega) (by omega) (by simp; omega) _ rfl ?_; intro g cap w9 hown9 hg9 hor9 hlt9; obtain ⟨hc9, hz9, hB9⟩ := LastB.add1 (hB6.out.grown (Nat.le_refl _) hn1 hDl (by omega) (World.grownBy_alloc _ _ none) (.inl rfl)) (Nat.le_refl _) hn1 hDl (by omega) hown9 hg9 hor9; have HB9 := Lib.hid hB9; clear hB9)))
            · have hfar : ∀ k, k < W.heap.size + 1 + 1 → k ≠ W.heap.size → (w9.setCell ⟨W.heap.size, 1, none⟩ (.slice (some ⟨g, 0, none⟩) (tl.length + 1) cap)).heap[k]? = W3.heap[k]? := fun k hk hk2 =>
                (Below.heap_setCell _ _ _ _ (by simpa using hk2)).trans ((hg9.block k (by simp; omega) (fun e => by have := ((HB6.out.own1).lt k e.symm).1; omega)).trans ((Below.heap_alloc _ _ _ (by simp; omega)).trans ((Below.heap_alloc _ _ _ (by omega)).trans (HH5.out k (by omega)))))
              have HIF := Lib.hid (HIT.out.kept (hfar _ (by omega) (by omega)) (hfar _ (by omega) (by omega)))
              go_roundw
              case rel => exact ⟨_, _, _, _, lk', done ++ [(k1, true)], ⟨HB9.out, HIF.out, HPT.out, (by rw [List.filterMap_append, ← HI.out.pe]; simp [papOf, hfk]), (by rw [List.filterMap_append, ← HI.out.te]; simp [totOf, hfk, hfp])⟩⟩
              case measure => rw [leftN_eq HIF.out, leftN_eq HI.out.iter]; exact HER.out
          case none =>
            cases hk0 : (k1 == 0)
            case true =>
              obtain ⟨d0, d1, d2, d3, d4, d5, d6, d7, d8, d9, d10, d11, d12, d13, f0, f1, n0, n1, hB6⟩ := h6.out (.cells #[.int .i64 0, .int .i64 0, .int .u8 0, .int .i64 0, .int .i64 0, .int .i64 0, .string ⟨#[]⟩, .string ⟨#[]⟩, .int .i64 0, .int .i64 0, .int .i64 0, .int .i64 0, .int .i64 0, .int .i64 0] 28)
              have HB6 := Lib.hid hB6
              have hB6 := HB6
              go_wp2_with (first | (at_lookup; refine wpList_lookup_at rfl _ _ rfl kv_key Tryz.underlying187 rfl (HW5.out ▸ HM5) (k1, false) rfl _ (hz28.out _) (.agg #[.int .i64 0, .int .i64 0, .int .u8 0, .int .i64 0, .int .i64 0, .int .i64 0, .string ⟨#[]⟩, .string ⟨#[]⟩, .int .i64 0, .int .i64 0, .int .i64 0, .int .i64 0, .int .i64 0, .int .i64 0]) false (by rw [hfp]; rfl) (by rw [hfp]; rfl) ?_; rw [← HW5.out]) | (at_builtin; go_must (refine wpList_append_lies _ rfl _ _ 30 rfl (W.heap.size + 1 + 1) 28 i0 _ 14 128 Tryz.underlying30 hi hz0 hz1 hz2 rfl (by decide) vt tl.length (tl.flatMap Paper.vals) rfl ((hB6.out.own1).alloc _) ⟨W3.heap.size + 1 + 1 + 1, 0, none⟩ 1 1 x.vals rfl rfl (fun j u hu => by have e := HN.out (W5.alloc (.cells #[.int .i64 0, .int .i64 0, .int .u8 0, .int .i64 0, .int .i64 0, .int .i64 0, .string ⟨#[]⟩, .string ⟨#[]⟩, .int .i64 0, .int .i64 0, .int .i64 0, .int .i64 0, .int .i64 0, .int .i64 0] 28)) j u hu; rw [World.size_alloc, hz5] at e; exact e) HX.out (by decide) (by unfold maxLen; omega) (by omega) (by simp; omega) _ rfl ?_; intro g cap w9 hown9 hg9 hor9 hlt9; obtain ⟨hc9, hz9, hB9⟩ := LastB.add1 (hB6.out.grown (Nat.le_refl _) hn1 hDl (by omega) (World.grownBy_alloc _ _ none) (.inl rfl)) (Nat.le_refl _) hn1 hDl (by omega) hown9 hg9 hor9; have HB9 := Lib.hid hB9; clear hB9)))
              · have hfar : ∀ k, k < W.heap.size + 1 + 1 → k ≠ W.heap.size → (w9.setCell ⟨W.heap.size, 1, none⟩ (.slice (some ⟨g, 0, none⟩) (tl.length + 1) cap)).heap[k]? = W3.heap[k]? := fun k hk hk2 =>
                  (Below.heap_setCell _ _ _ _ (by simpa using hk2)).trans ((hg9.block k (by simp; omega) (fun e => by have := ((HB6.out.own1).lt k e.symm).1; omega)).trans ((Below.heap_alloc _ _ _ (by simp; omega)).trans ((Below.heap_alloc _ _ _ (by omega)).trans (HH5.out k (by omega)))))
                have HIF := Lib.hid (HIT.out.kept (hfar _ (by omega) (by omega)) (hfar _ (by omega) (by omega)))
                go_roundw
                case rel => exact ⟨_, _, _, _, lk', done ++ [(k1, true)], ⟨HB9.out, HIF.out, HPT.out, (by rw [List.filterMap_append, ← HI.out.pe]; simp [papOf, hfk]), (by have e : totOf f (k1, true) = some x := (by simp only [totOf, hfp, hk0, Option.isSome_none, Bool.false_or, Bool.and_self, if_true]; exact hfk); rw [List.filterMap_append, ← HI.out.te]; simp [e])⟩⟩
                case measure => rw [leftN_eq HIF.out, leftN_eq HI.out.iter]; exact HER.out
            case false =>
              obtain ⟨d0, d1, d2, d3, d4, d5, d6, d7, d8, d9, d10, d11, d12, d13, f0, f1, n0, n1, hB6⟩ := h6.out (.cells #[.int .i64 0, .int .i64 0, .int .u8 0, .int .i64 0, .int .i64 0, .int .i64 0, .string ⟨#[]⟩, .string ⟨#[]⟩, .int .i64 0, .int .i64 0, .int .i64 0, .int .i64 0, .int .i64 0, .int .i64 0] 28)
              have HB6 := Lib.hid hB6
              have hB6 := HB6
              go_wp2_with (first | (at_lookup; refine wpList_lookup_at rfl _ _ rfl kv_key Tryz.underlying187 rfl (HW5.out ▸ HM5) (k1, false) rfl _ (hz28.out _) (.agg #[.int .i64 0, .int .i64 0, .int .u8 0, .int .i64 0, .int .i64 0, .int .i64 0, .string ⟨#[]⟩, .string ⟨#[]⟩, .int .i64 0, .int .i64 0, .int .i64 0, .int .i64 0, .int .i64 0, .int .i64 0]) false (by rw [hfp]; rfl) (by rw [hfp]; rfl) ?_; rw [← HW5.out]))
              have hfar : ∀ k, k < W.heap.size + 1 + 1 → (W5.alloc (.cells #[.int .i64 0, .int .i64 0, .int .u8 0, .int .i64 0, .int .i64 0, .int .i64 0, .string ⟨#[]⟩, .string ⟨#[]⟩, .int .i64 0, .int .i64 0, .int .i64 0, .int .i64 0, .int .i64 0, .int .i64 0] 28)).heap[k]? = W3.heap[k]? := fun k hk => (Below.heap_alloc _ _ _ (by omega)).trans (HH5.out k (by omega))
              have HIF := Lib.hid (HIT.out.kept (hfar _ (by omega)) (hfar _ (by omega)))
              go_roundw
              case rel => exact ⟨_, _, _, _, lk', done ++ [(k1, true)], ⟨HB6.out, HIF.out, HPT.out, (by rw [List.filterMap_append, ← HI.out.pe]; simp [papOf, hfk]), (by rw [List.filterMap_append, ← HI.out.te]; simp [totOf, hfk, hfp, show ¬ k1 = 0 by simpa using hk0])⟩⟩
              case measure => rw [leftN_eq HIF.out, leftN_eq HI.out.iter]; exact HER.out

end Go.Proofs.YtpffpofdceppiaaGreatDoor
