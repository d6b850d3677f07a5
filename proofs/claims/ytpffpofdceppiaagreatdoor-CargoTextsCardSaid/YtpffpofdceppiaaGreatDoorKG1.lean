/- A part of the proof that laganlaw01.CargoTexts answers true at every input and leaves its arguments as they were; the conditions are those of the given row and card, nothing else. -/
import Derived.Test.YtpffpofdceppiaaGreatDoorKT4
import Derived.Test.YtpffpofdceppiaaGreatDoorKH3
set_option linter.unusedSimpArgs false
set_option linter.unusedVariables false
namespace Go.Proofs.YtpffpofdceppiaaGreatDoor
open Go.RowKit Go.Shelf

def most : Int := 1099511627776
/-- Whether the weight of an Id is taken. -/
def useId (ids : List Int) (all : Bool) (id : Int) : Bool := all || ids.contains id
def sumsOf (ts : List Paper) (ids : List Int) (all : Bool) (p : Int) : Int × Int :=
  match ofP ts p with
  | none => (0, most)
  | some t => if useId ids all t.id then (t.lo, t.hi) else (0, 10000000)
def ownOf (ps : List Paper) (ids : List Int) (all : Bool) (p : Int) : Int × Int :=
  if useId ids all (ofV ps p).id then ((ofV ps p).lo, (ofV ps p).hi) else (1, 100000)
def missOf (ps ts : List Paper) (p : Int) : Int :=
  match ofP ts p with
  | none => 0
  | some t => t.count - (ins ps p).length
def growOK (ps ts : List Paper) : Nat → Int → Bool
  | 0, _ => false
  | n + 1, p => (ins ps p).all (growOK ps ts n) && decide (0 ≤ missOf ps ts p)
/-- The packages in one, itself among them. -/
def sub (K : Int → List Int) : Nat → Int → List Int
  | 0, _ => []
  | n + 1, p => p :: (K p).flatMap (sub K n)

theorem sub_self {K : Int → List Int} {n : Nat} {p : Int} (h : Deep K n p) : p ∈ sub K n p := by
  cases n with
  | zero => exact h.elim
  | succ n => exact .head _

theorem sub_closed {K : Int → List Int} : ∀ {n : Nat} {p : Int}, Deep K n p → ∀ r ∈ sub K n p, ∀ q ∈ K r, q ∈ sub K n p := by
  intro n
  induction n with
  | zero => intro p h; exact h.elim
  | succ n ih =>
    intro p h r hr q hq
    rw [sub] at hr ⊢
    refine .tail _ (List.mem_flatMap.2 ?_)
    cases hr with
    | head => exact ⟨q, hq, sub_self (h q hq)⟩
    | tail _ hr =>
      obtain ⟨s, hs, hr⟩ := List.mem_flatMap.1 hr
      exact ⟨s, hs, ih (h s hs) r hr q hq⟩

theorem NodeAt.set_pack {w : World} {b : Nat} {p : Int} {d : Nd} (v : Int) (h : NodeAt w b p d) : NodeAt (w.setCell ⟨b, 0, none⟩ (.int .i64 v)) b v d := by
  obtain ⟨hlt, hk⟩ := Array.getElem?_eq_some_iff.1 h
  show (w.heap.modify b _)[b]? = _
  rw [Array.getElem?_eq_getElem (by rw [Array.size_modify]; exact hlt), Array.getElem_modify_self, hk]
  rfl

theorem rows_apart {w : World} {b1 b2 s1 s2 n1 n2 : Nat} {e1 e2 : TypeId} {v1 v2 : Value} {x1 x2 : List Value} (h1 : w.ownsRow b1 e1 s1 v1 n1 x1) (h2 : w.ownsRow b2 e2 s2 v2 n2 x2) (he : e1 ≠ e2) : v1.ownBlock = none ∨ v1.ownBlock ≠ v2.ownBlock := by
  rcases h1.2 with ⟨rfl, _⟩ | ⟨g, cap, cur, rfl, _, hg, _⟩
  · exact .inl rfl
  · refine .inr fun e => ?_
    rcases h2.2 with ⟨rfl, _⟩ | ⟨g2, cap2, cur2, rfl, _, hg2, _⟩
    · simp [Value.ownBlock] at e
    · have e : g = g2 := by simpa [Value.ownBlock] using e
      subst e
      rw [hg] at hg2
      simp at hg2
      exact he hg2.2

/-- How things stand while a node grows. -/
structure GI (E0 : Nat) (w0 W : World) (bc b : Nat) (K : Int → List Int) (p : Int) (tc : Option Int) (dp : Nd) (v vin : Value) (k : Nat) (xs : List Value) (A : Int → Nat) (S : Int → Nd) (D : List Int) (c : Int) (wr : World) : Prop where
  kb : KeptBut E0 bc w0 wr
  fr : ∀ j, j < W.heap.size → j ≠ b → j ≠ bc → wr.heap[j]? = W.heap[j]?
  sz : W.heap.size ≤ wr.heap.size
  node : NodeAt wr b p { dp with kids := v }
  row : wr.ownsRow W.heap.size 101 1 v k xs
  ints : Own3 W.heap.size wr vin (K p)
  tot : ∀ t, tc = some t → ∃ bt, dp.tot = ptr bt ∧ W.heap.size ≤ bt ∧ wr.cell? ⟨bt, 12, none⟩ = some (.int .i64 t) ∧ ∃ cs, wr.heap[bt]? = some (.cells cs 28 (0, 0))
  cnt : wr.cell? ⟨bc, 0, none⟩ = some (.int .i64 c)
  cz : wr.frozen? ⟨bc, 0, none⟩ = false
  forest : Forest wr W.heap.size K A S D
  apart : ∀ q ∈ D, ∀ g, v.ownBlock = some g → (S q).kids.ownBlock ≠ some g

section
variable {E0 : Nat} {w0 W : World} {bc b : Nat} {K : Int → List Int} {p : Int} {tc : Option Int} {dp : Nd} {v vin : Value} {k : Nat} {xs : List Value} {A : Int → Nat} {S : Int → Nd} {D : List Int} {c : Int} {wr : World}

/-- Where no old block turns. -/
theorem GI.later {w' : World} (h : GI E0 w0 W bc b K p tc dp v vin k xs A S D c wr) (hE : E0 ≤ W.heap.size) (hb : Below wr.heap.size wr w') : GI E0 w0 W bc b K p tc dp v vin k xs A S D c w' where
  kb := h.kb.trans (.of (hb.mono (Nat.le_trans hE h.sz)))
  fr j h1 h2 h3 := (hb.block j (Nat.lt_of_lt_of_le h1 h.sz)).trans (h.fr j h1 h2 h3)
  sz := Nat.le_trans h.sz hb.size
  node := h.node.of_heap (hb.block _ h.node.lt)
  row := by
    obtain ⟨h1, h2⟩ := h.row
    refine ⟨h1, h2.imp id ?_⟩
    rintro ⟨g, cap, cur, a1, a2, a3, a4⟩
    exact ⟨g, cap, cur, a1, a2, (hb.block _ (Array.getElem?_eq_some_iff.1 a3).1).trans a3, a4⟩
  ints := by
    obtain ⟨h1, h2⟩ := h.ints
    refine ⟨h1, h2.imp id ?_⟩
    rintro ⟨g, cap, cur, a1, a2, a3, a4⟩
    exact ⟨g, cap, cur, a1, a2, (hb.block _ (Array.getElem?_eq_some_iff.1 a3).1).trans a3, a4⟩
  tot t ht := by
    obtain ⟨bt, a1, a2, a3, cs, a4⟩ := h.tot t ht
    have hlt := (Array.getElem?_eq_some_iff.1 a4).1
    exact ⟨bt, a1, a2, (hb.cell (p := ⟨bt, 12, none⟩) hlt).trans a3, cs, (hb.block _ hlt).trans a4⟩
  cnt := by
    obtain ⟨ob, ho, _⟩ := cells_of_cell h.cnt
    exact (hb.cell (p := ⟨bc, 0, none⟩) (Array.getElem?_eq_some_iff.1 ho).1).trans h.cnt
  cz := by
    obtain ⟨ob, ho, _⟩ := cells_of_cell h.cnt
    exact (hb.frozen (p := ⟨bc, 0, none⟩) (Array.getElem?_eq_some_iff.1 ho).1).trans h.cz
  forest := h.forest.below (fun k hk => hb.block k hk)
  apart := h.apart

/-- One more is counted. -/
theorem GI.count (h : GI E0 w0 W bc b K p tc dp v vin k xs A S D c wr) (hbc : bc < W.heap.size) (hne : b ≠ bc) (c' : Int) : GI E0 w0 W bc b K p tc dp v vin k xs A S D c' (wr.setCell ⟨bc, 0, none⟩ (.int .i64 c')) := by
  have hg := grown_setCell wr bc 0 (.int .i64 c')
  have hrow : ∀ (e : TypeId) (s : Nat) (v : Value) (n : Nat) (xs : List Value), wr.ownsRow W.heap.size e s v n xs → (wr.setCell ⟨bc, 0, none⟩ (.int .i64 c')).ownsRow W.heap.size e s v n xs := fun e s v n xs hr => ownsRow_setCell_below hr hbc _
  refine ⟨h.kb.trans ⟨rfl, rfl, rfl, hg.size, fun k _ hm => Below.heap_setCell _ _ _ _ hm⟩, fun j h1 h2 h3 => (Below.heap_setCell _ _ _ _ h3).trans (h.fr j h1 h2 h3), Nat.le_trans h.sz hg.size, h.node.of_heap (Below.heap_setCell _ _ _ _ hne), hrow _ _ _ _ _ h.row, hrow _ _ _ _ _ h.ints, ?_, World.cell?_setCell_same' _ _ _ (by rw [h.cnt]; rfl), by rw [World.frozen?_setCell]; exact h.cz, ?_, h.apart⟩
  · intro t ht
    obtain ⟨bt, a1, a2, a3, cs, a4⟩ := h.tot t ht
    have hb' : (wr.setCell ⟨bc, 0, none⟩ (.int .i64 c')).heap[bt]? = wr.heap[bt]? := Below.heap_setCell _ _ _ _ (by simp; omega)
    exact ⟨bt, a1, a2, (World.cell?_of_block (w := wr) hb').trans a3, cs, hb'.trans a4⟩
  · exact ⟨fun q hq => (h.forest.node q hq).of_heap (Below.heap_setCell _ _ _ _ (by have := h.forest.lo q hq; simp; omega)), fun q hq => hrow _ _ _ _ _ (h.forest.row q hq), h.forest.lo, h.forest.inj, h.forest.closed⟩

/-- A kid is appended: the row has turned; then the node's slice. -/
theorem GI.kid {w5 : World} {g' n' cap' : Nat} {k' : Nat} {xs' : List Value} (h : GI E0 w0 W bc b K p tc dp v vin k xs A S D c wr) (hE : E0 ≤ W.heap.size) (hbc : bc < E0) (hbE : E0 ≤ b) (hg : wr.grownBy w5 v.ownBlock) (hrow : w5.ownsRow W.heap.size 101 1 (.slice (some ⟨g', 0, none⟩) n' cap') k' xs') (hor : v.ownBlock = some g' ∨ g' = wr.heap.size) (hbW : b < W.heap.size) :
    NodeAt w5 b p { dp with kids := v } ∧ GI E0 w0 W bc b K p tc dp (.slice (some ⟨g', 0, none⟩) n' cap') vin k' xs' A S D c (w5.setCell ⟨b, 16, none⟩ (.slice (some ⟨g', 0, none⟩) n' cap')) := by
  obtain ⟨v', hv'⟩ : ∃ v' : Value, v' = .slice (some ⟨g', 0, none⟩) n' cap' := ⟨_, rfl⟩
  have hvo : v'.ownBlock = some g' := by rw [hv']; rfl
  rw [← hv'] at hrow ⊢
  have hbD : ∀ q ∈ D, A q ≠ b := fun q hq => by have := h.forest.lo q hq; omega
  have hD : ∀ q ∈ D, v.ownBlock = none ∨ ((S q).kids.ownBlock = none ∨ (S q).kids.ownBlock ≠ v.ownBlock) := fun q hq => by
    cases hv : v.ownBlock with
    | none => exact .inl rfl
    | some g => exact .inr (.inr (h.apart q hq g hv))
  have hvb : ∀ g, v.ownBlock = some g → W.heap.size ≤ g := fun g hg => (h.row.lt g hg).1
  have hn5 : NodeAt w5 b p { dp with kids := v } := h.node.of_heap (hg.block _ h.node.lt (by
    rcases row_not_node h.node h.row (by decide) with e | e
    · rw [e]; simp
    · exact fun e' => e e'.symm))
  have hg2 := grown_setCell w5 b 16 v'
  have hne : ∀ j, j ≠ b → (w5.setCell ⟨b, 16, none⟩ v').heap[j]? = w5.heap[j]? := fun j hj => Below.heap_setCell _ _ _ _ hj
  have hold : ∀ j, j < W.heap.size → w5.heap[j]? = wr.heap[j]? := fun j hj => hg.block j (Nat.lt_of_lt_of_le hj h.sz) (fun e => by have := hvb j e.symm; omega)
  have hnr : ∀ (e : TypeId) (s n : Nat) (u : Value) (ys : List Value), w5.ownsRow W.heap.size e s u n ys → e ≠ 117 → (w5.setCell ⟨b, 16, none⟩ v').ownsRow W.heap.size e s u n ys := fun e s n u ys hr he => hr.kept hg2 (row_not_node hn5 hr he)
  refine ⟨hn5, ⟨h.kb.trans ⟨hg.os, hg.tape, hg.output, Nat.le_trans hg.size hg2.size, fun j h1 h2 => (hne j (by omega)).trans (hold j (by omega))⟩, fun j h1 h2 h3 => (hne j h2).trans ((hold j h1).trans (h.fr j h1 h2 h3)), Nat.le_trans h.sz (Nat.le_trans hg.size hg2.size), hn5.set_kids v', hnr _ _ _ _ _ hrow (by decide), hnr _ _ _ _ _ (h.ints.kept hg (rows_apart h.ints h.row (by decide))) (by decide), ?_, ?_, ?_, ?_, ?_⟩⟩
  · intro t ht
    obtain ⟨bt, a1, a2, a3, cs, a4⟩ := h.tot t ht
    have hlt := (Array.getElem?_eq_some_iff.1 a4).1
    have e1 : w5.heap[bt]? = wr.heap[bt]? := hg.block bt hlt (by
      rcases h.row.2 with ⟨e, _⟩ | ⟨g, cap, cur, e, _, hg', _⟩
      · rw [e]; simp [Value.ownBlock]
      · rw [e]
        intro e2
        have e2 : bt = g := by simpa [Value.ownBlock] using e2
        rw [← e2, a4] at hg'
        simp at hg')
    have e2 : bt ≠ b := by
      rintro rfl
      have := h.node
      rw [NodeAt, a4] at this
      simp at this
    have e3 := (hne bt e2).trans e1
    exact ⟨bt, a1, a2, (World.cell?_of_block (w := wr) e3).trans a3, cs, e3.trans a4⟩
  · exact (World.cell?_of_block (w := wr) ((hne bc (by omega)).trans (hold bc (by omega)))).trans h.cnt
  · exact (World.frozen?_of_block (w := wr) ((hne bc (by omega)).trans (hold bc (by omega)))).trans h.cz
  · refine ⟨fun q hq => (h.forest.node q hq).of_heap ((hne _ (hbD q hq)).trans (hg.block _ (h.forest.node q hq).lt (by
      rcases row_not_node (h.forest.node q hq) h.row (by decide) with e | e
      · rw [e]; simp
      · exact fun e' => e e'.symm))), fun q hq => ?_, h.forest.lo, h.forest.inj, h.forest.closed⟩
    refine hnr _ _ _ _ _ ((h.forest.row q hq).kept hg ?_) (by decide)
    rcases hD q hq with e | e
    · rw [e]
      cases hq' : (S q).kids.ownBlock with
      | none => exact .inl rfl
      | some g => exact .inr (by simp)
    · exact e
  · intro q hq g hg'
    rw [hvo] at hg'
    cases hg'
    rcases hor with e | e
    · exact h.apart q hq g' e
    · intro e2
      have := ((h.forest.row q hq).lt g' e2).2
      omega
end

end Go.Proofs.YtpffpofdceppiaaGreatDoor

set_option linter.unusedSimpArgs false
set_option linter.unusedVariables false
namespace Go.Proofs.YtpffpofdceppiaaGreatDoor
open Go.RowKit Go.Shelf

/-- What lies k below. -/
def lev (K : Int → List Int) : Nat → Int → List Int
  | 0, p => [p]
  | k + 1, p => (lev K k p).flatMap K

theorem lev_succ {K : Int → List Int} {k : Nat} {p q : Int} : q ∈ lev K (k + 1) p ↔ ∃ s ∈ lev K k p, q ∈ K s := by simp [lev, List.mem_flatMap]

theorem lev_head {K : Int → List Int} : ∀ {k : Nat} {p q : Int}, q ∈ lev K (k + 1) p ↔ ∃ s ∈ K p, q ∈ lev K k s := by
  intro k
  induction k with
  | zero => intro p q; simp [lev]
  | succ k ih =>
    intro p q
    rw [lev_succ]
    constructor
    · rintro ⟨s, hs, hq⟩
      obtain ⟨t, ht, hs⟩ := ih.1 hs
      exact ⟨t, ht, lev_succ.2 ⟨s, hs, hq⟩⟩
    · rintro ⟨t, ht, hq⟩
      obtain ⟨s, hs, hq⟩ := lev_succ.1 hq
      exact ⟨s, ih.2 ⟨t, ht, hs⟩, hq⟩

theorem mem_sub {K : Int → List Int} : ∀ {n : Nat} {p q : Int}, q ∈ sub K n p ↔ ∃ k, k < n ∧ q ∈ lev K k p := by
  intro n
  induction n with
  | zero => intro p q; simp [sub]
  | succ n ih =>
    intro p q
    rw [sub, List.mem_cons, List.mem_flatMap]
    constructor
    · rintro (rfl | ⟨s, hs, hq⟩)
      · exact ⟨0, Nat.succ_pos _, by simp [lev]⟩
      · obtain ⟨k, hk, hq⟩ := ih.1 hq
        exact ⟨k + 1, by omega, lev_head.2 ⟨s, hs, hq⟩⟩
    · rintro ⟨k, hk, hq⟩
      cases k with
      | zero => exact .inl (by simpa [lev] using hq)
      | succ k =>
        obtain ⟨s, hs, hq⟩ := lev_head.1 hq
        exact .inr ⟨s, hs, ih.2 ⟨k, by omega, hq⟩⟩

theorem lev_add {K : Int → List Int} {a b : Nat} {p q r : Int} (h1 : q ∈ lev K a p) (h2 : r ∈ lev K b q) : r ∈ lev K (a + b) p := by
  induction b generalizing r with
  | zero => have : r = q := by simpa [lev] using h2
            rw [this]; exact h1
  | succ b ih =>
    obtain ⟨s, hs, hr⟩ := lev_succ.1 h2
    exact lev_succ.2 ⟨s, ih hs, hr⟩

theorem deep_lev {K : Int → List Int} : ∀ {n : Nat} {p : Int}, Deep K n p → ∀ {k : Nat} {r : Int}, r ∈ lev K k p → k < n := by
  intro n
  induction n with
  | zero => intro p h; exact h.elim
  | succ n ih =>
    intro p h k r hr
    cases k with
    | zero => omega
    | succ k =>
      obtain ⟨s, hs, hr⟩ := lev_head.1 hr
      have := ih (h s hs) hr
      omega

theorem no_cycle {K : Int → List Int} {n : Nat} {p : Int} (h : Deep K n p) {k : Nat} (hk : p ∈ lev K (k + 1) p) : False := by
  have : ∀ m : Nat, p ∈ lev K (m * (k + 1)) p := by
    intro m
    induction m with
    | zero => simp [lev]
    | succ m ih => rw [Nat.succ_mul]; exact lev_add ih hk
  have h1 := deep_lev h (this n)
  have : n ≤ n * (k + 1) := Nat.le_mul_of_pos_right n (by omega)
  omega

/-- Each package lies in one. -/
def OneIn (K : Int → List Int) : Prop := ∀ q s t, q ∈ K s → q ∈ K t → s = t

theorem kids_apart {K : Int → List Int} (hU : OneIn K) {n : Nat} {p q1 q2 : Int} (h : Deep K n p) (h1 : q1 ∈ K p) (h2 : q2 ∈ K p) : ∀ (k1 k2 : Nat) (r : Int), r ∈ lev K k1 q1 → r ∈ lev K k2 q2 → q1 = q2 := by
  intro k1
  induction k1 with
  | zero =>
    intro k2 r hr1 hr2
    obtain rfl : r = q1 := by simpa [lev] using hr1
    cases k2 with
    | zero => simpa [lev] using hr2
    | succ k2 =>
      obtain ⟨s, hs, hr⟩ := lev_succ.1 hr2
      have := hU _ _ _ hr h1
      subst this
      exact (no_cycle h (lev_head.2 ⟨q2, h2, hs⟩)).elim
  | succ k1 ih =>
    intro k2 r hr1 hr2
    obtain ⟨s, hs, hr⟩ := lev_succ.1 hr1
    cases k2 with
    | zero =>
      obtain rfl : r = q2 := by simpa [lev] using hr2
      have := hU _ _ _ hr h2
      subst this
      exact (no_cycle h (lev_head.2 ⟨q1, h1, hs⟩)).elim
    | succ k2 =>
      obtain ⟨s2, hs2, hr'⟩ := lev_succ.1 hr2
      have := hU _ _ _ hr hr'
      subst this
      exact ih k2 s hs hs2

theorem subs_apart {K : Int → List Int} (hU : OneIn K) {n m1 m2 : Nat} {p q1 q2 r : Int} (h : Deep K n p) (h1 : q1 ∈ K p) (h2 : q2 ∈ K p) (hr1 : r ∈ sub K m1 q1) (hr2 : r ∈ sub K m2 q2) : q1 = q2 := by
  obtain ⟨k1, _, a1⟩ := mem_sub.1 hr1
  obtain ⟨k2, _, a2⟩ := mem_sub.1 hr2
  exact kids_apart hU h h1 h2 k1 k2 r a1 a2

theorem sub_above {K : Int → List Int} {n m : Nat} {p q : Int} (h : Deep K n p) (hq : q ∈ K p) : p ∉ sub K m q := fun hp => by
  obtain ⟨k, _, a⟩ := mem_sub.1 hp
  exact no_cycle h (lev_head.2 ⟨q, hq, a⟩)

end Go.Proofs.YtpffpofdceppiaaGreatDoor

set_option linter.unusedSimpArgs false
set_option linter.unusedVariables false
namespace Go.Proofs.YtpffpofdceppiaaGreatDoor
open Go.RowKit Go.Shelf

/-- How things stand ahead of a node's kids. -/
structure G0 (E0 : Nat) (w0 W : World) (bc b : Nat) (p : Int) (tc : Option Int) (d : Nd) (c : Int) (wr : World) : Prop where
  kb : KeptBut E0 bc w0 wr
  fr : ∀ j, j < W.heap.size → j ≠ b → j ≠ bc → wr.heap[j]? = W.heap[j]?
  sz : W.heap.size ≤ wr.heap.size
  node : NodeAt wr b p d
  tot : ∀ t, tc = some t → ∃ bt, d.tot = ptr bt ∧ W.heap.size ≤ bt ∧ wr.cell? ⟨bt, 12, none⟩ = some (.int .i64 t) ∧ ∃ cs, wr.heap[bt]? = some (.cells cs 28 (0, 0))
  cnt : wr.cell? ⟨bc, 0, none⟩ = some (.int .i64 c)
  cz : wr.frozen? ⟨bc, 0, none⟩ = false

theorem G0.later {E0 : Nat} {w0 W : World} {bc b : Nat} {p : Int} {tc : Option Int} {d : Nd} {c : Int} {wr w' : World} (h : G0 E0 w0 W bc b p tc d c wr) (hE : E0 ≤ W.heap.size) (hb : Below wr.heap.size wr w') : G0 E0 w0 W bc b p tc d c w' where
  kb := h.kb.trans (.of (hb.mono (Nat.le_trans hE h.sz)))
  fr j h1 h2 h3 := (hb.block j (Nat.lt_of_lt_of_le h1 h.sz)).trans (h.fr j h1 h2 h3)
  sz := Nat.le_trans h.sz hb.size
  node := h.node.of_heap (hb.block _ h.node.lt)
  tot t ht := by
    obtain ⟨bt, a1, a2, a3, cs, a4⟩ := h.tot t ht
    have hlt := (Array.getElem?_eq_some_iff.1 a4).1
    exact ⟨bt, a1, a2, (hb.cell (p := ⟨bt, 12, none⟩) hlt).trans a3, cs, (hb.block _ hlt).trans a4⟩
  cnt := by
    obtain ⟨ob, ho, _⟩ := cells_of_cell h.cnt
    exact (hb.cell (p := ⟨bc, 0, none⟩) (Array.getElem?_eq_some_iff.1 ho).1).trans h.cnt
  cz := by
    obtain ⟨ob, ho, _⟩ := cells_of_cell h.cnt
    exact (hb.frozen (p := ⟨bc, 0, none⟩) (Array.getElem?_eq_some_iff.1 ho).1).trans h.cz

/-- The node itself is written. -/
theorem G0.own {E0 : Nat} {w0 W : World} {bc b : Nat} {p p' : Int} {tc : Option Int} {d d' : Nd} {c : Int} {wr w' : World} (h : G0 E0 w0 W bc b p tc d c wr) (hE : E0 ≤ W.heap.size) (hbc : bc < E0) (hbE : E0 ≤ b) (hg : wr.grownBy w' (some b)) (hn : NodeAt w' b p' d') (ht : d'.tot = d.tot) : G0 E0 w0 W bc b p' tc d' c w' where
  kb := h.kb.trans ⟨hg.os, hg.tape, hg.output, hg.size, fun j h1 h2 => by
    exact hg.block j (Nat.lt_of_lt_of_le h1 (Nat.le_trans hE h.sz)) (fun e => by cases e; omega)⟩
  fr j h1 h2 h3 := (hg.block j (Nat.lt_of_lt_of_le h1 h.sz) (fun e => h2 (by simpa using e))).trans (h.fr j h1 h2 h3)
  sz := Nat.le_trans h.sz hg.size
  node := hn
  tot t ht' := by
    obtain ⟨bt, a1, a2, a3, cs, a4⟩ := h.tot t ht'
    have hlt := (Array.getElem?_eq_some_iff.1 a4).1
    have hne : bt ≠ b := by
      rintro rfl
      have := h.node
      rw [NodeAt, a4] at this
      simp at this
    have e := hg.block bt hlt (fun e => hne (by simpa using e))
    exact ⟨bt, ht.trans a1, a2, (World.cell?_of_block (w := wr) e).trans a3, cs, e.trans a4⟩
  cnt := by
    obtain ⟨ob, ho, _⟩ := cells_of_cell h.cnt
    exact (World.cell?_of_block (w := wr) (hg.block bc (Array.getElem?_eq_some_iff.1 ho).1 (fun e => by cases e; omega))).trans h.cnt
  cz := by
    obtain ⟨ob, ho, _⟩ := cells_of_cell h.cnt
    exact (World.frozen?_of_block (w := wr) (hg.block bc (Array.getElem?_eq_some_iff.1 ho).1 (fun e => by cases e; omega))).trans h.cz


theorem G0.own0 {E0 : Nat} {w0 W : World} {bc b : Nat} {p p' : Int} {d d' : Nd} {c : Int} {wr w' : World} (h : G0 E0 w0 W bc b p none d c wr) (hE : E0 ≤ W.heap.size) (hbc : bc < E0) (hbE : E0 ≤ b) (hg : wr.grownBy w' (some b)) (hn : NodeAt w' b p' d') : G0 E0 w0 W bc b p' none d' c w' := by
  have h1 : G0 E0 w0 W bc b p none { d with tot := d.tot } c wr := h
  exact ⟨h.kb.trans ⟨hg.os, hg.tape, hg.output, hg.size, fun j h1 h2 => hg.block j (Nat.lt_of_lt_of_le h1 (Nat.le_trans hE h.sz)) (fun e => by cases e; omega)⟩,
    fun j h1 h2 h3 => (hg.block j (Nat.lt_of_lt_of_le h1 h.sz) (fun e => h2 (by simpa using e))).trans (h.fr j h1 h2 h3), Nat.le_trans h.sz hg.size, hn, (fun t ht => by cases ht), by
      obtain ⟨ob, ho, _⟩ := cells_of_cell h.cnt
      exact (World.cell?_of_block (w := wr) (hg.block bc (Array.getElem?_eq_some_iff.1 ho).1 (fun e => by cases e; omega))).trans h.cnt, by
      obtain ⟨ob, ho, _⟩ := cells_of_cell h.cnt
      exact (World.frozen?_of_block (w := wr) (hg.block bc (Array.getElem?_eq_some_iff.1 ho).1 (fun e => by cases e; omega))).trans h.cz⟩

/-- What a growing node finds. -/
structure Env (bm ba bi bf : Nat) (wp W : World) (vp vt vids fv : Value) (all : Bool) : Prop where
  m0 : W.cell? ⟨bm, 0, none⟩ = some vp
  m1 : W.cell? ⟨bm, 1, none⟩ = some vt
  a : W.cell? ⟨ba, 0, none⟩ = some (.bool all)
  i : W.cell? ⟨bi, 0, none⟩ = some vids
  f : W.cell? ⟨bf, 0, none⟩ = some fv
  below : Below wp.heap.size wp W

theorem Env.kept {E0 bm ba bi bc bf : Nat} {w0 wp W : World} {vp vt vids fv : Value} {all : Bool} (h : Env bm ba bi bf wp w0 vp vt vids fv all) (hk : KeptBut E0 bc w0 W) (hc : wp.heap.size ≤ bc) (hE : wp.heap.size ≤ E0)
    (em : bm < E0 ∧ bm ≠ bc) (ea : ba < E0 ∧ ba ≠ bc) (ei : bi < E0 ∧ bi ≠ bc) (ef : bf < E0 ∧ bf ≠ bc) : Env bm ba bi bf wp W vp vt vids fv all :=
  ⟨(hk.cell (p := ⟨bm, 0, none⟩) em.1 em.2).trans h.m0, (hk.cell (p := ⟨bm, 1, none⟩) em.1 em.2).trans h.m1, (hk.cell (p := ⟨ba, 0, none⟩) ea.1 ea.2).trans h.a, (hk.cell (p := ⟨bi, 0, none⟩) ei.1 ei.2).trans h.i, (hk.cell (p := ⟨bf, 0, none⟩) ef.1 ef.2).trans h.f,
    ⟨hk.os.trans h.below.os, hk.tape.trans h.below.tape, hk.output.trans h.below.output, Nat.le_trans h.below.size hk.size, fun k hk' => (hk.block k (by omega) (by omega)).trans (h.below.block k hk')⟩⟩

def growFn (bm ba bi bc bf : Nat) : Value := .func (.func 178) #[] #[ptr bm, ptr ba, ptr bi, ptr bc, ptr bf]

/-- What a node holds that has grown. -/
structure Grown' (ps ts : List Paper) (ids : List Int) (all : Bool) (r : Int) (d : Nd) : Prop where
  sum0 : d.sum0 = (sumsOf ts ids all r).1
  sum1 : d.sum1 = (sumsOf ts ids all r).2
  missing : d.missing = missOf ps ts r
  low : d.low = 0
  end0 : d.end0 = 0
  end1 : d.end1 = 0


section
variable {E0 : Nat} {w0 W : World} {bc b : Nat} {K : Int → List Int} {p : Int} {tc : Option Int} {dp : Nd} {v vin : Value} {k : Nat} {xs : List Value} {A : Int → Nat} {S : Int → Nd} {D : List Int} {c : Int} {wr : World}

/-- The start. -/
theorem GI.of_G0 (h : G0 E0 w0 W bc b p tc dp c wr) (hk : dp.kids = .slice none 0 0) (hi : Own3 W.heap.size wr vin (K p)) : GI E0 w0 W bc b K p tc dp (.slice none 0 0) vin 0 [] A S [] c wr where
  kb := h.kb
  fr := h.fr
  sz := h.sz
  node := by rw [← hk]; exact h.node
  row := World.ownsRow_nil _ _ _ _
  ints := hi
  tot := h.tot
  cnt := h.cnt
  cz := h.cz
  forest := ⟨(fun _ h => by cases h), (fun _ h => by cases h), (fun _ h => by cases h), (fun _ h => by cases h), (fun _ h => by cases h)⟩
  apart := fun _ h => by cases h

/-- A call that turns a kid's node and the count alone. -/
theorem GI.over {bk : Nat} {dk : Nd} {q : Int} {w' : World} {c' : Int} (h : GI E0 w0 W bc b K p tc dp v vin k xs A S D c wr) (hbc : bc < W.heap.size) (hbW : b < W.heap.size) (hbb : b ≠ bc) (hk : KeptBut E0 bc w0 w') (hfr : ∀ j, j < wr.heap.size → j ≠ bk → j ≠ bc → w'.heap[j]? = wr.heap[j]?) (hs : wr.heap.size ≤ w'.heap.size)
    (hn : NodeAt wr bk q dk) (hbk : W.heap.size ≤ bk) (hD : ∀ r ∈ D, A r ≠ bk) (hc : w'.cell? ⟨bc, 0, none⟩ = some (.int .i64 c')) (hz : w'.frozen? ⟨bc, 0, none⟩ = false) : GI E0 w0 W bc b K p tc dp v vin k xs A S D c' w' := by
  have hrow : ∀ (e : TypeId) (s n : Nat) (u : Value) (ys : List Value), wr.ownsRow W.heap.size e s u n ys → e ≠ 117 → w'.ownsRow W.heap.size e s u n ys := fun e s n u ys hr he => by
    refine ⟨hr.1, ?_⟩
    have hne := row_not_node hn hr he
    rcases hr.2 with h2 | ⟨g, cap, cur, a1, a2, a3, a4⟩
    · exact .inl h2
    · refine .inr ⟨g, cap, cur, a1, a2, ?_, a4⟩
      rw [hfr g (Array.getElem?_eq_some_iff.1 a3).1 ?_ (by omega)]
      · exact a3
      · rcases hne with e' | e'
        · rw [a1] at e'; simp [Value.ownBlock] at e'
        · rw [a1] at e'
          exact fun e2 => e' (by rw [← e2]; rfl)
  refine ⟨hk, fun j h1 h2 h3 => (hfr j (Nat.lt_of_lt_of_le h1 h.sz) (by omega) h3).trans (h.fr j h1 h2 h3), Nat.le_trans h.sz hs, h.node.of_heap (hfr _ h.node.lt (by omega) hbb), hrow _ _ _ _ _ h.row (by decide), hrow _ _ _ _ _ h.ints (by decide), ?_, hc, hz, ?_, h.apart⟩
  · intro t ht
    obtain ⟨bt, a1, a2, a3, cs, a4⟩ := h.tot t ht
    have hne : bt ≠ bk := by
      rintro rfl
      rw [NodeAt, a4] at hn
      simp at hn
    have e := hfr bt (Array.getElem?_eq_some_iff.1 a4).1 hne (by omega)
    exact ⟨bt, a1, a2, (World.cell?_of_block (w := wr) e).trans a3, cs, e.trans a4⟩
  · exact ⟨fun r hr => (h.forest.node r hr).of_heap (hfr _ (h.forest.node r hr).lt (hD r hr) (by have := h.forest.lo r hr; omega)), fun r hr => hrow _ _ _ _ _ (h.forest.row r hr) (by decide), h.forest.lo, h.forest.inj, h.forest.closed⟩

/-- One of two. -/
def pick {α : Type} (D : List Int) (f g : Int → α) (x : Int) : α := if x ∈ D then f x else g x
theorem pick_in {α : Type} {D : List Int} {f g : Int → α} {x : Int} (h : x ∈ D) : pick D f g x = f x := by simp [pick, h]
theorem pick_out {α : Type} {D : List Int} {f g : Int → α} {x : Int} (h : x ∉ D) : pick D f g x = g x := by simp [pick, h]

/-- Two forests side by side. -/
theorem Forest.join {w : World} {base : Nat} {A A' : Int → Nat} {S S' : Int → Nd} {D D' : List Int} (h : Forest w base K A S D) (h' : Forest w base K A' S' D') (hd : ∀ x ∈ D, x ∉ D') (ha : ∀ x ∈ D, ∀ y ∈ D', A x ≠ A' y) : Forest w base K (pick D' A' A) (pick D' S' S) (D ++ D') where
  node p hp := by
    by_cases e : p ∈ D'
    · rw [pick_in e, pick_in e]; exact h'.node p e
    · rw [pick_out e, pick_out e]; exact h.node p ((List.mem_append.1 hp).resolve_right e)
  row p hp := by
    by_cases e : p ∈ D'
    · rw [pick_in e]
      have := h'.row p e
      rwa [show ((K p).map fun q => ptr (pick D' A' A q)) = (K p).map fun q => ptr (A' q) from List.map_congr_left (fun q hq => by rw [pick_in (h'.closed p e q hq)])]
    · rw [pick_out e]
      have hpD := (List.mem_append.1 hp).resolve_right e
      have := h.row p hpD
      rwa [show ((K p).map fun q => ptr (pick D' A' A q)) = (K p).map fun q => ptr (A q) from List.map_congr_left (fun q hq => by rw [pick_out (hd q (h.closed p hpD q hq))])]
  lo p hp := by
    by_cases e : p ∈ D'
    · rw [pick_in e]; exact h'.lo p e
    · rw [pick_out e]; exact h.lo p ((List.mem_append.1 hp).resolve_right e)
  inj p hp q hq he := by
    by_cases e1 : p ∈ D' <;> by_cases e2 : q ∈ D'
    · rw [pick_in e1, pick_in e2] at he; exact h'.inj p e1 q e2 he
    · rw [pick_in e1, pick_out e2] at he; exact absurd he.symm (ha q ((List.mem_append.1 hq).resolve_right e2) p e1)
    · rw [pick_out e1, pick_in e2] at he; exact absurd he (ha p ((List.mem_append.1 hp).resolve_right e1) q e2)
    · rw [pick_out e1, pick_out e2] at he; exact h.inj p ((List.mem_append.1 hp).resolve_right e1) q ((List.mem_append.1 hq).resolve_right e2) he
  closed p hp q hq := by
    by_cases e : p ∈ D'
    · exact List.mem_append.2 (.inr (h'.closed p e q hq))
    · exact List.mem_append.2 (.inl (h.closed p ((List.mem_append.1 hp).resolve_right e) q hq))

/-- A kid's own nodes come in. -/
theorem GI.extend {A' : Int → Nat} {S' : Int → Nd} {D' : List Int} {Z : Nat} (h : GI E0 w0 W bc b K p tc dp v vin k xs A S D c wr) (h' : Forest wr W.heap.size K A' S' D') (hd : ∀ x ∈ D, x ∉ D') (ha : ∀ x ∈ D, ∀ y ∈ D', A x ≠ A' y) (hv : ∀ g, v.ownBlock = some g → g < Z) (hr : ∀ r ∈ D', ∀ g, (S' r).kids.ownBlock = some g → Z ≤ g) :
    GI E0 w0 W bc b K p tc dp v vin k xs (pick D' A' A) (pick D' S' S) (D ++ D') c wr where
  kb := h.kb
  fr := h.fr
  sz := h.sz
  node := h.node
  row := h.row
  ints := h.ints
  tot := h.tot
  cnt := h.cnt
  cz := h.cz
  forest := h.forest.join h' hd ha
  apart q hq g hg := by
    by_cases e : q ∈ D'
    · rw [pick_in e]
      intro e2
      have := hr q e g e2
      have := hv g hg
      omega
    · rw [pick_out e]; exact h.apart q ((List.mem_append.1 hq).resolve_right e) g hg

/-- The node on top of its kids'. -/
theorem Forest.top {w : World} {base b : Nat} {d : Nd} {p : Int} {A : Int → Nat} {S : Int → Nd} {D : List Int} (h : Forest w base K A S D) (hp : p ∉ D) (hn : NodeAt w b p d) (hb : base ≤ b) (hrow : w.ownsRow base 101 1 d.kids (K p).length ((K p).map fun q => ptr (A q))) (hkp : p ∉ K p) (hK : ∀ q ∈ K p, q ∈ D) (hab : ∀ r ∈ D, A r ≠ b) :
    Forest w base K (fun x => if x = p then b else A x) (upd S p d) (p :: D) where
  node q hq := by
    by_cases e : q = p
    · subst e; simp only [if_true]; rw [upd_same]; exact hn
    · simp only [if_neg e]; rw [upd_other _ _ _ _ e]; exact h.node q ((List.mem_cons.1 hq).resolve_left e)
  row q hq := by
    by_cases e : q = p
    · subst e
      rw [upd_same]
      rwa [show ((K q).map fun r => ptr (if r = q then b else A r)) = (K q).map fun r => ptr (A r) from List.map_congr_left (fun r hr => by have : r ≠ q := (by rintro rfl; exact hkp hr); rw [if_neg this])]
    · rw [upd_other _ _ _ _ e]
      have hqD := (List.mem_cons.1 hq).resolve_left e
      have := h.row q hqD
      rwa [show ((K q).map fun r => ptr (if r = p then b else A r)) = (K q).map fun r => ptr (A r) from List.map_congr_left (fun r hr => by have : r ≠ p := (by rintro rfl; exact hp (h.closed q hqD _ hr)); rw [if_neg this])]
  lo q hq := by
    by_cases e : q = p
    · simp only [if_pos e]; exact hb
    · simp only [if_neg e]; exact h.lo q ((List.mem_cons.1 hq).resolve_left e)
  inj q hq r hr he := by
    by_cases e1 : q = p <;> by_cases e2 : r = p
    · rw [e1, e2]
    · simp only [if_pos e1, if_neg e2] at he; exact absurd he.symm (hab r ((List.mem_cons.1 hr).resolve_left e2))
    · simp only [if_neg e1, if_pos e2] at he; exact absurd he (hab q ((List.mem_cons.1 hq).resolve_left e1))
    · simp only [if_neg e1, if_neg e2] at he; exact h.inj q ((List.mem_cons.1 hq).resolve_left e1) r ((List.mem_cons.1 hr).resolve_left e2) he
  closed q hq r hr := by
    by_cases e : q = p
    · subst e; exact .tail _ (hK r hr)
    · exact .tail _ (h.closed q ((List.mem_cons.1 hq).resolve_left e) r hr)
end

theorem Tryz.info101 : (Tryz.prog.info? 101).map (fun i => (i.zero, i.size, i.bytes)) = some (some (.pointer none), 1, 8) := by kernel_rfl

theorem take_len {α : Type} (f : Int → List α) (l : List Int) (k : Nat) (h : k < l.length) : ((l.take k).flatMap f).length + (f l[k]).length ≤ (l.flatMap f).length := by
  have h1 : (l.take (k + 1)).flatMap f = (l.take k).flatMap f ++ f l[k] := by
    rw [List.take_succ_eq_append_getElem h, List.flatMap_append]; simp
  have h2 : l.flatMap f = (l.take (k + 1)).flatMap f ++ (l.drop (k + 1)).flatMap f := by rw [← List.flatMap_append, List.take_append_drop]
  rw [h2, List.length_append, h1, List.length_append]
  omega

theorem not_in_take (l : List Int) (hn : l.Nodup) (k : Nat) (h : k < l.length) : l[k] ∉ l.take k := by
  have h1 := List.take_succ_eq_append_getElem h
  have h2 : (l.take (k + 1)).Nodup := hn.sublist (List.take_sublist _ _)
  rw [h1, List.nodup_append] at h2
  exact fun hm => h2.2.2 _ hm _ (.head _) rfl

end Go.Proofs.YtpffpofdceppiaaGreatDoor
