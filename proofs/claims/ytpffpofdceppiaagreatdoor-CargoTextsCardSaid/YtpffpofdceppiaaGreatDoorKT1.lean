/- A part of the proof that laganlaw01.CargoTexts answers true at every input and leaves its arguments as they were; the conditions are those of the given row and card, nothing else. -/
import Derived.Test.YtpffpofdceppiaaGreatDoorKO4
set_option linter.unusedSimpArgs false
set_option linter.unusedVariables false
namespace Go.Proofs.YtpffpofdceppiaaGreatDoor
open Go.RowKit Go.Shelf

/-- What lies in a node, but for its package. -/
structure Nd where
  paper : Paper
  tot : Value
  kids : Value
  own0 : Int
  own1 : Int
  sum0 : Int
  sum1 : Int
  missing : Int
  low : Int
  end0 : Int
  end1 : Int

def Nd.vals (p : Int) (d : Nd) : Array Value := #[.int .i64 p, .int .i64 d.paper.id, .int .i64 d.paper.known, .int .u8 d.paper.kind, .int .i64 d.paper.loss, .int .i64 d.paper.pack, .int .i64 d.paper.inn, .string d.paper.mark, .string d.paper.goods, .int .i64 d.paper.lo, .int .i64 d.paper.hi, .int .i64 d.paper.pieces, .int .i64 d.paper.owner, .int .i64 d.paper.count, .int .i64 d.paper.of, d.tot, d.kids, .int .i64 d.own0, .int .i64 d.own1, .int .i64 d.sum0, .int .i64 d.sum1, .int .i64 d.missing, .int .i64 d.low, .int .i64 d.end0, .int .i64 d.end1]

/-- Block b is the node of a package. -/
def NodeAt (w : World) (b : Nat) (p : Int) (d : Nd) : Prop := w.heap[b]? = some (.cells (d.vals p) 117 (0, 0))

theorem NodeAt.lt {w : World} {b : Nat} {p : Int} {d : Nd} (h : NodeAt w b p d) : b < w.heap.size := (Array.getElem?_eq_some_iff.1 h).1
theorem NodeAt.frozen {w : World} {b : Nat} {p : Int} {d : Nd} (h : NodeAt w b p d) (i : Nat) : w.frozen? ⟨b, i, none⟩ = false := by simp [World.frozen?, show w.heap[b]? = _ from h]
theorem NodeAt.of_heap {w w' : World} {b : Nat} {p : Int} {d : Nd} (h : NodeAt w b p d) (hh : w'.heap[b]? = w.heap[b]?) : NodeAt w' b p d := hh.trans h
theorem NodeAt.pack {w : World} {b : Nat} {p : Int} {d : Nd} (h : NodeAt w b p d) : w.cell? ⟨b, 0, none⟩ = some (.int .i64 p) := by simp [World.cell?, show w.heap[b]? = _ from h, Nd.vals]
theorem NodeAt.tot {w : World} {b : Nat} {p : Int} {d : Nd} (h : NodeAt w b p d) : w.cell? ⟨b, 15, none⟩ = some (d.tot) := by simp [World.cell?, show w.heap[b]? = _ from h, Nd.vals]
theorem NodeAt.kids {w : World} {b : Nat} {p : Int} {d : Nd} (h : NodeAt w b p d) : w.cell? ⟨b, 16, none⟩ = some (d.kids) := by simp [World.cell?, show w.heap[b]? = _ from h, Nd.vals]
theorem NodeAt.own0 {w : World} {b : Nat} {p : Int} {d : Nd} (h : NodeAt w b p d) : w.cell? ⟨b, 17, none⟩ = some (.int .i64 d.own0) := by simp [World.cell?, show w.heap[b]? = _ from h, Nd.vals]
theorem NodeAt.own1 {w : World} {b : Nat} {p : Int} {d : Nd} (h : NodeAt w b p d) : w.cell? ⟨b, 18, none⟩ = some (.int .i64 d.own1) := by simp [World.cell?, show w.heap[b]? = _ from h, Nd.vals]
theorem NodeAt.sum0 {w : World} {b : Nat} {p : Int} {d : Nd} (h : NodeAt w b p d) : w.cell? ⟨b, 19, none⟩ = some (.int .i64 d.sum0) := by simp [World.cell?, show w.heap[b]? = _ from h, Nd.vals]
theorem NodeAt.sum1 {w : World} {b : Nat} {p : Int} {d : Nd} (h : NodeAt w b p d) : w.cell? ⟨b, 20, none⟩ = some (.int .i64 d.sum1) := by simp [World.cell?, show w.heap[b]? = _ from h, Nd.vals]
theorem NodeAt.missing {w : World} {b : Nat} {p : Int} {d : Nd} (h : NodeAt w b p d) : w.cell? ⟨b, 21, none⟩ = some (.int .i64 d.missing) := by simp [World.cell?, show w.heap[b]? = _ from h, Nd.vals]
theorem NodeAt.low {w : World} {b : Nat} {p : Int} {d : Nd} (h : NodeAt w b p d) : w.cell? ⟨b, 22, none⟩ = some (.int .i64 d.low) := by simp [World.cell?, show w.heap[b]? = _ from h, Nd.vals]
theorem NodeAt.end0 {w : World} {b : Nat} {p : Int} {d : Nd} (h : NodeAt w b p d) : w.cell? ⟨b, 23, none⟩ = some (.int .i64 d.end0) := by simp [World.cell?, show w.heap[b]? = _ from h, Nd.vals]
theorem NodeAt.end1 {w : World} {b : Nat} {p : Int} {d : Nd} (h : NodeAt w b p d) : w.cell? ⟨b, 24, none⟩ = some (.int .i64 d.end1) := by simp [World.cell?, show w.heap[b]? = _ from h, Nd.vals]
theorem NodeAt.set_tot {w : World} {b : Nat} {p : Int} {d : Nd} (v : Value) (h : NodeAt w b p d) : NodeAt (w.setCell ⟨b, 15, none⟩ (v)) b p { d with tot := v } := by
  obtain ⟨hlt, hk⟩ := Array.getElem?_eq_some_iff.1 h
  show (w.heap.modify b _)[b]? = _
  rw [Array.getElem?_eq_getElem (by rw [Array.size_modify]; exact hlt), Array.getElem_modify_self, hk]
  rfl
theorem NodeAt.set_kids {w : World} {b : Nat} {p : Int} {d : Nd} (v : Value) (h : NodeAt w b p d) : NodeAt (w.setCell ⟨b, 16, none⟩ (v)) b p { d with kids := v } := by
  obtain ⟨hlt, hk⟩ := Array.getElem?_eq_some_iff.1 h
  show (w.heap.modify b _)[b]? = _
  rw [Array.getElem?_eq_getElem (by rw [Array.size_modify]; exact hlt), Array.getElem_modify_self, hk]
  rfl
theorem NodeAt.set_own0 {w : World} {b : Nat} {p : Int} {d : Nd} (v : Int) (h : NodeAt w b p d) : NodeAt (w.setCell ⟨b, 17, none⟩ (.int .i64 v)) b p { d with own0 := v } := by
  obtain ⟨hlt, hk⟩ := Array.getElem?_eq_some_iff.1 h
  show (w.heap.modify b _)[b]? = _
  rw [Array.getElem?_eq_getElem (by rw [Array.size_modify]; exact hlt), Array.getElem_modify_self, hk]
  rfl
theorem NodeAt.set_own1 {w : World} {b : Nat} {p : Int} {d : Nd} (v : Int) (h : NodeAt w b p d) : NodeAt (w.setCell ⟨b, 18, none⟩ (.int .i64 v)) b p { d with own1 := v } := by
  obtain ⟨hlt, hk⟩ := Array.getElem?_eq_some_iff.1 h
  show (w.heap.modify b _)[b]? = _
  rw [Array.getElem?_eq_getElem (by rw [Array.size_modify]; exact hlt), Array.getElem_modify_self, hk]
  rfl
theorem NodeAt.set_sum0 {w : World} {b : Nat} {p : Int} {d : Nd} (v : Int) (h : NodeAt w b p d) : NodeAt (w.setCell ⟨b, 19, none⟩ (.int .i64 v)) b p { d with sum0 := v } := by
  obtain ⟨hlt, hk⟩ := Array.getElem?_eq_some_iff.1 h
  show (w.heap.modify b _)[b]? = _
  rw [Array.getElem?_eq_getElem (by rw [Array.size_modify]; exact hlt), Array.getElem_modify_self, hk]
  rfl
theorem NodeAt.set_sum1 {w : World} {b : Nat} {p : Int} {d : Nd} (v : Int) (h : NodeAt w b p d) : NodeAt (w.setCell ⟨b, 20, none⟩ (.int .i64 v)) b p { d with sum1 := v } := by
  obtain ⟨hlt, hk⟩ := Array.getElem?_eq_some_iff.1 h
  show (w.heap.modify b _)[b]? = _
  rw [Array.getElem?_eq_getElem (by rw [Array.size_modify]; exact hlt), Array.getElem_modify_self, hk]
  rfl
theorem NodeAt.set_missing {w : World} {b : Nat} {p : Int} {d : Nd} (v : Int) (h : NodeAt w b p d) : NodeAt (w.setCell ⟨b, 21, none⟩ (.int .i64 v)) b p { d with missing := v } := by
  obtain ⟨hlt, hk⟩ := Array.getElem?_eq_some_iff.1 h
  show (w.heap.modify b _)[b]? = _
  rw [Array.getElem?_eq_getElem (by rw [Array.size_modify]; exact hlt), Array.getElem_modify_self, hk]
  rfl
theorem NodeAt.set_low {w : World} {b : Nat} {p : Int} {d : Nd} (v : Int) (h : NodeAt w b p d) : NodeAt (w.setCell ⟨b, 22, none⟩ (.int .i64 v)) b p { d with low := v } := by
  obtain ⟨hlt, hk⟩ := Array.getElem?_eq_some_iff.1 h
  show (w.heap.modify b _)[b]? = _
  rw [Array.getElem?_eq_getElem (by rw [Array.size_modify]; exact hlt), Array.getElem_modify_self, hk]
  rfl
theorem NodeAt.set_end0 {w : World} {b : Nat} {p : Int} {d : Nd} (v : Int) (h : NodeAt w b p d) : NodeAt (w.setCell ⟨b, 23, none⟩ (.int .i64 v)) b p { d with end0 := v } := by
  obtain ⟨hlt, hk⟩ := Array.getElem?_eq_some_iff.1 h
  show (w.heap.modify b _)[b]? = _
  rw [Array.getElem?_eq_getElem (by rw [Array.size_modify]; exact hlt), Array.getElem_modify_self, hk]
  rfl
theorem NodeAt.set_end1 {w : World} {b : Nat} {p : Int} {d : Nd} (v : Int) (h : NodeAt w b p d) : NodeAt (w.setCell ⟨b, 24, none⟩ (.int .i64 v)) b p { d with end1 := v } := by
  obtain ⟨hlt, hk⟩ := Array.getElem?_eq_some_iff.1 h
  show (w.heap.modify b _)[b]? = _
  rw [Array.getElem?_eq_getElem (by rw [Array.size_modify]; exact hlt), Array.getElem_modify_self, hk]
  rfl

/-- A row that is owned is no node. -/
theorem row_not_node {w : World} {base b size n : Nat} {p : Int} {d : Nd} {v : Value} {xs : List Value} {e : TypeId} (h : NodeAt w b p d) (hr : w.ownsRow base e size v n xs) (he : e ≠ 117) : v.ownBlock = none ∨ v.ownBlock ≠ some b := by
  rcases hr.2 with ⟨rfl, _⟩ | ⟨g, cap, cur, rfl, _, hg, _⟩
  · exact .inl rfl
  · refine .inr fun e' => ?_
    obtain rfl : g = b := by simpa [Value.ownBlock] using e'
    have := (show w.heap[g]? = _ from h).symm.trans hg
    simp at this
    exact he this.2.symm

def ptr (b : Nat) : Value := .pointer (some ⟨b, 0, none⟩)

/-- Nodes of packages in memory. -/
structure Forest (w : World) (base : Nat) (K : Int → List Int) (A : Int → Nat) (S : Int → Nd) (D : List Int) : Prop where
  node : ∀ p ∈ D, NodeAt w (A p) p (S p)
  row : ∀ p ∈ D, w.ownsRow base 101 1 (S p).kids (K p).length ((K p).map fun q => ptr (A q))
  lo : ∀ p ∈ D, base ≤ A p
  inj : ∀ p ∈ D, ∀ q ∈ D, A p = A q → p = q
  closed : ∀ p ∈ D, ∀ q ∈ K p, q ∈ D

def upd (S : Int → Nd) (p : Int) (d : Nd) : Int → Nd := fun q => if q = p then d else S q
theorem upd_same (S : Int → Nd) (p : Int) (d : Nd) : upd S p d p = d := by simp [upd]
theorem upd_other (S : Int → Nd) (p q : Int) (d : Nd) (h : q ≠ p) : upd S p d q = S q := by simp [upd, h]

/-- A store into one node. -/
theorem Forest.set {w w' : World} {base : Nat} {K : Int → List Int} {A : Int → Nat} {S : Int → Nd} {D : List Int} (h : Forest w base K A S D) {p : Int} (hp : p ∈ D) (d : Nd) (hk : d.kids = (S p).kids)
    (hn : NodeAt w' (A p) p d) (hg : w.grownBy w' (some (A p))) : Forest w' base K A (upd S p d) D where
  node q hq := by
    by_cases e : q = p
    · subst e; rw [upd_same]; exact hn
    · rw [upd_other _ _ _ _ e]
      exact (h.node q hq).of_heap (hg.block _ (h.node q hq).lt (fun e' => e (h.inj q hq p hp (by simpa using e'))))
  row q hq := by
    have hr := (h.row q hq).kept hg (row_not_node (h.node p hp) (h.row q hq) (by decide))
    by_cases e : q = p
    · subst e; rw [upd_same, hk]; exact hr
    · rw [upd_other _ _ _ _ e]; exact hr
  lo := h.lo
  inj := h.inj
  closed := h.closed

/-- Whatever lies on beyond. -/
theorem Forest.below {w w' : World} {base : Nat} {K : Int → List Int} {A : Int → Nat} {S : Int → Nd} {D : List Int} (h : Forest w base K A S D) (hh : ∀ k, k < w.heap.size → w'.heap[k]? = w.heap[k]?) : Forest w' base K A S D where
  node q hq := (h.node q hq).of_heap (hh _ (h.node q hq).lt)
  row q hq := by
    obtain ⟨h1, h2⟩ := h.row q hq
    refine ⟨h1, h2.imp id ?_⟩
    rintro ⟨g, cap, cur, a1, a2, a3, a4⟩
    exact ⟨g, cap, cur, a1, a2, (hh _ (Array.getElem?_eq_some_iff.1 a3).1).trans a3, a4⟩
  lo := h.lo
  inj := h.inj
  closed := h.closed

/-- The kids of a node, at their places. -/
theorem Forest.kid {w : World} {base : Nat} {K : Int → List Int} {A : Int → Nat} {S : Int → Nd} {D : List Int} (h : Forest w base K A S D) {p : Int} (hp : p ∈ D) :
    ∃ a c, (S p).kids = .slice a (K p).length c ∧ (K p).length ≤ c ∧ c ≤ maxLen ∧ (0 < c → ∃ g, a = some ⟨g, 0, none⟩ ∧ ∀ i (hi : i < (K p).length), w.cell? ⟨g, i, none⟩ = some (ptr (A (K p)[i]))) := by
  obtain ⟨h1, h2⟩ := h.row p hp
  rcases h2 with ⟨e1, e2⟩ | ⟨g, cap, cur, e1, e2, e3, e4, e5, e6, e7⟩
  · exact ⟨none, 0, by rw [e1, e2], by omega, by unfold maxLen; omega, fun h => by omega⟩
  · refine ⟨_, _, e1, e4, e5, fun _ => ⟨g, rfl, fun i hi => ?_⟩⟩
    have : ((K p).map fun q => ptr (A q))[i]? = some (ptr (A (K p)[i])) := by simp [hi]
    rw [← e7, List.getElem?_take_of_lt (by omega)] at this
    simp only [World.cell?, e3]
    simpa using this

/-- No chain of packages below one is longer than n. -/
def Deep (K : Int → List Int) : Nat → Int → Prop
  | 0, _ => False
  | n + 1, p => ∀ q ∈ K p, Deep K n q

theorem Deep.succ {K : Int → List Int} : ∀ {n : Nat} {p : Int}, Deep K n p → Deep K (n + 1) p
  | 0, _, h => h.elim
  | n + 1, _, h => fun q hq => Deep.succ (n := n) (h q hq)

theorem Deep.mono {K : Int → List Int} {m n : Nat} {p : Int} (h : Deep K m p) (hmn : m ≤ n) : Deep K n p := by
  induction hmn with
  | refl => exact h
  | step _ ih => exact ih.succ

end Go.Proofs.YtpffpofdceppiaaGreatDoor

set_option linter.unusedSimpArgs false
set_option linter.unusedVariables false
namespace Go.Proofs.YtpffpofdceppiaaGreatDoor
open Go.RowKit Go.Shelf

/-- Whether a package lies in one. -/
def seek (K : Int → List Int) : Nat → Int → Int → Bool
  | 0, _, _ => false
  | n + 1, p, t => (K p).any (fun q => q == t || seek K n q t)

def bptr (q : Bool) (b : Nat) : Value := if q then ptr b else .pointer none

set_option maxRecDepth 100000 in
set_option maxHeartbeats 4000000 in
theorem find1_any (w0 W : World) (b B3 B5 : Nat) (q t : Int) (d : Nd) (hN : NodeAt W b q d) (h3 : W.cell? ⟨B3, 0, none⟩ = some (.int .i64 t)) (h5 : W.cell? ⟨B5, 0, none⟩ = some (.pointer none)) (hf : W.frozen? ⟨B5, 0, none⟩ = false)
    (hne : B3 ≠ B5) (hB : Below w0.heap.size w0 W) (g5 : w0.heap.size ≤ B5) :
    Calls Tryz.prog 164 #[.pointer (some ⟨b, 0, none⟩), .pointer (some ⟨B3, 0, none⟩), .pointer (some ⟨B5, 0, none⟩)] W fun e W' => e = .returned (.bool (!(q == t))) ∧ Below w0.heap.size w0 W' ∧
      W'.cell? ⟨B3, 0, none⟩ = some (.int .i64 t) ∧ W'.cell? ⟨B5, 0, none⟩ = some (bptr (q == t) b) ∧ W'.frozen? ⟨B5, 0, none⟩ = false := by
  have hp := hN.pack
  clear hN
  have qe : ∀ (W : World) (o : Option Addr), (binOp .eql 101 (.pointer o) (.pointer none)).run Tryz.prog W = .ok (.bool o.isNone) W := fun W o => by go_simp
  cases g : (q == t)
  · go_enter Tryz.func164, Tryz.ntmps164
    go_wp2_with fail
    go_quiet (fail)
    go_wp2_with fail
    go_ret
    exact ⟨rfl, below_drewN hB _, h3, h5, hf⟩
  · go_enter Tryz.func164, Tryz.ntmps164
    go_wp2_with fail
    go_quiet (fail)
    go_wp2_with fail
    go_ret
    refine ⟨rfl, (below_drewN hB _).setCell (p := ⟨B5, 0, none⟩) g5 _, ?_, ?_, ?_⟩
    · rw [World.cell?_setCell_other _ _ _ _ (by simp)]; exact h3
    · exact World.cell?_setCell_same' _ _ _ (by show ((W.drewN _).cell? _).isSome; rw [show (W.drewN _).cell? ⟨B5, 0, none⟩ = _ from h5]; rfl)
    · rw [World.frozen?_setCell]; exact hf


theorem seek_step (K : Int → List Int) (n : Nat) (p t : Int) (k : Nat) (hk : k < (K p).length) (h : ∀ j (hj : j < (K p).length), j < k → ((K p)[j] == t || seek K n (K p)[j] t) = false) (hh : ((K p)[k] == t || seek K n (K p)[k] t) = true) : seek K (n + 1) p t = true := by
  rw [seek, List.any_eq_true]
  exact ⟨_, List.getElem_mem hk, hh⟩
theorem seek_none (K : Int → List Int) (n : Nat) (p t : Int) (h : ∀ j (hj : j < (K p).length), ((K p)[j] == t || seek K n (K p)[j] t) = false) : seek K (n + 1) p t = false := by
  rw [seek, List.any_eq_false]
  intro x hx
  obtain ⟨j, hj, rfl⟩ := List.getElem_of_mem hx
  rw [h j hj]; simp

set_option maxRecDepth 100000 in
set_option maxHeartbeats 4000000 in
theorem every_any (w0 : World) (base : Nat) (K : Int → List Int) (A : Int → Nat) (S : Int → Nd) (D : List Int) (B3 B5 : Nat) (t : Int) (hF : Forest w0 base K A S D) (hne : B3 ≠ B5) (g5 : w0.heap.size ≤ B5) (hKl : ∀ p ∈ D, (K p).length ≤ 1000) :
    ∀ (n : Nat) (p : Int), Deep K n p → p ∈ D → ∀ W : World, Below w0.heap.size w0 W → W.cell? ⟨B3, 0, none⟩ = some (.int .i64 t) → W.cell? ⟨B5, 0, none⟩ = some (.pointer none) → W.frozen? ⟨B5, 0, none⟩ = false →
    Calls Tryz.prog 163 #[.pointer (some ⟨A p, 0, none⟩), .func (.func 164) #[] #[.pointer (some ⟨B3, 0, none⟩), .pointer (some ⟨B5, 0, none⟩)]] W fun e W' => e = .returned (.bool (!(seek K n p t))) ∧ Below w0.heap.size w0 W' ∧
      W'.cell? ⟨B3, 0, none⟩ = some (.int .i64 t) ∧ W'.cell? ⟨B5, 0, none⟩ = some (bptr (seek K n p t) (A t)) ∧ W'.frozen? ⟨B5, 0, none⟩ = false := by
  intro n
  induction n with
  | zero => intro p h; exact h.elim
  | succ n ih =>
    intro p hd hp W hB k3 k5 kf
    obtain ⟨a, c, hk1, hk2, hk3, hk4⟩ := hF.kid hp
    have hkl := hKl p hp
    have hkp : W.cell? ⟨A p, 16, none⟩ = some (.slice a (K p).length c) := by
      rw [← hk1]; exact (hB.cell (p := ⟨A p, 16, none⟩) (hF.node p hp).lt).trans (hF.node p hp).kids
    have HG := Lib.hid hk4
    have IH := Lib.hid ih
    have HD := Lib.hid hd
    clear ih hk4 hk1 hd
    go_enter Tryz.func163, Tryz.ntmps163
    go_wp2_with fail
    go_loopw [12] (fun i wr => ∃ k : Nat, k ≤ (K p).length ∧ i = .int .i64 k ∧ Hid (∀ j (hj : j < (K p).length), j < k → ((K p)[j] == t || seek K n (K p)[j] t) = false) ∧ Below w0.heap.size w0 wr ∧
      wr.cell? ⟨B3, 0, none⟩ = some (.int .i64 t) ∧ wr.cell? ⟨B5, 0, none⟩ = some (.pointer none) ∧ wr.frozen? ⟨B5, 0, none⟩ = false) (fun i _ => (K p).length - (intOf i).toNat)
    case atStart => exact ⟨0, Nat.zero_le _, rfl, fun j _ hj => absurd hj (Nat.not_lt_zero _), hB, k3, k5, kf⟩
    case round =>
      obtain ⟨k, hk, rfl, hno, hb, q3, q5, qf⟩ := hrel
      by_cases hlt : k < (K p).length
      · obtain ⟨g, rfl, hcell⟩ := HG.out (by omega)
        have hck := hcell k hlt
        have hgl : g < w0.heap.size := by
          obtain ⟨ob, ho, _⟩ := cells_of_cell hck
          exact (Array.getElem?_eq_some_iff.1 ho).1
        have hck2 : wr.cell? ⟨g, k, none⟩ = some (.pointer (some ⟨A (K p)[k], 0, none⟩)) := (hb.cell (p := ⟨g, k, none⟩) hgl).trans hck
        have hqD : (K p)[k] ∈ D := hF.closed p hp _ (List.getElem_mem hlt)
        have hqd : Deep K n (K p)[k] := HD.out _ (List.getElem_mem hlt)
        have HS := Lib.hid (seek_step K n p t k hlt hno.out)
        have hno2 : Hid (((K p)[k] == t || seek K n (K p)[k] t) = false → ∀ j (hj : j < (K p).length), j < k + 1 → ((K p)[j] == t || seek K n (K p)[j] t) = false) := fun h0 j hj hjk => by
          by_cases e : j = k
          · subst e; exact h0
          · exact hno.out j hj (by omega)
        have HC := Lib.hid (fun W' h1 h2 h3 h4 => IH.out (K p)[k] hqd hqD W' h1 h2 h3 h4)
        have hN := (hF.node _ hqD).of_heap (hb.block _ (hF.node _ hqD).lt)
        have H1 := Lib.hid (find1_any w0 wr (A (K p)[k]) B3 B5 (K p)[k] t _ hN q3 q5 qf hne hb g5)
        clear hck hcell hqd IH hN q3 q5 qf
        generalize (K p)[k] = q at *
        cases e1 : (q == t)
        · have H2 : Hid (Calls Tryz.prog 164 #[.pointer (some ⟨A q, 0, none⟩), .pointer (some ⟨B3, 0, none⟩), .pointer (some ⟨B5, 0, none⟩)] wr fun e W' => e = .returned (.bool true) ∧ Below w0.heap.size w0 W' ∧
              W'.cell? ⟨B3, 0, none⟩ = some (.int .i64 t) ∧ W'.cell? ⟨B5, 0, none⟩ = some (.pointer none) ∧ W'.frozen? ⟨B5, 0, none⟩ = false) := by have := H1.out; rw [e1] at this; exact this
          clear H1
          cases e2 : seek K n q t
          · have hnn : Hid (∀ j (hj : j < (K p).length), j < k + 1 → ((K p)[j] == t || seek K n (K p)[j] t) = false) := hno2.out (by rw [e1, e2]; rfl)
            have HC2 : Hid (∀ W' : World, Below w0.heap.size w0 W' → W'.cell? ⟨B3, 0, none⟩ = some (.int .i64 t) → W'.cell? ⟨B5, 0, none⟩ = some (.pointer none) → W'.frozen? ⟨B5, 0, none⟩ = false → Calls Tryz.prog 163 #[.pointer (some ⟨A q, 0, none⟩), .func (.func 164) #[] #[.pointer (some ⟨B3, 0, none⟩), .pointer (some ⟨B5, 0, none⟩)]] W' fun e W' => e = .returned (.bool true) ∧ Below w0.heap.size w0 W' ∧
              W'.cell? ⟨B3, 0, none⟩ = some (.int .i64 t) ∧ W'.cell? ⟨B5, 0, none⟩ = some (.pointer none) ∧ W'.frozen? ⟨B5, 0, none⟩ = false) := fun W' h1 h2 h3 h4 => by have := HC.out W' h1 h2 h3 h4; rw [e2] at this; exact this
            clear HC hno2 HS
            go_wp2_with (first | (go_at_call 164; refine H2.out.mono ?_; rintro e w2 ⟨rfl, hb2, r3, r5, rf⟩; have HB2 := Lib.hid hb2; clear hb2) | (go_at_call 163; refine (HC2.out _ HB2.out r3 r5 rf).mono ?_; rintro e w3 ⟨rfl, hb3, s3, s5, sf⟩; have HB3 := Lib.hid hb3; clear hb3))
            go_roundw
            case rel => exact ⟨k + 1, by omega, by go_num, hnn, HB3.out, s3, s5, sf⟩
            case measure => simp [intOf]; omega
          · have hyes : Hid (seek K (n + 1) p t = true) := HS.out (by rw [e1, e2]; rfl)
            have HC2 : Hid (∀ W' : World, Below w0.heap.size w0 W' → W'.cell? ⟨B3, 0, none⟩ = some (.int .i64 t) → W'.cell? ⟨B5, 0, none⟩ = some (.pointer none) → W'.frozen? ⟨B5, 0, none⟩ = false → Calls Tryz.prog 163 #[.pointer (some ⟨A q, 0, none⟩), .func (.func 164) #[] #[.pointer (some ⟨B3, 0, none⟩), .pointer (some ⟨B5, 0, none⟩)]] W' fun e W' => e = .returned (.bool false) ∧ Below w0.heap.size w0 W' ∧
              W'.cell? ⟨B3, 0, none⟩ = some (.int .i64 t) ∧ W'.cell? ⟨B5, 0, none⟩ = some (ptr (A t)) ∧ W'.frozen? ⟨B5, 0, none⟩ = false) := fun W' h1 h2 h3 h4 => by have := HC.out W' h1 h2 h3 h4; rw [e2] at this; exact this
            clear HC hno2 HS
            go_wp2_with (first | (go_at_call 164; refine H2.out.mono ?_; rintro e w2 ⟨rfl, hb2, r3, r5, rf⟩; have HB2 := Lib.hid hb2; clear hb2) | (go_at_call 163; refine (HC2.out _ HB2.out r3 r5 rf).mono ?_; rintro e w3 ⟨rfl, hb3, s3, s5, sf⟩; have HB3 := Lib.hid hb3; clear hb3))
            go_ret
            exact ⟨by rw [hyes.out]; rfl, HB3.out, s3, by rw [hyes.out]; exact s5, sf⟩
        · have hqt : q = t := by simpa using e1
          have hyes : Hid (seek K (n + 1) p t = true) := HS.out (by rw [e1]; rfl)
          have H2 : Hid (Calls Tryz.prog 164 #[.pointer (some ⟨A q, 0, none⟩), .pointer (some ⟨B3, 0, none⟩), .pointer (some ⟨B5, 0, none⟩)] wr fun e W' => e = .returned (.bool false) ∧ Below w0.heap.size w0 W' ∧
              W'.cell? ⟨B3, 0, none⟩ = some (.int .i64 t) ∧ W'.cell? ⟨B5, 0, none⟩ = some (ptr (A t)) ∧ W'.frozen? ⟨B5, 0, none⟩ = false) := by have := H1.out; rw [e1, hqt] at this; rw [hqt]; exact this
          clear H1 HC hno2 HS hqt
          go_wp2_with (go_at_call 164; refine H2.out.mono ?_; rintro e w2 ⟨rfl, hb2, r3, r5, rf⟩; have HB2 := Lib.hid hb2; clear hb2)
          go_ret
          exact ⟨by rw [hyes.out]; rfl, HB2.out, r3, by rw [hyes.out]; exact r5, rf⟩
      · obtain rfl : k = (K p).length := by omega
        have hyes : Hid (seek K (n + 1) p t = false) := seek_none K n p t (fun j hj => hno.out j hj hj)
        clear IH
        go_wp2_with fail
        go_ret
        exact ⟨by rw [hyes.out]; rfl, hb, q3, by rw [hyes.out]; exact q5, qf⟩

set_option maxRecDepth 100000 in
set_option maxHeartbeats 4000000 in
theorem find_any (w : World) (base : Nat) (K : Int → List Int) (A : Int → Nat) (S : Int → Nd) (D : List Int) (t : Int) (hF : Forest w base K A S D) (hKl : ∀ p ∈ D, (K p).length ≤ 1000) (n : Nat) (p : Int) (hd : Deep K n p) (hp : p ∈ D) :
    Calls Tryz.prog 102 #[.pointer (some ⟨A p, 0, none⟩), .int .i64 t] w fun e w' => e = .returned (bptr (seek K n p t) (A t)) ∧ Below w.heap.size w w' := by
  have hmf : ∀ (fn : Fn) (first cap : Array Value) (w : World), (Instr.makeFunc fn first cap).run Tryz.prog w = .ok (.func fn first cap) w := fun _ _ _ _ => rfl
  have hB0 : Below w.heap.size w ((w.alloc (.cells #[.int .i64 t] 3)).alloc (.cells #[.pointer none] 101)) := ((Below.refl _ w).alloc (Nat.le_refl _) _).alloc (by simp) _
  have HE := Lib.hid (every_any w base K A S D w.heap.size (w.heap.size + 1) t hF (by omega) (by omega) hKl n p hd hp _ hB0 (by go_simp) (by go_simp) (by go_simp))
  have HR : Hid (∀ q : Bool, ∃ o, bptr q (A t) = .pointer o) := fun q => by cases q <;> exact ⟨_, rfl⟩
  generalize seek K n p t = q at *
  clear hF
  go_enter Tryz.func102, Tryz.ntmps102
  go_wp2_with fail
  refine HE.out.mono ?_
  rintro e w1 ⟨rfl, hb1, h3, h5, _⟩
  obtain ⟨o, ho⟩ := HR.out q
  have HO := Lib.hid ho
  rw [ho] at h5
  go_wp2_with fail
  go_ret
  exact ⟨by rw [HO.out]; rfl, hb1⟩

end Go.Proofs.YtpffpofdceppiaaGreatDoor
