/- A part of the proof that laganlaw01.CargoTexts answers true at every input and leaves its arguments as they were; the conditions are those of the given row and card, nothing else. -/
import Derived.Test.YtpffpofdceppiaaGreatDoorKM4
import Derived.Laws.ResultCell
set_option linter.unusedSimpArgs false
set_option linter.unusedVariables false
namespace Go.Proofs.YtpffpofdceppiaaGreatDoor
open Go.RowKit Go.Shelf

theorem of1_pred (n : Int) (B : Nat) (w : World) (hB : B < w.heap.size) (hc : w.cell? ⟨B, 0, none⟩ = some (.int .i64 n)) :
    PredB 180 #[.pointer (some ⟨B, 0, none⟩)] (fun y => y.pack == n) w := fun W y hb => by
  have c0 : W.cell? ⟨B, 0, none⟩ = some (.int .i64 n) := (hb.cell (p := ⟨B, 0, none⟩) hB).trans hc
  have hBW : B < W.heap.size := Nat.lt_of_lt_of_le hB hb.size
  have hne : B ≠ W.heap.size := by omega
  show Calls Tryz.prog 180 #[.agg #[.int .i64 y.id, .int .i64 y.known, .int .u8 y.kind, .int .i64 y.loss, .int .i64 y.pack, .int .i64 y.inn, .string y.mark, .string y.goods, .int .i64 y.lo, .int .i64 y.hi, .int .i64 y.pieces, .int .i64 y.owner, .int .i64 y.count, .int .i64 y.of], .pointer (some ⟨B, 0, none⟩)] W _
  clear hc hb
  go_enter Tryz.func180, Tryz.ntmps180
  go_wp2
  go_ret
  exact ⟨rfl, (Below.refl _ _).alloc (Nat.le_refl _) _⟩

theorem hav_find {α : Type} (p : α → Bool) (l : List α) : (hav p l = -1 ∧ l.find? p = none) ∨ ∃ (k : Nat) (h : k < l.length), hav p l = k ∧ l.find? p = some l[k] := by
  induction l with
  | nil => exact .inl ⟨rfl, rfl⟩
  | cons x l ih =>
    cases hp : p x with
    | true => exact .inr ⟨0, by simp, by simp [hav, hp], by simp [List.find?_cons, hp]⟩
    | false =>
      rcases ih with ⟨h1, h2⟩ | ⟨k, hk, h1, h2⟩
      · exact .inl ⟨by simp [hav, hp, h1], by rw [List.find?_cons, hp]; exact h2⟩
      · refine .inr ⟨k + 1, by simpa using hk, ?_, by rw [List.find?_cons, hp, List.getElem_cons_succ]; exact h2⟩
        simp only [hav, hp, h1, Bool.false_eq_true, if_false]
        rw [if_neg (by omega)]; push_cast; rfl


/-- A block holds a paper. -/
def PaperIn (w : World) (b : Nat) (x : Paper) : Prop := w.cell? ⟨b, 0, none⟩ = some (.int .i64 x.id) ∧ w.cell? ⟨b, 1, none⟩ = some (.int .i64 x.known) ∧ w.cell? ⟨b, 2, none⟩ = some (.int .u8 x.kind) ∧ w.cell? ⟨b, 3, none⟩ = some (.int .i64 x.loss) ∧ w.cell? ⟨b, 4, none⟩ = some (.int .i64 x.pack) ∧ w.cell? ⟨b, 5, none⟩ = some (.int .i64 x.inn) ∧ w.cell? ⟨b, 6, none⟩ = some (.string x.mark) ∧ w.cell? ⟨b, 7, none⟩ = some (.string x.goods) ∧ w.cell? ⟨b, 8, none⟩ = some (.int .i64 x.lo) ∧ w.cell? ⟨b, 9, none⟩ = some (.int .i64 x.hi) ∧ w.cell? ⟨b, 10, none⟩ = some (.int .i64 x.pieces) ∧ w.cell? ⟨b, 11, none⟩ = some (.int .i64 x.owner) ∧ w.cell? ⟨b, 12, none⟩ = some (.int .i64 x.count) ∧ w.cell? ⟨b, 13, none⟩ = some (.int .i64 x.of)

theorem loadVar_paper (w : World) (b : Nat) (x : Paper) (h : PaperIn w b x) : (loadVar 28 ⟨b, 0, none⟩).run Tryz.prog w = .ok (.agg #[.int .i64 x.id, .int .i64 x.known, .int .u8 x.kind, .int .i64 x.loss, .int .i64 x.pack, .int .i64 x.inn, .string x.mark, .string x.goods, .int .i64 x.lo, .int .i64 x.hi, .int .i64 x.pieces, .int .i64 x.owner, .int .i64 x.count, .int .i64 x.of]) w := by
  obtain ⟨c0, c1, c2, c3, c4, c5, c6, c7, c8, c9, c10, c11, c12, c13⟩ := h
  go_simp

theorem results_paper {fn : Func} {p u : Tmp} (h : fn.results = #[.cell p 28, .tmp u]) (tmps : Array Value) (w : World) (b : Nat) (x : Paper) (hp : tmps.getD p undef = .pointer (some ⟨b, 0, none⟩)) (hc : PaperIn w b x) :
    (results fn tmps).run Tryz.prog w = .ok (.tuple #[.agg x.vals.toArray, tmps.getD u undef]) w := by
  rw [results_cell_tmp h, hp]
  have := loadVar_paper w b x hc
  simp only [asAddr, Sem.run_pure, Result.andThen_ok, this]
  rfl

/-- The paper of a package in a list. -/
def ofP (l : List Paper) (pack : Int) : Option Paper := l.find? (fun y => y.pack == pack)
def ofV (l : List Paper) (pack : Int) : Paper := (ofP l pack).getD Paper.zero


/-- Cells of a block written one behind the other. -/
def setAll (w : World) (b : Nat) : Nat → List Value → World
  | _, [] => w
  | k, v :: vs => setAll (w.setCell ⟨b, k, none⟩ v) b (k + 1) vs

theorem setAll_heap (b : Nat) (vs : List Value) : ∀ (k : Nat) (w : World) (c : Nat), c ≠ b → (setAll w b k vs).heap[c]? = w.heap[c]? := by
  induction vs with
  | nil => intro k w c _; rfl
  | cons v vs ih => intro k w c hc; exact (ih _ _ _ hc).trans (Below.heap_setCell _ _ _ _ hc)

theorem setAll_below {B : Nat} {w0 : World} (b : Nat) (hb : B ≤ b) (vs : List Value) : ∀ (k : Nat) (w : World), Below B w0 w → Below B w0 (setAll w b k vs) := by
  induction vs with
  | nil => intro k w h; exact h
  | cons v vs ih => intro k w h; exact ih _ _ (h.setCell (p := ⟨b, k, none⟩) hb v)

theorem setAll_early (b : Nat) (vs : List Value) : ∀ (k : Nat) (w : World) (i : Nat), i < k → (setAll w b k vs).cell? ⟨b, i, none⟩ = w.cell? ⟨b, i, none⟩ := by
  induction vs with
  | nil => intro k w i _; rfl
  | cons v vs ih =>
    intro k w i hi
    refine (ih _ _ _ (by omega)).trans (World.cell?_setCell_other _ _ _ _ ?_)
    intro e; cases e; omega

theorem setAll_cell (b : Nat) (vs : List Value) : ∀ (k : Nat) (w : World), (∀ i, i < vs.length → (w.cell? ⟨b, k + i, none⟩).isSome) → ∀ i u, vs[i]? = some u → (setAll w b k vs).cell? ⟨b, k + i, none⟩ = some u := by
  induction vs with
  | nil => intro k w _ i u hu; cases hu
  | cons v vs ih =>
    intro k w h i u hu
    cases i with
    | zero =>
      simp only [List.getElem?_cons_zero, Option.some.injEq] at hu
      subst hu
      rw [Nat.add_zero]
      exact (setAll_early b vs (k + 1) _ k (by omega)).trans (World.cell?_setCell_same' _ _ _ (h 0 (by simp)))
    | succ i =>
      have := ih (k + 1) (w.setCell ⟨b, k, none⟩ v) (fun j hj => by
        rw [World.cell?_setCell_other _ _ _ _ (by intro e; have := congrArg Addr.off e; simp at this; omega)]
        have := h (j + 1) (by simpa using hj)
        rwa [show k + (j + 1) = k + 1 + j by omega] at this) i u (by simpa using hu)
      rwa [show k + (i + 1) = k + 1 + i by omega]

theorem set14 (w : World) (b : Nat) (x y : Paper) (h : PaperIn w b y) : PaperIn ((((((((((((((w.setCell ⟨b, 0, none⟩ (.int .i64 x.id)).setCell ⟨b, 1, none⟩ (.int .i64 x.known)).setCell ⟨b, 2, none⟩ (.int .u8 x.kind)).setCell ⟨b, 3, none⟩ (.int .i64 x.loss)).setCell ⟨b, 4, none⟩ (.int .i64 x.pack)).setCell ⟨b, 5, none⟩ (.int .i64 x.inn)).setCell ⟨b, 6, none⟩ (.string x.mark)).setCell ⟨b, 7, none⟩ (.string x.goods)).setCell ⟨b, 8, none⟩ (.int .i64 x.lo)).setCell ⟨b, 9, none⟩ (.int .i64 x.hi)).setCell ⟨b, 10, none⟩ (.int .i64 x.pieces)).setCell ⟨b, 11, none⟩ (.int .i64 x.owner)).setCell ⟨b, 12, none⟩ (.int .i64 x.count)).setCell ⟨b, 13, none⟩ (.int .i64 x.of)) b x := by
  obtain ⟨c0, c1, c2, c3, c4, c5, c6, c7, c8, c9, c10, c11, c12, c13⟩ := h
  have h : ∀ i, i < 14 → (w.cell? ⟨b, 0 + i, none⟩).isSome := by
    intro i hi
    rw [Nat.zero_add]
    match i, hi with
    | 0, _ => rw [c0]; rfl
    | 1, _ => rw [c1]; rfl
    | 2, _ => rw [c2]; rfl
    | 3, _ => rw [c3]; rfl
    | 4, _ => rw [c4]; rfl
    | 5, _ => rw [c5]; rfl
    | 6, _ => rw [c6]; rfl
    | 7, _ => rw [c7]; rfl
    | 8, _ => rw [c8]; rfl
    | 9, _ => rw [c9]; rfl
    | 10, _ => rw [c10]; rfl
    | 11, _ => rw [c11]; rfl
    | 12, _ => rw [c12]; rfl
    | 13, _ => rw [c13]; rfl
  have := setAll_cell b x.vals 0 w h
  have q : ∀ i u, x.vals[i]? = some u → (setAll w b 0 x.vals).cell? ⟨b, i, none⟩ = some u := fun i u hu => by
    have := this i u hu
    rwa [Nat.zero_add] at this
  exact ⟨q 0 _ rfl, q 1 _ rfl, q 2 _ rfl, q 3 _ rfl, q 4 _ rfl, q 5 _ rfl, q 6 _ rfl, q 7 _ rfl, q 8 _ rfl, q 9 _ rfl, q 10 _ rfl, q 11 _ rfl, q 12 _ rfl, q 13 _ rfl⟩

theorem set14_below {B : Nat} {w0 w : World} (b : Nat) (hb : B ≤ b) (x : Paper) (h : Below B w0 w) : Below B w0 ((((((((((((((w.setCell ⟨b, 0, none⟩ (.int .i64 x.id)).setCell ⟨b, 1, none⟩ (.int .i64 x.known)).setCell ⟨b, 2, none⟩ (.int .u8 x.kind)).setCell ⟨b, 3, none⟩ (.int .i64 x.loss)).setCell ⟨b, 4, none⟩ (.int .i64 x.pack)).setCell ⟨b, 5, none⟩ (.int .i64 x.inn)).setCell ⟨b, 6, none⟩ (.string x.mark)).setCell ⟨b, 7, none⟩ (.string x.goods)).setCell ⟨b, 8, none⟩ (.int .i64 x.lo)).setCell ⟨b, 9, none⟩ (.int .i64 x.hi)).setCell ⟨b, 10, none⟩ (.int .i64 x.pieces)).setCell ⟨b, 11, none⟩ (.int .i64 x.owner)).setCell ⟨b, 12, none⟩ (.int .i64 x.count)).setCell ⟨b, 13, none⟩ (.int .i64 x.of)) := setAll_below b hb x.vals 0 w h
theorem set14_heap (w : World) (b : Nat) (x : Paper) (c : Nat) (hc : c ≠ b) : ((((((((((((((w.setCell ⟨b, 0, none⟩ (.int .i64 x.id)).setCell ⟨b, 1, none⟩ (.int .i64 x.known)).setCell ⟨b, 2, none⟩ (.int .u8 x.kind)).setCell ⟨b, 3, none⟩ (.int .i64 x.loss)).setCell ⟨b, 4, none⟩ (.int .i64 x.pack)).setCell ⟨b, 5, none⟩ (.int .i64 x.inn)).setCell ⟨b, 6, none⟩ (.string x.mark)).setCell ⟨b, 7, none⟩ (.string x.goods)).setCell ⟨b, 8, none⟩ (.int .i64 x.lo)).setCell ⟨b, 9, none⟩ (.int .i64 x.hi)).setCell ⟨b, 10, none⟩ (.int .i64 x.pieces)).setCell ⟨b, 11, none⟩ (.int .i64 x.owner)).setCell ⟨b, 12, none⟩ (.int .i64 x.count)).setCell ⟨b, 13, none⟩ (.int .i64 x.of)).heap[c]? = w.heap[c]? := setAll_heap b x.vals 0 w c hc

set_option maxRecDepth 100000 in
set_option maxHeartbeats 4000000 in
theorem of_any (v : Value) (l : List Paper) (pack : Int) (w : World) (hv : PapersAt w v l) (hn : l.length ≤ 1000) :
    Calls Tryz.prog 131 #[v, .int .i64 pack] w fun e w' => e = .returned (.tuple #[.agg (ofV l pack).vals.toArray, .bool (ofP l pack).isSome]) ∧ Below w.heap.size w w' := by
  have hv0 := hv
  obtain ⟨a, c, rfl, h1, h2, h3⟩ := hv
  have HHv := Lib.hid (fun W (h : Below w.heap.size w W) lb hp => having_any _ l (fun y => y.pack == pack) 180 lb W (hv0.below h) hn (enters_of Tryz.func180 (by kernel_rfl) rfl) hp)
  have hf := hav_find (fun y : Paper => y.pack == pack) l
  generalize hav (fun y : Paper => y.pack == pack) l = q at *
  have hP : Hid (ofP l pack = l.find? (fun y => y.pack == pack)) := by show _ = _; rfl
  have hV : Hid (ofV l pack = (ofP l pack).getD Paper.zero) := by show _ = _; rfl
  have hB0 : Below w.heap.size w ((w.alloc (.cells #[.int .i64 pack] 3)).alloc (.cells #[.int .i64 0, .int .i64 0, .int .u8 0, .int .i64 0, .int .i64 0, .int .i64 0, .string ⟨#[]⟩, .string ⟨#[]⟩, .int .i64 0, .int .i64 0, .int .i64 0, .int .i64 0, .int .i64 0, .int .i64 0] 28)) := ((Below.refl _ w).alloc (Nat.le_refl _) _).alloc (by simp) _
  have hl0 : ((w.alloc (.cells #[.int .i64 pack] 3)).alloc (.cells #[.int .i64 0, .int .i64 0, .int .u8 0, .int .i64 0, .int .i64 0, .int .i64 0, .string ⟨#[]⟩, .string ⟨#[]⟩, .int .i64 0, .int .i64 0, .int .i64 0, .int .i64 0, .int .i64 0, .int .i64 0] 28)).cell? ⟨w.heap.size, 0, none⟩ = some (.int .i64 pack) := by go_simp
  have hs0 : ((w.alloc (.cells #[.int .i64 pack] 3)).alloc (.cells #[.int .i64 0, .int .i64 0, .int .u8 0, .int .i64 0, .int .i64 0, .int .i64 0, .string ⟨#[]⟩, .string ⟨#[]⟩, .int .i64 0, .int .i64 0, .int .i64 0, .int .i64 0, .int .i64 0, .int .i64 0] 28)).heap.size = w.heap.size + 1 + 1 := by simp
  have hz : ∀ i u, Paper.zero.vals[i]? = some u → ((w.alloc (.cells #[.int .i64 pack] 3)).alloc (.cells #[.int .i64 0, .int .i64 0, .int .u8 0, .int .i64 0, .int .i64 0, .int .i64 0, .string ⟨#[]⟩, .string ⟨#[]⟩, .int .i64 0, .int .i64 0, .int .i64 0, .int .i64 0, .int .i64 0, .int .i64 0] 28)).cell? ⟨w.heap.size + 1, i, none⟩ = some u := fun i u hu => by
    have e : w.heap.size + 1 = (w.alloc (.cells #[.int .i64 pack] 3)).heap.size := by simp
    rw [e, World.cell?_alloc_new, ← hu]; simp [Paper.vals, Paper.zero]
  have hzf : ∀ i, ((w.alloc (.cells #[.int .i64 pack] 3)).alloc (.cells #[.int .i64 0, .int .i64 0, .int .u8 0, .int .i64 0, .int .i64 0, .int .i64 0, .string ⟨#[]⟩, .string ⟨#[]⟩, .int .i64 0, .int .i64 0, .int .i64 0, .int .i64 0, .int .i64 0, .int .i64 0] 28)).frozen? ⟨w.heap.size + 1, i, none⟩ = false := fun i => by go_simp
  clear hv0
  go_enter Tryz.func131, Tryz.ntmps131
  go_wp2_with fail
  generalize ((w.alloc (.cells #[.int .i64 pack] 3)).alloc (.cells #[.int .i64 0, .int .i64 0, .int .u8 0, .int .i64 0, .int .i64 0, .int .i64 0, .string ⟨#[]⟩, .string ⟨#[]⟩, .int .i64 0, .int .i64 0, .int .i64 0, .int .i64 0, .int .i64 0, .int .i64 0] 28)) = W0 at *
  have hz' : ∀ i u, Paper.zero.vals[i]? = some u → W0.cell? ⟨w.heap.size + 1, 0 + i, none⟩ = some u := fun i u hu => by rw [Nat.zero_add]; exact hz i u hu
  refine (HHv.out _ hB0 _ (of1_pred pack w.heap.size W0 (by omega) hl0)).mono ?_
  rintro e w1 ⟨rfl, hb1⟩
  have hB1 := hB0.trans (hb1.mono hB0.size)
  have hs1 := hb1.size
  obtain ⟨c0, c1, c2, c3, c4, c5, c6, c7, c8, c9, c10, c11, c12, c13⟩ := paper_cells (w := w1) (b := w.heap.size + 1) (o := 0) Paper.zero (fun i u hu => (hb1.cell (p := ⟨w.heap.size + 1, 0 + i, none⟩) (by simp; omega)).trans (hz' i u hu))
  have PZ := Lib.hid (show PaperIn w1 (w.heap.size + 1) Paper.zero from ⟨c0, c1, c2, c3, c4, c5, c6, c7, c8, c9, c10, c11, c12, c13⟩)
  simp only [Nat.zero_add, Paper.zero] at c0 c1 c2 c3 c4 c5 c6 c7 c8 c9 c10 c11 c12 c13
  have z0 : ∀ i, w1.frozen? ⟨w.heap.size + 1, i, none⟩ = false := fun i => (hb1.frozen (p := ⟨w.heap.size + 1, i, none⟩) (by simp; omega)).trans (hzf i)
  clear hb1 hz hz' hzf hl0 HHv hB0
  rcases hf with ⟨rfl, hfn⟩ | ⟨k, hk, rfl, hfs⟩
  · have hE : Hid (ofV l pack = Paper.zero ∧ (ofP l pack).isSome = false) := by show _ ∧ _; rw [hV.out, hP.out, hfn]; exact ⟨rfl, rfl⟩
    clear hV hP hfn
    go_wp2_with fail
    refine bodyPost_ret (results_paper rfl _ _ (w.heap.size + 1) Paper.zero rfl (set14 w1 _ Paper.zero Paper.zero PZ.out)) rfl ?_
    exact ⟨by rw [hE.out.1, hE.out.2]; rfl, set14_below _ (by omega) Paper.zero hB1⟩
  · obtain ⟨b, off, rfl, hbs, hcell⟩ := h3 (by omega)
    have hE : Hid (ofV l pack = l[k] ∧ (ofP l pack).isSome = true) := by show _ ∧ _; rw [hV.out, hP.out, hfs]; exact ⟨rfl, rfl⟩
    have hxc := fun i u hu => (hB1.cell (p := ⟨b, off + k * 14 + i, none⟩) hbs).trans (hcell k hk i u hu)
    clear hV hP hfs hcell h3
    generalize l[k] = x at *
    obtain ⟨d0, d1, d2, d3, d4, d5, d6, d7, d8, d9, d10, d11, d12, d13⟩ := paper_cells (w := w1) (b := b) (o := off + k * 14) x hxc
    clear hxc
    go_wp2_with fail
    refine bodyPost_ret (results_paper rfl _ _ (w.heap.size + 1) x rfl (set14 w1 _ x Paper.zero PZ.out)) rfl ?_
    exact ⟨by rw [hE.out.1, hE.out.2]; rfl, set14_below _ (by omega) x hB1⟩

end Go.Proofs.YtpffpofdceppiaaGreatDoor

set_option linter.unusedSimpArgs false
set_option linter.unusedVariables false
namespace Go.Proofs.YtpffpofdceppiaaGreatDoor
open Go.RowKit Go.Shelf

set_option maxRecDepth 100000 in
set_option maxHeartbeats 4000000 in
theorem paper_any (vp vt : Value) (ps ts : List Paper) (pack : Int) (w : World) (hp : PapersAt w vp ps) (ht : PapersAt w vt ts) (hn : ps.length ≤ 1000) :
    Calls Tryz.prog 96 #[.agg #[vp, vt], .int .i64 pack] w fun e w' => e = .returned (.tuple #[.agg (ofV ps pack).vals.toArray, .bool (ofP ps pack).isSome]) ∧ Below w.heap.size w w' := by
  have HO := Lib.hid (fun W (h : Below w.heap.size w W) => of_any _ ps pack W (hp.below h) hn)
  obtain ⟨a1, c1, rfl, _⟩ := hp
  obtain ⟨a2, c2, rfl, _⟩ := ht
  generalize ofV ps pack = x at *
  generalize (ofP ps pack).isSome = q at *
  have HO : Hid (∀ W, Below w.heap.size w W → Calls Tryz.prog 131 #[.slice a1 ps.length c1, .int .i64 pack] W fun e w' => e = .returned (.tuple #[.agg #[.int .i64 x.id, .int .i64 x.known, .int .u8 x.kind, .int .i64 x.loss, .int .i64 x.pack, .int .i64 x.inn, .string x.mark, .string x.goods, .int .i64 x.lo, .int .i64 x.hi, .int .i64 x.pieces, .int .i64 x.owner, .int .i64 x.count, .int .i64 x.of], .bool q]) ∧ Below W.heap.size W w') := HO
  have hB0 : Below w.heap.size w ((w.alloc (.cells #[.slice a1 ps.length c1, .slice a2 ts.length c2] 100)).alloc (.cells #[.int .i64 0, .int .i64 0, .int .u8 0, .int .i64 0, .int .i64 0, .int .i64 0, .string ⟨#[]⟩, .string ⟨#[]⟩, .int .i64 0, .int .i64 0, .int .i64 0, .int .i64 0, .int .i64 0, .int .i64 0] 28)) := ((Below.refl _ w).alloc (Nat.le_refl _) _).alloc (by simp) _
  have hs0 : ((w.alloc (.cells #[.slice a1 ps.length c1, .slice a2 ts.length c2] 100)).alloc (.cells #[.int .i64 0, .int .i64 0, .int .u8 0, .int .i64 0, .int .i64 0, .int .i64 0, .string ⟨#[]⟩, .string ⟨#[]⟩, .int .i64 0, .int .i64 0, .int .i64 0, .int .i64 0, .int .i64 0, .int .i64 0] 28)).heap.size = w.heap.size + 1 + 1 := by simp
  have hl0 : ((w.alloc (.cells #[.slice a1 ps.length c1, .slice a2 ts.length c2] 100)).alloc (.cells #[.int .i64 0, .int .i64 0, .int .u8 0, .int .i64 0, .int .i64 0, .int .i64 0, .string ⟨#[]⟩, .string ⟨#[]⟩, .int .i64 0, .int .i64 0, .int .i64 0, .int .i64 0, .int .i64 0, .int .i64 0] 28)).cell? ⟨w.heap.size, 0, none⟩ = some (.slice a1 ps.length c1) := by go_simp
  have hz : ∀ i u, Paper.zero.vals[i]? = some u → ((w.alloc (.cells #[.slice a1 ps.length c1, .slice a2 ts.length c2] 100)).alloc (.cells #[.int .i64 0, .int .i64 0, .int .u8 0, .int .i64 0, .int .i64 0, .int .i64 0, .string ⟨#[]⟩, .string ⟨#[]⟩, .int .i64 0, .int .i64 0, .int .i64 0, .int .i64 0, .int .i64 0, .int .i64 0] 28)).cell? ⟨w.heap.size + 1, i, none⟩ = some u := fun i u hu => by
    have e : w.heap.size + 1 = (w.alloc (.cells #[.slice a1 ps.length c1, .slice a2 ts.length c2] 100)).heap.size := by simp
    rw [e, World.cell?_alloc_new, ← hu]; simp [Paper.vals, Paper.zero]
  have hzf : ∀ i, ((w.alloc (.cells #[.slice a1 ps.length c1, .slice a2 ts.length c2] 100)).alloc (.cells #[.int .i64 0, .int .i64 0, .int .u8 0, .int .i64 0, .int .i64 0, .int .i64 0, .string ⟨#[]⟩, .string ⟨#[]⟩, .int .i64 0, .int .i64 0, .int .i64 0, .int .i64 0, .int .i64 0, .int .i64 0] 28)).frozen? ⟨w.heap.size + 1, i, none⟩ = false := fun i => by go_simp
  go_enter Tryz.func96, Tryz.ntmps96
  go_wp2_with fail
  generalize ((w.alloc (.cells #[.slice a1 ps.length c1, .slice a2 ts.length c2] 100)).alloc (.cells #[.int .i64 0, .int .i64 0, .int .u8 0, .int .i64 0, .int .i64 0, .int .i64 0, .string ⟨#[]⟩, .string ⟨#[]⟩, .int .i64 0, .int .i64 0, .int .i64 0, .int .i64 0, .int .i64 0, .int .i64 0] 28)) = W0 at *
  have hz' : ∀ i u, Paper.zero.vals[i]? = some u → W0.cell? ⟨w.heap.size + 1, 0 + i, none⟩ = some u := fun i u hu => by rw [Nat.zero_add]; exact hz i u hu
  refine (HO.out _ hB0).mono ?_
  rintro e w1 ⟨rfl, hb1⟩
  have hB1 := hB0.trans (hb1.mono hB0.size)
  have hs1 := hb1.size
  obtain ⟨c0, c1, c2, c3, c4, c5, c6, c7, c8, c9, c10, c11, c12, c13⟩ := paper_cells (w := w1) (b := w.heap.size + 1) (o := 0) Paper.zero (fun i u hu => (hb1.cell (p := ⟨w.heap.size + 1, 0 + i, none⟩) (by simp; omega)).trans (hz' i u hu))
  have PZ := Lib.hid (show PaperIn w1 (w.heap.size + 1) Paper.zero from ⟨c0, c1, c2, c3, c4, c5, c6, c7, c8, c9, c10, c11, c12, c13⟩)
  simp only [Nat.zero_add, Paper.zero] at c0 c1 c2 c3 c4 c5 c6 c7 c8 c9 c10 c11 c12 c13
  have z0 : ∀ i, w1.frozen? ⟨w.heap.size + 1, i, none⟩ = false := fun i => (hb1.frozen (p := ⟨w.heap.size + 1, i, none⟩) (by simp; omega)).trans (hzf i)
  clear hb1 hz hz' hzf hl0 HO hB0
  go_wp2_with fail
  refine bodyPost_ret (results_paper rfl _ _ (w.heap.size + 1) x rfl (set14 w1 _ x Paper.zero PZ.out)) rfl ?_
  exact ⟨rfl, set14_below _ (by omega) x hB1⟩

set_option maxRecDepth 100000 in
set_option maxHeartbeats 4000000 in
theorem total_any (vp vt : Value) (ps ts : List Paper) (pack : Int) (w : World) (hp : PapersAt w vp ps) (ht : PapersAt w vt ts) (hn : ts.length ≤ 1000) :
    Calls Tryz.prog 108 #[.agg #[vp, vt], .int .i64 pack] w fun e w' => e = .returned (.tuple #[.agg (ofV ts pack).vals.toArray, .bool (ofP ts pack).isSome]) ∧ Below w.heap.size w w' := by
  have HO := Lib.hid (fun W (h : Below w.heap.size w W) => of_any _ ts pack W (ht.below h) hn)
  obtain ⟨a1, c1, rfl, _⟩ := hp
  obtain ⟨a2, c2, rfl, _⟩ := ht
  generalize ofV ts pack = x at *
  generalize (ofP ts pack).isSome = q at *
  have HO : Hid (∀ W, Below w.heap.size w W → Calls Tryz.prog 131 #[.slice a2 ts.length c2, .int .i64 pack] W fun e w' => e = .returned (.tuple #[.agg #[.int .i64 x.id, .int .i64 x.known, .int .u8 x.kind, .int .i64 x.loss, .int .i64 x.pack, .int .i64 x.inn, .string x.mark, .string x.goods, .int .i64 x.lo, .int .i64 x.hi, .int .i64 x.pieces, .int .i64 x.owner, .int .i64 x.count, .int .i64 x.of], .bool q]) ∧ Below W.heap.size W w') := HO
  have hB0 : Below w.heap.size w ((w.alloc (.cells #[.slice a1 ps.length c1, .slice a2 ts.length c2] 100)).alloc (.cells #[.int .i64 0, .int .i64 0, .int .u8 0, .int .i64 0, .int .i64 0, .int .i64 0, .string ⟨#[]⟩, .string ⟨#[]⟩, .int .i64 0, .int .i64 0, .int .i64 0, .int .i64 0, .int .i64 0, .int .i64 0] 28)) := ((Below.refl _ w).alloc (Nat.le_refl _) _).alloc (by simp) _
  have hs0 : ((w.alloc (.cells #[.slice a1 ps.length c1, .slice a2 ts.length c2] 100)).alloc (.cells #[.int .i64 0, .int .i64 0, .int .u8 0, .int .i64 0, .int .i64 0, .int .i64 0, .string ⟨#[]⟩, .string ⟨#[]⟩, .int .i64 0, .int .i64 0, .int .i64 0, .int .i64 0, .int .i64 0, .int .i64 0] 28)).heap.size = w.heap.size + 1 + 1 := by simp
  have hl0 : ((w.alloc (.cells #[.slice a1 ps.length c1, .slice a2 ts.length c2] 100)).alloc (.cells #[.int .i64 0, .int .i64 0, .int .u8 0, .int .i64 0, .int .i64 0, .int .i64 0, .string ⟨#[]⟩, .string ⟨#[]⟩, .int .i64 0, .int .i64 0, .int .i64 0, .int .i64 0, .int .i64 0, .int .i64 0] 28)).cell? ⟨w.heap.size, 1, none⟩ = some (.slice a2 ts.length c2) := by go_simp
  have hz : ∀ i u, Paper.zero.vals[i]? = some u → ((w.alloc (.cells #[.slice a1 ps.length c1, .slice a2 ts.length c2] 100)).alloc (.cells #[.int .i64 0, .int .i64 0, .int .u8 0, .int .i64 0, .int .i64 0, .int .i64 0, .string ⟨#[]⟩, .string ⟨#[]⟩, .int .i64 0, .int .i64 0, .int .i64 0, .int .i64 0, .int .i64 0, .int .i64 0] 28)).cell? ⟨w.heap.size + 1, i, none⟩ = some u := fun i u hu => by
    have e : w.heap.size + 1 = (w.alloc (.cells #[.slice a1 ps.length c1, .slice a2 ts.length c2] 100)).heap.size := by simp
    rw [e, World.cell?_alloc_new, ← hu]; simp [Paper.vals, Paper.zero]
  have hzf : ∀ i, ((w.alloc (.cells #[.slice a1 ps.length c1, .slice a2 ts.length c2] 100)).alloc (.cells #[.int .i64 0, .int .i64 0, .int .u8 0, .int .i64 0, .int .i64 0, .int .i64 0, .string ⟨#[]⟩, .string ⟨#[]⟩, .int .i64 0, .int .i64 0, .int .i64 0, .int .i64 0, .int .i64 0, .int .i64 0] 28)).frozen? ⟨w.heap.size + 1, i, none⟩ = false := fun i => by go_simp
  go_enter Tryz.func108, Tryz.ntmps108
  go_wp2_with fail
  generalize ((w.alloc (.cells #[.slice a1 ps.length c1, .slice a2 ts.length c2] 100)).alloc (.cells #[.int .i64 0, .int .i64 0, .int .u8 0, .int .i64 0, .int .i64 0, .int .i64 0, .string ⟨#[]⟩, .string ⟨#[]⟩, .int .i64 0, .int .i64 0, .int .i64 0, .int .i64 0, .int .i64 0, .int .i64 0] 28)) = W0 at *
  have hz' : ∀ i u, Paper.zero.vals[i]? = some u → W0.cell? ⟨w.heap.size + 1, 0 + i, none⟩ = some u := fun i u hu => by rw [Nat.zero_add]; exact hz i u hu
  refine (HO.out _ hB0).mono ?_
  rintro e w1 ⟨rfl, hb1⟩
  have hB1 := hB0.trans (hb1.mono hB0.size)
  have hs1 := hb1.size
  obtain ⟨c0, c1, c2, c3, c4, c5, c6, c7, c8, c9, c10, c11, c12, c13⟩ := paper_cells (w := w1) (b := w.heap.size + 1) (o := 0) Paper.zero (fun i u hu => (hb1.cell (p := ⟨w.heap.size + 1, 0 + i, none⟩) (by simp; omega)).trans (hz' i u hu))
  have PZ := Lib.hid (show PaperIn w1 (w.heap.size + 1) Paper.zero from ⟨c0, c1, c2, c3, c4, c5, c6, c7, c8, c9, c10, c11, c12, c13⟩)
  simp only [Nat.zero_add, Paper.zero] at c0 c1 c2 c3 c4 c5 c6 c7 c8 c9 c10 c11 c12 c13
  have z0 : ∀ i, w1.frozen? ⟨w.heap.size + 1, i, none⟩ = false := fun i => (hb1.frozen (p := ⟨w.heap.size + 1, i, none⟩) (by simp; omega)).trans (hzf i)
  clear hb1 hz hz' hzf hl0 HO hB0
  go_wp2_with fail
  refine bodyPost_ret (results_paper rfl _ _ (w.heap.size + 1) x rfl (set14 w1 _ x Paper.zero PZ.out)) rfl ?_
  exact ⟨rfl, set14_below _ (by omega) x hB1⟩

end Go.Proofs.YtpffpofdceppiaaGreatDoor

set_option linter.unusedSimpArgs false
set_option linter.unusedVariables false
namespace Go.Proofs.YtpffpofdceppiaaGreatDoor
open Go.RowKit Go.Shelf

def encI (i : Int) : List Value := [.int .i64 i]
abbrev IntsAt (w : World) (v : Value) (l : List Int) : Prop := Rows encI 1 w v l
abbrev Own3 (base : Nat) (W : World) (v : Value) (l : List Int) : Prop := W.ownsRow base 3 1 v l.length (l.flatMap encI)
theorem encI_len (i : Int) : (encI i).length = 1 := rfl

/-- The packages directly in one. -/
def ins (ps : List Paper) (pack : Int) : List Int := (ps.filter (fun x => x.inn == pack)).map (·.pack)

theorem ins_len (ps : List Paper) (pack : Int) : (ins ps pack).length ≤ ps.length := by
  rw [ins, List.length_map]; exact List.length_filter_le _ _

set_option maxRecDepth 100000 in
set_option maxHeartbeats 4000000 in
theorem inside_any (vp vt : Value) (ps ts : List Paper) (pack : Int) (w : World) (hp : PapersAt w vp ps) (ht : ∃ a n c, vt = .slice a n c) (hn : ps.length ≤ 1000) :
    Calls Tryz.prog 106 #[.agg #[vp, vt], .int .i64 pack] w fun e w' => ∃ v, e = .returned v ∧ Own3 w.heap.size w' v (ins ps pack) ∧ Below w.heap.size w w' := by
  obtain ⟨a1, cc, rfl, h1, h2, h3⟩ := hp
  obtain ⟨a2, n2, c2, rfl⟩ := ht
  obtain ⟨i0, hi, hz0, hz1, hz2⟩ := info_parts Tryz.info3
  have H3 := Lib.hid h3
  clear h3
  go_enter Tryz.func106, Tryz.ntmps106
  go_wp2_with fail
  go_loopw [5, 11] (fun v i wr => ∃ k : Nat, k ≤ ps.length ∧ i = .int .i64 k ∧ Own3 w.heap.size wr v (ins (ps.take k) pack) ∧ Below w.heap.size w wr) (fun _ i _ => ps.length - (intOf i).toNat)
  case atStart => exact ⟨0, Nat.zero_le _, rfl, World.ownsRow_nil _ _ _ _, (Below.refl _ w).alloc (Nat.le_refl _) _⟩
  case round =>
    obtain ⟨k, hk, rfl, hown, hb⟩ := hrel
    by_cases hlt : k < ps.length
    · obtain ⟨b, off, rfl, hbs, hcell⟩ := H3.out (by omega)
      have hl := ins_len (ps.take k) pack
      rw [List.length_take] at hl
      have hT : Hid (ins (ps.take (k + 1)) pack = ins (ps.take k) pack ++ if ps[k].inn == pack then [ps[k].pack] else []) := by
        show _ = _
        rw [List.take_succ_eq_append_getElem hlt, ins, List.filter_append, List.map_append]
        congr 1
        cases h : (ps[k].inn == pack) <;> simp [h]
      obtain ⟨c0, c1, c2, c3, c4, c5, c6, c7, c8, c9, c10, c11, c12, c13⟩ := paper_cells (w := wr) (b := b) (o := off + k * 14) ps[k] (fun i u hu => (hb.cell (p := ⟨b, off + k * 14 + i, none⟩) hbs).trans (hcell k hlt i u hu))
      clear hcell
      generalize ps[k] = x at *
      generalize ins (ps.take k) pack = ls at *
      have hsz := hb.size
      have HO := Lib.hid hown
      clear hown
      cases g : (x.inn == pack)
      · have hT2 : Hid (ins (ps.take (k + 1)) pack = ls) := by show _ = _; rw [hT.out, g]; simp
        clear hT
        go_wp2_with fail
        go_roundw
        case rel => exact ⟨k + 1, by omega, by go_num, by unfold Own3; rw [hT2.out]; exact HO.out.alloc _, hb.alloc hsz _⟩
        case measure => simp [intOf]; omega
      · have hT2 : Hid (ins (ps.take (k + 1)) pack = ls ++ [x.pack]) := by show _ = _; rw [hT.out, g]; simp
        clear hT
        have hHX : Hid (∀ u ∈ [Value.int .i64 x.pack], u.oneCell' = true) := by show ∀ u ∈ _, _; simp [Value.oneCell']
        go_wp2_with (at_builtin; go_must (refine wpList_append_own _ rfl _ _ 45 rfl w.heap.size 3 i0 _ 1 8 Tryz.underlying45 hi hz0 hz1 hz2 rfl (by decide) _ ls.length (ls.flatMap encI) rfl ((HO.out.alloc _).alloc _) ⟨wr.heap.size + 1, 0, none⟩ 1 1 [.int .i64 x.pack] rfl rfl (by intro j u hu; rw [Addr.add_lit, Nat.zero_add]; cases j with | zero => (simp only [List.getElem?_cons_zero, Option.some.injEq] at hu; subst hu; go_simp) | succ j => (simp at hu)) hHX.out (by unfold maxLen; omega) (by omega) (by simp; omega) ?_; intro v9 w9 hown9 hg9 hnil9; have HO9 := Lib.hid hown9; have HG9 := Lib.hid hg9; clear hown9 hg9 hnil9))
        go_roundw
        case rel =>
          refine ⟨k + 1, by omega, by go_num, ?_, ?_⟩
          · unfold Own3; rw [hT2.out, List.flatMap_append, List.length_append]; exact HO9.out
          · exact ((hb.alloc hsz _).alloc (by simp; omega) _).grown HG9.out (by simp; omega) (fun k hk => (HO.out.lt k hk).1)
        case measure => simp [intOf]; omega
    · obtain rfl : k = ps.length := by omega
      go_wp2_with fail
      go_ret
      rw [List.take_of_length_le (Nat.le_refl _)] at hown
      exact ⟨_, rfl, hown, hb⟩

end Go.Proofs.YtpffpofdceppiaaGreatDoor
