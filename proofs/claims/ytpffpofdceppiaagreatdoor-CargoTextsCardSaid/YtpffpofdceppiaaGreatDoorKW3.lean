/- A part of the proof that laganlaw01.CargoTexts answers true at every input and leaves its arguments as they were; the conditions are those of the given row and card, nothing else. -/
import Derived.Test.YtpffpofdceppiaaGreatDoorKW1
import Derived.Test.YtpffpofdceppiaaGreatDoorKH2
set_option linter.unusedSimpArgs false
set_option linter.unusedVariables false
namespace Go.Proofs.YtpffpofdceppiaaGreatDoor
open Go.RowKit Go.Shelf

theorem has_any (pack : Int) (w : World) : Calls Tryz.prog 95 #[.int .i64 pack] w fun e w' => e = .returned (.func (.func 162) #[] #[.pointer (some ⟨w.heap.size, 0, none⟩)]) ∧ w' = w.alloc (.cells #[.int .i64 pack] 3) := by
  have hmf : ∀ (fn : Fn) (first cap : Array Value) (w : World), (Instr.makeFunc fn first cap).run Tryz.prog w = .ok (.func fn first cap) w := fun _ _ _ _ => rfl
  go_enter Tryz.func95, Tryz.ntmps95
  go_wp2
  go_ret
  exact ⟨rfl, rfl⟩

theorem always_pred (w : World) : PredM 115 #[] (fun _ => true) w := fun W vp vt m hb hp ht _ _ => by
  obtain ⟨a1, c1, rfl, _⟩ := hp
  obtain ⟨a2, c2, rfl, _⟩ := ht
  show Calls Tryz.prog 115 #[.agg #[.slice a1 m.papers.length c1, .slice a2 m.totals.length c2]] W _
  go_enter Tryz.func115, Tryz.ntmps115
  go_wp2
  go_ret
  exact ⟨rfl, (Below.refl _ _).alloc (Nat.le_refl _) _⟩

set_option maxHeartbeats 4000000 in
theorem has1_pred (pack : Int) (B : Nat) (w : World) (hB : B < w.heap.size) (hc : w.cell? ⟨B, 0, none⟩ = some (.int .i64 pack)) : PredM 162 #[.pointer (some ⟨B, 0, none⟩)] (fun m => (ofP m.papers pack).isSome) w := fun W vp vt m hb hp ht hl1 hl2 => by
  change Calls _ _ _ _ (fun e w' => e = .returned (.bool (ofP m.papers pack).isSome) ∧ Below W.heap.size W w')
  have c0 : W.cell? ⟨B, 0, none⟩ = some (.int .i64 pack) := (hb.cell (p := ⟨B, 0, none⟩) hB).trans hc
  have HPa := Lib.hid (fun W' (h : Below W.heap.size W W') => paper_any vp vt m.papers m.totals pack W' (hp.below h) (ht.below h) (by omega))
  obtain ⟨a1, c1, rfl, _⟩ := hp
  obtain ⟨a2, c2, rfl, _⟩ := ht
  generalize ofV m.papers pack = x at *
  generalize (ofP m.papers pack).isSome = q at *
  have HPa : Hid (∀ W', Below W.heap.size W W' → Calls Tryz.prog 96 #[.agg #[.slice a1 m.papers.length c1, .slice a2 m.totals.length c2], .int .i64 pack] W' fun e w' => e = .returned (.tuple #[.agg #[.int .i64 x.id, .int .i64 x.known, .int .u8 x.kind, .int .i64 x.loss, .int .i64 x.pack, .int .i64 x.inn, .string x.mark, .string x.goods, .int .i64 x.lo, .int .i64 x.hi, .int .i64 x.pieces, .int .i64 x.owner, .int .i64 x.count, .int .i64 x.of], .bool q]) ∧ Below W'.heap.size W' w') := HPa
  have hB0 : Below W.heap.size W (W.alloc (.cells #[.slice a1 m.papers.length c1, .slice a2 m.totals.length c2] 100)) := (Below.refl _ W).alloc (Nat.le_refl _) _
  have c1' : (W.alloc (.cells #[.slice a1 m.papers.length c1, .slice a2 m.totals.length c2] 100)).cell? ⟨B, 0, none⟩ = some (.int .i64 pack) := (hB0.cell (p := ⟨B, 0, none⟩) (Nat.lt_of_lt_of_le hB hb.size)).trans c0
  clear hc hb c0
  show Calls Tryz.prog 162 #[.agg #[.slice a1 m.papers.length c1, .slice a2 m.totals.length c2], .pointer (some ⟨B, 0, none⟩)] W _
  go_enter Tryz.func162, Tryz.ntmps162
  go_wp2_with (go_at_call 96; refine (HPa.out _ hB0).mono ?_; rintro e w' ⟨rfl, hb'⟩)
  go_ret
  exact ⟨rfl, (hB0.trans (hb'.mono hB0.size)).alloc (by have := hB0.size; have := hb'.size; omega) _⟩

theorem TreeAt.eqv {w : World} {base : Nat} {ps ts : List Paper} {ids : List Int} {all : Bool} {A : Int → Nat} {S : Int → Nd} (h : TreeAt w base ps ts ids all A S) : Eqv (sub (ins ps) (fuel ps) 0) S (manNd ps ts ids all) := fun r hr => by
  have hg := h.grown r hr
  refine nums_iff.2 ⟨?_, ?_, hg.sum0, hg.sum1, hg.missing, hg.low, hg.end0, hg.end1⟩
  · by_cases e : r = 0
    · subst e; simp only [manNd, if_true]; exact h.root.1
    · have := h.own r hr e
      simp only [manNd, if_neg e]; rw [← this]
  · by_cases e : r = 0
    · subst e; simp only [manNd, if_true]; exact h.root.2
    · have := h.own r hr e
      simp only [manNd, if_neg e]; rw [← this]

/-- A tree in memory that is solved. -/
structure SolvedAt (w : World) (base : Nat) (ps : List Paper) (A : Int → Nat) (S T : Int → Nd) : Prop where
  forest : Forest w base (ins ps) A S (sub (ins ps) (fuel ps) 0)
  eqv : Eqv (sub (ins ps) (fuel ps) 0) S T
  bnd : ∀ r ∈ sub (ins ps) (fuel ps) 0, BndN (S r)

/-- solved, of a manifest's tree. -/
theorem solved_man (ps ts : List Paper) (ids : List Int) (all : Bool) (w : World) (base : Nat) (A : Int → Nat) (S : Int → Nd) (hm : ManOK ps ts) (hnp : ps.length ≤ 201) (hT : TreeAt w base ps ts ids all A S) (hb : base ≤ w.heap.size) :
    Calls Tryz.prog 117 #[.pointer (some ⟨A 0, 0, none⟩)] w fun e w' => Off A (sub (ins ps) (fuel ps) 0) w w' ∧
      ((solved ps ts ids all = none ∧ e = .returned (.bool false)) ∨ (e = .returned (.bool true) ∧ ∃ S' T, solved ps ts ids all = some T ∧ SolvedAt w' base ps A S' T)) := by
  have h0 : (0 : Int) ∈ sub (ins ps) (fuel ps) 0 := sub_self hm.deep
  have hc : ∀ p ∈ sub (ins ps) (fuel ps) 0, ∀ q ∈ ins ps p, q ∈ sub (ins ps) (fuel ps) 0 := sub_closed hm.deep
  refine (solved_any base (ins ps) A (sub (ins ps) (fuel ps) 0) (fun p _ => by have := ins_len ps p; omega) (fuel ps) 0 hm.deep (by unfold fuel; omega) h0 S w hT.forest hT.bnd hb).mono ?_
  have he := solvedS_eqv hc (fuel ps) 0 h0 S _ hT.eqv
  rintro e w' (⟨S', h1, rfl, h2, h3, h4⟩ | ⟨h1, rfl, h4⟩)
  · rw [h1] at he
    cases hs : solvedS (ins ps) (fuel ps) 0 (manNd ps ts ids all) with
    | none => rw [hs] at he; exact he.elim
    | some T => rw [hs] at he; exact ⟨h4, .inr ⟨rfl, S', T, hs, h2, he, h3⟩⟩
  · rw [h1] at he
    cases hs : solvedS (ins ps) (fuel ps) 0 (manNd ps ts ids all) with
    | none => exact ⟨h4, .inl ⟨hs, rfl⟩⟩
    | some T => rw [hs] at he; exact he.elim

end Go.Proofs.YtpffpofdceppiaaGreatDoor

set_option linter.unusedSimpArgs false
set_option linter.unusedVariables false
namespace Go.Proofs.YtpffpofdceppiaaGreatDoor
open Go.RowKit Go.Shelf

def weighedE (l : List Paper) (known loss : Int) (there : Man → Bool) : Int :=
  if rootedE l known loss there ≠ 0 then rootedE l known loss there else if (solved (opened l known loss).1.papers (opened l known loss).1.totals [] true).isNone then 10 else 0

theorem SolvedAt.low {w : World} {base : Nat} {ps : List Paper} {A : Int → Nat} {S T : Int → Nd} (h : SolvedAt w base ps A S T) {b i : Nat} (hb : b < base) (v : Value) : SolvedAt (w.setCell ⟨b, i, none⟩ v) base ps A S T :=
  ⟨⟨fun q hq => (h.forest.node q hq).of_heap (Below.heap_setCell _ _ _ _ (by have := h.forest.lo q hq; simp; omega)), fun q hq => ownsRow_setCell_below (h.forest.row q hq) hb _, h.forest.lo, h.forest.inj, h.forest.closed⟩, h.eqv, h.bnd⟩
theorem SolvedAt.mono {w : World} {base base' : Nat} {ps : List Paper} {A : Int → Nat} {S T : Int → Nd} (h : SolvedAt w base ps A S T) (hb : base' ≤ base) : SolvedAt w base' ps A S T :=
  ⟨⟨h.forest.node, fun p hp => owns_mono (h.forest.row p hp) hb, fun p hp => Nat.le_trans hb (h.forest.lo p hp), h.forest.inj, h.forest.closed⟩, h.eqv, h.bnd⟩
theorem SolvedAt.below {w w' : World} {base : Nat} {ps : List Paper} {A : Int → Nat} {S T : Int → Nd} (h : SolvedAt w base ps A S T) (hh : ∀ k, k < w.heap.size → w'.heap[k]? = w.heap[k]?) : SolvedAt w' base ps A S T :=
  ⟨h.forest.below hh, h.eqv, h.bnd⟩

theorem rootedE_opened {l : List Paper} {known loss : Int} {there : Man → Bool} (h : rootedE l known loss there = 0) : (opened l known loss).2 = 0 := by
  unfold rootedE at h
  by_cases h1 : (opened l known loss).2 ≠ 0
  · rw [if_pos h1] at h; exact h
  · omega

theorem Off.row {A : Int → Nat} {S : Int → Nd} {K : Int → List Int} {D : List Int} {base0 : Nat} {w w' : World} (h : Off A D w w') (hF : Forest w base0 K A S D) {base : Nat} {e : TypeId} {size n : Nat} {v : Value} {xs : List Value} (hr : w.ownsRow base e size v n xs) (he : e ≠ 117) : w'.ownsRow base e size v n xs := by
  refine ⟨hr.1, ?_⟩
  rcases hr.2 with h2 | ⟨g, cap, cur, a1, a2, a3, a4⟩
  · exact .inl h2
  · refine .inr ⟨g, cap, cur, a1, a2, (h.block g (Array.getElem?_eq_some_iff.1 a3).1 (fun p hp e' => ?_)).trans a3, a4⟩
    have := hF.node p hp
    rw [NodeAt, ← e', a3] at this
    simp at this
    exact he this.2

set_option maxRecDepth 100000 in
set_option maxHeartbeats 8000000 in
theorem weighed_any (v : Value) (l : List Paper) (known loss : Int) (g : Nat) (lb : Array Value) (there : Man → Bool) (w : World) (hv : PapersAt w v l) (hn : l.length ≤ 1000) (hs : ∀ x ∈ l, okS x) (eg : ∀ args w, (callFunc g args).run Tryz.prog w = .ok (.enter g args) w) (hp : ∀ W, Below w.heap.size w W → PredM g lb there W) :
    Calls Tryz.prog 110 #[v, .int .i64 known, .int .i64 loss, .func (.func g) #[] lb] w fun e w' => ∃ vp vt np, e = .returned (.tuple #[.agg #[vp, vt], np, .int .i64 (weighedE l known loss there)]) ∧
      Own28 w.heap.size w' vp (opened l known loss).1.papers ∧ Own28 w.heap.size w' vt (opened l known loss).1.totals ∧ Below w.heap.size w w' ∧
      (weighedE l known loss there = 0 → ∃ (A : Int → Nat) (S T : Int → Nd), np = .pointer (some ⟨A 0, 0, none⟩) ∧ solved (opened l known loss).1.papers (opened l known loss).1.totals [] true = some T ∧ SolvedAt w' w.heap.size (opened l known loss).1.papers A S T) := by
  have HR := Lib.hid (fun W (h : Below w.heap.size w W) => rooted_any v l known loss g lb there W (hv.below h) hn hs eg (hp W h))
  have hE : Hid (weighedE l known loss there = if rootedE l known loss there ≠ 0 then rootedE l known loss there else if (solved (opened l known loss).1.papers (opened l known loss).1.totals [] true).isNone then 10 else 0) := by show _ = _; rfl
  have hman : Hid (rootedE l known loss there = 0 → ManOK (opened l known loss).1.papers (opened l known loss).1.totals) := fun h => opened_ok l known loss (rootedE_opened h)
  have hL := opened_len l known loss
  generalize weighedE l known loss there = we at *
  generalize rootedE l known loss there = r at *
  generalize (opened l known loss).1 = m at *
  obtain ⟨hL1, hL2⟩ := hL
  obtain ⟨a1, cc, rfl, _⟩ := hv
  have hB0 : Below w.heap.size w (w.alloc (.cells #[.slice none 0 0, .slice none 0 0] 100)) := (Below.refl _ w).alloc (Nat.le_refl _) _
  have hr0 : (w.alloc (.cells #[.slice none 0 0, .slice none 0 0] 100)).cell? ⟨w.heap.size, 0, none⟩ = some (.slice none 0 0) := by go_simp
  have hr1 : (w.alloc (.cells #[.slice none 0 0, .slice none 0 0] 100)).cell? ⟨w.heap.size, 1, none⟩ = some (.slice none 0 0) := by go_simp
  have hf0 : ∀ i, (w.alloc (.cells #[.slice none 0 0, .slice none 0 0] 100)).frozen? ⟨w.heap.size, i, none⟩ = false := fun i => by go_simp
  have hs0 : (w.alloc (.cells #[.slice none 0 0, .slice none 0 0] 100)).heap.size = w.heap.size + 1 := by simp
  clear hp
  go_enter Tryz.func110, Tryz.ntmps110
  go_wp2_with fail
  generalize w.alloc (.cells #[.slice none 0 0, .slice none 0 0] 100) = W0 at *
  refine (HR.out _ hB0).mono ?_
  rintro e w1 ⟨vp, vt, np, rfl, hp1, ht1, hb1, htree⟩
  obtain ⟨b1, m1, d1, rfl⟩ := own_shape hp1
  obtain ⟨b2, m2, d2, rfl⟩ := own_shape ht1
  have hl1 : W0.heap.size ≤ w1.heap.size := hb1.size
  have hb2 : Below W0.heap.size W0 (w1.alloc (.cells #[.slice b1 m1 d1, .slice b2 m2 d2] 100)) := hb1.alloc hb1.size _
  have hB2 : Below w.heap.size w (w1.alloc (.cells #[.slice b1 m1 d1, .slice b2 m2 d2] 100)) := hB0.trans (hb2.mono hB0.size)
  have hs2 : (w1.alloc (.cells #[.slice b1 m1 d1, .slice b2 m2 d2] 100)).heap.size = w1.heap.size + 1 := by simp
  have x0 : (w1.alloc (.cells #[.slice b1 m1 d1, .slice b2 m2 d2] 100)).cell? ⟨w1.heap.size, 0, none⟩ = some (.slice b1 m1 d1) := by go_simp
  have x1 : (w1.alloc (.cells #[.slice b1 m1 d1, .slice b2 m2 d2] 100)).cell? ⟨w1.heap.size, 1, none⟩ = some (.slice b2 m2 d2) := by go_simp
  have hp2 := hp1.alloc (.cells #[.slice b1 m1 d1, .slice b2 m2 d2] 100)
  have ht2 := ht1.alloc (.cells #[.slice b1 m1 d1, .slice b2 m2 d2] 100)
  have hq0 : ∀ i, (w1.alloc (.cells #[.slice b1 m1 d1, .slice b2 m2 d2] 100)).frozen? ⟨w.heap.size, i, none⟩ = false := fun i => (hb2.frozen (p := ⟨w.heap.size, i, none⟩) (by simp <;> omega)).trans (hf0 i)
  have hq1 := (hb2.cell (p := ⟨w.heap.size, 0, none⟩) (by simp <;> omega)).trans hr0
  have hq2 := (hb2.cell (p := ⟨w.heap.size, 1, none⟩) (by simp <;> omega)).trans hr1
  have hfin : Hid (∀ (wx : World), Own28 W0.heap.size wx (.slice b1 m1 d1) m.papers → Own28 W0.heap.size wx (.slice b2 m2 d2) m.totals → Below w.heap.size w wx →
        Own28 w.heap.size ((wx.setCell ⟨w.heap.size, 0, none⟩ (.slice b1 m1 d1)).setCell ⟨w.heap.size, 1, none⟩ (.slice b2 m2 d2)) (.slice b1 m1 d1) m.papers ∧ Own28 w.heap.size ((wx.setCell ⟨w.heap.size, 0, none⟩ (.slice b1 m1 d1)).setCell ⟨w.heap.size, 1, none⟩ (.slice b2 m2 d2)) (.slice b2 m2 d2) m.totals ∧
        Below w.heap.size w ((wx.setCell ⟨w.heap.size, 0, none⟩ (.slice b1 m1 d1)).setCell ⟨w.heap.size, 1, none⟩ (.slice b2 m2 d2))) := fun wx h1 h2 h3 => by
    have hmono : ∀ v l, Own28 W0.heap.size wx v l → Own28 w.heap.size ((wx.setCell ⟨w.heap.size, 0, none⟩ (.slice b1 m1 d1)).setCell ⟨w.heap.size, 1, none⟩ (.slice b2 m2 d2)) v l := fun v l ho =>
      owns_mono (ownsRow_setCell_below (ownsRow_setCell_below ho (a := ⟨w.heap.size, 0, none⟩) (by simp; omega) _) (a := ⟨w.heap.size, 1, none⟩) (by simp; omega) _) (by omega)
    exact ⟨hmono _ _ h1, hmono _ _ h2, (h3.setCell (p := ⟨w.heap.size, 0, none⟩) (Nat.le_refl _) _).setCell (p := ⟨w.heap.size, 1, none⟩) (Nat.le_refl _) _⟩
  clear hr0 hr1 hf0 hb2 HR
  rcases htree with ⟨hr, rfl⟩ | ⟨hr, A, S, rfl, hT⟩
  · have HE : Hid (we = r) := by show _ = _; rw [hE.out, if_pos hr]
    have hrb : (r == 0) = false := by simpa using hr
    obtain ⟨f1, f2, f3⟩ := hfin.out _ hp2 ht2 hB2
    have HF := Lib.hid (And.intro f1 (And.intro f2 f3))
    have HNE := Lib.hid hr
    clear f1 f2 f3 hr hE hman hp2 ht2
    go_upto_region 2 with fail
    generalize w1.alloc (.cells #[.slice b1 m1 d1, .slice b2 m2 d2] 100) = W2 at *
    go_wp2_with fail
    refine bodyPost_ret (results_man3 rfl _ _ w.heap.size (.slice b1 m1 d1) (.slice b2 m2 d2) rfl (by go_simp) (by go_simp)) rfl ?_
    exact ⟨_, _, _, by rw [HE.out]; rfl, HF.out.1, HF.out.2.1, HF.out.2.2, fun h => absurd (HE.out.symm.trans h) HNE.out⟩
  · have hT2 := hT.below (w' := w1.alloc (.cells #[.slice b1 m1 d1, .slice b2 m2 d2] 100)) (fun k hk => Below.heap_alloc _ _ _ hk)
    have hnb : ∀ k, k < W0.heap.size → ∀ p ∈ sub (ins m.papers) (fuel m.papers) 0, k ≠ A p := fun k hk p hp e => by have := hT.forest.lo p hp; omega
    have hnt : ∀ p ∈ sub (ins m.papers) (fuel m.papers) 0, w1.heap.size ≠ A p := fun p hp e => by have := (hT.forest.node p hp).lt; omega
    have HE : Hid (we = if (solved m.papers m.totals [] true).isNone then 10 else 0) := by show _ = _; rw [hE.out, if_neg (by omega)]
    subst hr
    have hC := Lib.hid (fun h => solved_man m.papers m.totals [] true (w1.alloc (.cells #[.slice b1 m1 d1, .slice b2 m2 d2] 100)) W0.heap.size A S (hman.out rfl) hL1 hT2 h)
    clear hE hman hT
    go_upto_region 2 with fail
    generalize w1.alloc (.cells #[.slice b1 m1 d1, .slice b2 m2 d2] 100) = W2 at *
    go_wp2_with fail
    refine (hC.out (by omega)).mono ?_
    rintro e w3 ⟨hoff, hres⟩
    have hcell : ∀ (b i : Nat) (u : Value), (∀ p ∈ sub (ins m.papers) (fuel m.papers) 0, b ≠ A p) → b < W2.heap.size → W2.cell? ⟨b, i, none⟩ = some u → w3.cell? ⟨b, i, none⟩ = some u := fun b i u h1 h2 h3 => (World.cell?_of_block (w := W2) (hoff.block b h2 h1)).trans h3
    have y0 := hcell w1.heap.size 0 _ hnt (by omega) x0
    have y1 := hcell w1.heap.size 1 _ hnt (by omega) x1
    have y2 := hcell w.heap.size 0 _ (hnb _ (by omega)) (by omega) hq1
    have y3 := hcell w.heap.size 1 _ (hnb _ (by omega)) (by omega) hq2
    have y4 : ∀ i, w3.frozen? ⟨w.heap.size, i, none⟩ = false := fun i => (World.frozen?_of_block (w := W2) (hoff.block w.heap.size (by omega) (hnb w.heap.size (by omega)))).trans (hq0 i)
    have hB3 : Below w.heap.size w w3 := hB2.trans (hoff.below (by omega) (fun p hp => by have := hT2.forest.lo p hp; omega))
    obtain ⟨f1, f2, f3⟩ := hfin.out w3 (hoff.row hT2.forest hp2 (by decide)) (hoff.row hT2.forest ht2 (by decide)) hB3
    have HF := Lib.hid (And.intro f1 (And.intro f2 f3))
    clear f1 f2 f3 hcell hoff hp2 ht2 hC hq0 hq1 hq2 x0 x1 hT2 hnb hnt
    rcases hres with ⟨hno, rfl⟩ | ⟨rfl, S', T, hyes, hS⟩
    · have HE2 : Hid (we = 10) := by show _ = _; rw [HE.out, hno]; rfl
      clear hno HE
      go_wp2_with fail
      refine bodyPost_ret (results_man3 rfl _ _ w.heap.size (.slice b1 m1 d1) (.slice b2 m2 d2) rfl (by go_simp) (by go_simp)) rfl ?_
      exact ⟨_, _, _, by rw [HE2.out]; rfl, HF.out.1, HF.out.2.1, HF.out.2.2, fun h => by rw [HE2.out] at h; cases h⟩
    · have HE2 : Hid (we = 0) := by show _ = _; rw [HE.out, hyes]; rfl
      have HS := Lib.hid (((hS.low (b := w.heap.size) (i := 0) (by omega) (.slice b1 m1 d1)).low (b := w.heap.size) (i := 1) (by omega) (.slice b2 m2 d2)).mono (base' := w.heap.size) (by omega))
      have HY := Lib.hid hyes
      clear hyes hS HE
      go_wp2_with fail
      refine bodyPost_ret (results_man3 rfl _ _ w.heap.size (.slice b1 m1 d1) (.slice b2 m2 d2) rfl (by go_simp) (by go_simp)) rfl ?_
      exact ⟨_, _, _, by rw [HE2.out]; rfl, HF.out.1, HF.out.2.1, HF.out.2.2, fun _ => ⟨A, S', T, rfl, HY.out, HS.out⟩⟩

end Go.Proofs.YtpffpofdceppiaaGreatDoor
