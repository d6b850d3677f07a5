/- A part of the proof that laganlaw01.CargoTexts answers true at every input and leaves its arguments as they were; the conditions are those of the given row and card, nothing else. -/
import Derived.Test.YtpffpofdceppiaaGreatDoorKW3
import Derived.Test.YtpffpofdceppiaaGreatDoorKH2
import Derived.Deep.Cut
set_option linter.unusedSimpArgs false
set_option linter.unusedVariables false
namespace Go.Proofs.YtpffpofdceppiaaGreatDoor
open Go.RowKit Go.Shelf

theorem rootedE_zero {l : List Paper} {known loss : Int} {there : Man → Bool} (h : rootedE l known loss there = 0) : (opened l known loss).2 = 0 ∧ there (opened l known loss).1 = true ∧ treeOK (opened l known loss).1.papers (opened l known loss).1.totals = true := by
  have h0 := rootedE_opened h
  unfold rootedE at h
  rw [if_neg (by omega)] at h
  cases h1 : there (opened l known loss).1
  · rw [h1] at h; simp at h
  · cases h2 : treeOK (opened l known loss).1.papers (opened l known loss).1.totals
    · rw [h1, h2] at h; simp at h
    · exact ⟨h0, rfl, rfl⟩

theorem weighedE_zero {l : List Paper} {known loss : Int} {there : Man → Bool} (h : weighedE l known loss there = 0) : rootedE l known loss there = 0 := by
  unfold weighedE at h
  by_cases h1 : rootedE l known loss there ≠ 0
  · rw [if_pos h1] at h; exact h
  · omega

/-- The ends of a package. -/
def hasP (pack : Int) : Man → Bool := fun m => (ofP m.papers pack).isSome
def weighP (l : List Paper) (known loss pack : Int) : (Int × Int) × Int :=
  if weighedE l known loss (hasP pack) ≠ 0 then ((0, 0), weighedE l known loss (hasP pack)) else
    match solved (opened l known loss).1.papers (opened l known loss).1.totals [] true with
    | some T => (((T pack).end0, (T pack).end1), 0)
    | none => ((0, 0), 0)

theorem results_span {fn : Func} {p u : Tmp} (h : fn.results = #[.cell p 26, .tmp u]) (tmps : Array Value) (w : World) (b : Nat) (v0 v1 : Value) (hp : tmps.getD p undef = .pointer (some ⟨b, 0, none⟩)) (h0 : w.cell? ⟨b, 0, none⟩ = some v0) (h1 : w.cell? ⟨b, 1, none⟩ = some v1) :
    (results fn tmps).run Tryz.prog w = .ok (.tuple #[.agg #[v0, v1], tmps.getD u undef]) w := by
  rw [results_cell_tmp h, hp]
  have : (loadVar 26 ⟨b, 0, none⟩).run Tryz.prog w = .ok (.agg #[v0, v1]) w := by go_simp
  simp only [asAddr, Sem.run_pure, Result.andThen_ok, this]

set_option maxRecDepth 100000 in
set_option maxHeartbeats 8000000 in
theorem Weigh_any (v : Value) (l : List Paper) (known loss pack : Int) (w : World) (hv : PapersAt w v l) (hn : l.length ≤ 1000) (hs : ∀ x ∈ l, okS x) :
    Calls Tryz.prog 45 #[v, .int .i64 known, .int .i64 loss, .int .i64 pack] w fun e w' => e = .returned (.tuple #[.agg #[.int .i64 (weighP l known loss pack).1.1, .int .i64 (weighP l known loss pack).1.2], .int .i64 (weighP l known loss pack).2]) ∧ Below w.heap.size w w' := by
  have hW0 : ∃ W0, W0 = (w.alloc (.cells #[.int .i64 0, .int .i64 0] 26)).alloc (.cells #[.int .i64 pack] 3) := ⟨_, rfl⟩
  obtain ⟨W0, hW0⟩ := hW0
  have hB0 : Below w.heap.size w W0 := by rw [hW0]; exact ((Below.refl _ w).alloc (Nat.le_refl _) _).alloc (by simp) _
  have hs0 : W0.heap.size = w.heap.size + 1 + 1 := by rw [hW0]; simp
  have hc0 : W0.cell? ⟨w.heap.size + 1, 0, none⟩ = some (.int .i64 pack) := by rw [hW0]; go_simp
  have hr0 : W0.cell? ⟨w.heap.size, 0, none⟩ = some (.int .i64 0) := by rw [hW0]; go_simp
  have hr1 : W0.cell? ⟨w.heap.size, 1, none⟩ = some (.int .i64 0) := by rw [hW0]; go_simp
  have hf0 : ∀ i, W0.frozen? ⟨w.heap.size, i, none⟩ = false := fun i => by rw [hW0]; go_simp
  have hWe := Lib.hid (weighed_any v l known loss 162 #[.pointer (some ⟨w.heap.size + 1, 0, none⟩)] (hasP pack) W0 (hv.below hB0) hn hs (enters_of Tryz.func162 (by kernel_rfl) rfl)
    (fun W hb => has1_pred pack (w.heap.size + 1) W (by have := hb.size; omega) ((hb.cell (p := ⟨w.heap.size + 1, 0, none⟩) (by simp; omega)).trans hc0)))
  have hP : Hid (weighP l known loss pack = if weighedE l known loss (hasP pack) ≠ 0 then ((0, 0), weighedE l known loss (hasP pack)) else
    match solved (opened l known loss).1.papers (opened l known loss).1.totals [] true with
    | some T => (((T pack).end0, (T pack).end1), 0)
    | none => ((0, 0), 0)) := by show _ = _; rfl
  have hZ : Hid (weighedE l known loss (hasP pack) = 0 → ManOK (opened l known loss).1.papers (opened l known loss).1.totals ∧ pack ∈ sub (ins (opened l known loss).1.papers) (fuel (opened l known loss).1.papers) 0 ∧ seek (ins (opened l known loss).1.papers) (fuel (opened l known loss).1.papers) 0 pack = true) := fun h => by
    obtain ⟨h1, h2, h3⟩ := rootedE_zero (weighedE_zero h)
    have hm := opened_ok l known loss h1
    exact ⟨hm, seek_pack hm h3 h2⟩
  have hL := (opened_len l known loss).1
  generalize weighP l known loss pack = r at *
  generalize weighedE l known loss (hasP pack) = we at *
  generalize (opened l known loss).1 = m at *
  obtain ⟨a1, cc, rfl, _⟩ := hv
  have HW0 := Lib.hid hW0
  clear hW0
  go_enter Tryz.func45, Tryz.ntmps45
  go_wp2_with (go_at_call 95; refine (has_any _ _).mono ?_; rintro e w' ⟨rfl, rfl⟩)
  rw [← HW0.out]
  refine hWe.out.mono ?_
  rintro e w1 ⟨vp, vt, np, rfl, hp1, ht1, hb1, hsol⟩
  obtain ⟨b1, m1, d1, rfl⟩ := own_shape hp1
  obtain ⟨b2, m2, d2, rfl⟩ := own_shape ht1
  have hB1 := hB0.trans (hb1.mono hB0.size)
  have hl1 := hb1.size
  have hb2 : Below W0.heap.size W0 (w1.alloc (.cells #[.slice b1 m1 d1, .slice b2 m2 d2] 100)) := hb1.alloc hb1.size _
  have hB2 := hB0.trans (hb2.mono hB0.size)
  have q0 := (hb2.cell (p := ⟨w.heap.size, 0, none⟩) (by simp; omega)).trans hr0
  have q1 := (hb2.cell (p := ⟨w.heap.size, 1, none⟩) (by simp; omega)).trans hr1
  have qz : ∀ i, (w1.alloc (.cells #[.slice b1 m1 d1, .slice b2 m2 d2] 100)).frozen? ⟨w.heap.size, i, none⟩ = false := fun i => (hb2.frozen (p := ⟨w.heap.size, i, none⟩) (by simp; omega)).trans (hf0 i)
  have hlt : w.heap.size < w1.heap.size + 1 := by omega
  cases g : (we != 0)
  · have hw0 : we = 0 := by simpa using g
    obtain ⟨A, S, T, rfl, hT, hS⟩ := hsol hw0
    obtain ⟨hman, hsub, hseek⟩ := hZ.out hw0
    have hR : Hid (r = (((T pack).end0, (T pack).end1), 0)) := by show _ = _; rw [hP.out, if_neg (by omega), hT]
    have hS2 := hS.below (w' := w1.alloc (.cells #[.slice b1 m1 d1, .slice b2 m2 d2] 100)) (fun k hk => Below.heap_alloc _ _ _ hk)
    have hF := find_any _ _ (ins m.papers) A S _ pack hS2.forest (fun p _ => by have := ins_len m.papers p; omega) (fuel m.papers) 0 hman.deep (sub_self hman.deep)
    rw [hseek] at hF
    have hF : Calls Tryz.prog 102 #[.pointer (some ⟨A 0, 0, none⟩), .int .i64 pack] (w1.alloc (.cells #[.slice b1 m1 d1, .slice b2 m2 d2] 100)) fun e w' => e = .returned (.pointer (some ⟨A pack, 0, none⟩)) ∧ Below (w1.alloc (.cells #[.slice b1 m1 d1, .slice b2 m2 d2] 100)).heap.size (w1.alloc (.cells #[.slice b1 m1 d1, .slice b2 m2 d2] 100)) w' := hF
    have HF := Lib.hid hF
    have hN := hS2.forest.node pack hsub
    have hnu := nums_iff.1 (hS2.eqv pack hsub)
    have hs2 : (w1.alloc (.cells #[.slice b1 m1 d1, .slice b2 m2 d2] 100)).heap.size = w1.heap.size + 1 := by simp
    clear hF hsol hZ hP hWe hS hS2 hp1 ht1 hb1 hb2 hc0 hr0 hr1 hf0 hT
    go_upto_region 4 with fail
    generalize w1.alloc (.cells #[.slice b1 m1 d1, .slice b2 m2 d2] 100) = W2 at *
    go_wp2_with fail
    refine HF.out.mono ?_
    rintro e w3 ⟨rfl, hb3⟩
    have y0 := (hb3.cell (p := ⟨w.heap.size, 0, none⟩) (by simp; omega)).trans q0
    have y1 := (hb3.cell (p := ⟨w.heap.size, 1, none⟩) (by simp; omega)).trans q1
    have yz : ∀ i, w3.frozen? ⟨w.heap.size, i, none⟩ = false := fun i => (hb3.frozen (p := ⟨w.heap.size, i, none⟩) (by simp; omega)).trans (qz i)
    have hN3 := hN.of_heap (hb3.block _ hN.lt)
    have e0 := hN3.end0
    have e1 := hN3.end1
    rw [hnu.2.2.2.2.2.2.1] at e0
    rw [hnu.2.2.2.2.2.2.2] at e1
    have hB3 := hB2.trans (hb3.mono (by omega))
    clear hN hN3 hnu HF q0 q1 qz hb3
    go_wp2_with fail
    refine bodyPost_ret (results_span rfl _ _ w.heap.size (.int .i64 (T pack).end0) (.int .i64 (T pack).end1) rfl (by go_simp) (by go_simp)) rfl ?_
    exact ⟨by rw [hR.out]; rfl, (hB3.setCell (p := ⟨w.heap.size, 0, none⟩) (Nat.le_refl _) _).setCell (p := ⟨w.heap.size, 1, none⟩) (Nat.le_refl _) _⟩
  · have hR : Hid (r = ((0, 0), we)) := by show _ = _; rw [hP.out, if_pos (by simpa using g)]
    clear hsol hZ hP hWe hp1 ht1 hb1 hb2 hc0 hr0 hr1 hf0
    go_upto_region 3 with fail
    generalize w1.alloc (.cells #[.slice b1 m1 d1, .slice b2 m2 d2] 100) = W2 at *
    go_wp2_with fail
    refine bodyPost_ret (results_span rfl _ _ w.heap.size (.int .i64 0) (.int .i64 0) rfl (by go_simp) (by go_simp)) rfl ?_
    exact ⟨by rw [hR.out]; rfl, (hB2.setCell (p := ⟨w.heap.size, 0, none⟩) (Nat.le_refl _) _).setCell (p := ⟨w.heap.size, 1, none⟩) (Nat.le_refl _) _⟩

end Go.Proofs.YtpffpofdceppiaaGreatDoor

set_option linter.unusedSimpArgs false
set_option linter.unusedVariables false
namespace Go.Proofs.YtpffpofdceppiaaGreatDoor
open Go.RowKit Go.Shelf

def leafP (m : Man) (x : Paper) : Bool := ((ins m.papers x.pack).length : Int) == 0 && (ofV m.totals x.pack).count == 0
def leavesP (m : Man) : List Int := (m.papers.filter (leafP m)).map (·.pack)
def leavesL (l : List Paper) (known loss : Int) : List Int := if (opened l known loss).2 ≠ 0 then [] else leavesP (opened l known loss).1

theorem own_shape3 {base : Nat} {W : World} {v : Value} {l : List Int} (h : Own3 base W v l) : ∃ p c, v = .slice p l.length c := by
  rcases h.2 with ⟨rfl, h1⟩ | ⟨g, cap, cur, rfl, _⟩
  · have : l.length = 0 := by have := h.1; omega
    rw [this]; exact ⟨_, _, rfl⟩
  · exact ⟨_, _, rfl⟩

theorem box14_cell {w w' : World} (x : Paper) (hb : Below (w.alloc (.cells #[.int .i64 x.id, .int .i64 x.known, .int .u8 x.kind, .int .i64 x.loss, .int .i64 x.pack, .int .i64 x.inn, .string x.mark, .string x.goods, .int .i64 x.lo, .int .i64 x.hi, .int .i64 x.pieces, .int .i64 x.owner, .int .i64 x.count, .int .i64 x.of] 28)).heap.size (w.alloc (.cells #[.int .i64 x.id, .int .i64 x.known, .int .u8 x.kind, .int .i64 x.loss, .int .i64 x.pack, .int .i64 x.inn, .string x.mark, .string x.goods, .int .i64 x.lo, .int .i64 x.hi, .int .i64 x.pieces, .int .i64 x.owner, .int .i64 x.count, .int .i64 x.of] 28)) w') : w'.cell? ⟨w.heap.size, 4, none⟩ = some (.int .i64 x.pack) ∧ w'.cell? ⟨w.heap.size, 5, none⟩ = some (.int .i64 x.inn) ∧ w'.cell? ⟨w.heap.size, 12, none⟩ = some (.int .i64 x.count) := by
  refine ⟨(hb.cell (p := ⟨w.heap.size, 4, none⟩) (by simp)).trans ?_, (hb.cell (p := ⟨w.heap.size, 5, none⟩) (by simp)).trans ?_, (hb.cell (p := ⟨w.heap.size, 12, none⟩) (by simp)).trans ?_⟩ <;> go_simp

set_option maxRecDepth 100000 in
set_option maxHeartbeats 8000000 in
theorem Leaves_any (v : Value) (l : List Paper) (known loss : Int) (w : World) (hv : PapersAt w v l) (hn : l.length ≤ 1000) (hs : ∀ x ∈ l, okS x) :
    Calls Tryz.prog 43 #[v, .int .i64 known, .int .i64 loss] w fun e w' => ∃ v', e = .returned v' ∧ Own3 w.heap.size w' v' (leavesL l known loss) ∧ Below w.heap.size w w' := by
  have HO := Lib.hid (opened_any v l known loss w hv hn hs)
  have hL := opened_len l known loss
  have hR : Hid (leavesL l known loss = if (opened l known loss).2 ≠ 0 then [] else leavesP (opened l known loss).1) := by show _ = _; rfl
  generalize leavesL l known loss = r at *
  generalize opened l known loss = o at *
  obtain ⟨m, c2⟩ := o
  obtain ⟨hL1, hL2⟩ := hL
  obtain ⟨a1, cc, rfl, _⟩ := hv
  obtain ⟨i0, hi, hz0, hz1, hz2⟩ := info_parts Tryz.info3
  simp only at HO hR hL1 hL2
  go_enter Tryz.func43, Tryz.ntmps43
  go_wp2_with fail
  refine HO.out.mono ?_
  rintro e w1 ⟨vp, vt, rfl, hp1, ht1, hb1⟩
  cases g : (c2 != 0)
  · have HR : Hid (r = leavesP m) := by show _ = _; rw [hR.out, if_neg (by simpa using g)]
    obtain ⟨p1, n1, d1, rfl⟩ := own_shape hp1
    obtain ⟨p2, n2, d2, rfl⟩ := own_shape ht1
    have hp2 := Rows.of_owns vals_len (hp1.alloc (.cells #[.slice p1 n1 d1, .slice p2 n2 d2] 100))
    have ht2 := Rows.of_owns vals_len (ht1.alloc (.cells #[.slice p1 n1 d1, .slice p2 n2 d2] 100))
    have hB1 : Below w.heap.size w (w1.alloc (.cells #[.slice p1 n1 d1, .slice p2 n2 d2] 100)) := hb1.alloc hb1.size _
    have hsz1 := hb1.size
    have hs2 : (w1.alloc (.cells #[.slice p1 n1 d1, .slice p2 n2 d2] 100)).heap.size = w1.heap.size + 1 := by simp
    have x0 : (w1.alloc (.cells #[.slice p1 n1 d1, .slice p2 n2 d2] 100)).cell? ⟨w1.heap.size, 0, none⟩ = some (.slice p1 n1 d1) := by go_simp
    have x1 : (w1.alloc (.cells #[.slice p1 n1 d1, .slice p2 n2 d2] 100)).cell? ⟨w1.heap.size, 1, none⟩ = some (.slice p2 n2 d2) := by go_simp
    have hsh : n1 = m.papers.length := by obtain ⟨_, _, e, _⟩ := hp2; injection e
    subst hsh
    have HP := Lib.hid hp2
    have HT := Lib.hid ht2
    have H3 := Lib.hid (show ∀ _ : 0 < d1, _ from by obtain ⟨_, _, e, _, _, h⟩ := hp2; injection e with e1 e2 e3; subst e1; subst e3; exact h)
    have hd1 : m.papers.length ≤ d1 := by obtain ⟨_, _, e, h, _, _⟩ := hp2; injection e with e1 e2 e3; subst e3; exact h
    clear hp1 ht1 hp2 ht2 hb1 HO hR
    go_wp2_with fail
    generalize w1.alloc (.cells #[.slice p1 m.papers.length d1, .slice p2 n2 d2] 100) = W2 at *
    go_loopw [9, 26] (fun v i wr => ∃ k : Nat, k ≤ m.papers.length ∧ i = .int .i64 k ∧ Own3 W2.heap.size wr v (((m.papers.take k).filter (leafP m)).map (·.pack)) ∧ Below W2.heap.size W2 wr) (fun _ i _ => m.papers.length - (intOf i).toNat)
    case atStart => exact ⟨0, Nat.zero_le _, rfl, World.ownsRow_nil _ _ _ _, Below.refl _ _⟩
    case round =>
      obtain ⟨k, hk, rfl, hown, hb⟩ := hrel
      by_cases hlt : k < m.papers.length
      · obtain ⟨b, off, rfl, hbs, hcell⟩ := H3.out (by omega)
        have hT : Hid (((m.papers.take (k + 1)).filter (leafP m)).map (·.pack) = ((m.papers.take k).filter (leafP m)).map (·.pack) ++ if leafP m m.papers[k] then [m.papers[k].pack] else []) := by
          show _ = _
          rw [List.take_succ_eq_append_getElem hlt, List.filter_append, List.map_append]
          congr 1
          cases h : leafP m m.papers[k] <;> simp [h]
        have hll : (((m.papers.take k).filter (leafP m)).map (·.pack)).length ≤ 201 := by
          rw [List.length_map]
          exact Nat.le_trans (List.length_filter_le _ _) (by rw [List.length_take]; omega)
        obtain ⟨c0, c1, c2, c3, c4, c5, c6, c7, c8, c9, c10, c11, c12, c13⟩ := paper_cells (w := wr) (b := b) (o := off + k * 14) m.papers[k] (fun i u hu => (hb.cell (p := ⟨b, off + k * 14 + i, none⟩) hbs).trans (hcell k hlt i u hu))
        clear hcell
        have hLf : Hid (leafP m m.papers[k] = (((ins m.papers m.papers[k].pack).length : Int) == 0 && (ofV m.totals m.papers[k].pack).count == 0)) := by show _ = _; rfl
        generalize m.papers[k] = x at *
        have hTo := fun W (h : Below W2.heap.size W2 W) => total_any _ _ m.papers m.totals x.pack W (HP.out.below h) (HT.out.below h) (by omega)
        have hIn := fun W (h : Below W2.heap.size W2 W) => inside_any _ (.slice p2 n2 d2) m.papers m.totals x.pack W (HP.out.below h) ⟨_, _, _, rfl⟩ (by omega)
        have hq0 : (ofP m.totals x.pack).isSome = false → (ofV m.totals x.pack).count = 0 := fun h => by
          rw [Option.isSome_eq_false_iff, Option.isNone_iff_eq_none] at h
          rw [ofV, h]; rfl
        have hil := ins_len m.papers x.pack
        generalize ofV m.totals x.pack = t at *
        generalize (ofP m.totals x.pack).isSome = q at *
        generalize ins m.papers x.pack = il at *
        have HTo : Hid (∀ W, Below W2.heap.size W2 W → Calls Tryz.prog 108 #[.agg #[.slice (some ⟨b, off, none⟩) m.papers.length d1, .slice p2 n2 d2], .int .i64 x.pack] W fun e w' => e = .returned (.tuple #[.agg #[.int .i64 t.id, .int .i64 t.known, .int .u8 t.kind, .int .i64 t.loss, .int .i64 t.pack, .int .i64 t.inn, .string t.mark, .string t.goods, .int .i64 t.lo, .int .i64 t.hi, .int .i64 t.pieces, .int .i64 t.owner, .int .i64 t.count, .int .i64 t.of], .bool q]) ∧ Below W.heap.size W w') := hTo
        have HIn := Lib.hid hIn
        clear hTo hIn
        generalize ((m.papers.take k).filter (leafP m)).map (·.pack) = ls at *
        have hsz := hb.size
        have HO := Lib.hid hown
        have HB := Lib.hid hb
        have y0 := (hb.cell (p := ⟨w1.heap.size, 0, none⟩) (by simp; omega)).trans x0
        have y1 := (hb.cell (p := ⟨w1.heap.size, 1, none⟩) (by simp; omega)).trans x1
        have hlw : w1.heap.size < wr.heap.size := by omega
        clear hown hb
        go_wp2_with fail
        have hBx : Below W2.heap.size W2 (wr.alloc (.cells #[.int .i64 x.id, .int .i64 x.known, .int .u8 x.kind, .int .i64 x.loss, .int .i64 x.pack, .int .i64 x.inn, .string x.mark, .string x.goods, .int .i64 x.lo, .int .i64 x.hi, .int .i64 x.pieces, .int .i64 x.owner, .int .i64 x.count, .int .i64 x.of] 28)) := HB.out.alloc HB.out.size _
        have hBr : Below wr.heap.size wr (wr.alloc (.cells #[.int .i64 x.id, .int .i64 x.known, .int .u8 x.kind, .int .i64 x.loss, .int .i64 x.pack, .int .i64 x.inn, .string x.mark, .string x.goods, .int .i64 x.lo, .int .i64 x.hi, .int .i64 x.pieces, .int .i64 x.owner, .int .i64 x.count, .int .i64 x.of] 28)) := (Below.refl _ wr).alloc (Nat.le_refl _) _
        have hzx : (wr.alloc (.cells #[.int .i64 x.id, .int .i64 x.known, .int .u8 x.kind, .int .i64 x.loss, .int .i64 x.pack, .int .i64 x.inn, .string x.mark, .string x.goods, .int .i64 x.lo, .int .i64 x.hi, .int .i64 x.pieces, .int .i64 x.owner, .int .i64 x.count, .int .i64 x.of] 28)).heap.size = wr.heap.size + 1 := by simp
        have hlx : w1.heap.size < (wr.alloc (.cells #[.int .i64 x.id, .int .i64 x.known, .int .u8 x.kind, .int .i64 x.loss, .int .i64 x.pack, .int .i64 x.inn, .string x.mark, .string x.goods, .int .i64 x.lo, .int .i64 x.hi, .int .i64 x.pieces, .int .i64 x.owner, .int .i64 x.count, .int .i64 x.of] 28)).heap.size := by omega
        have y0 : (wr.alloc (.cells #[.int .i64 x.id, .int .i64 x.known, .int .u8 x.kind, .int .i64 x.loss, .int .i64 x.pack, .int .i64 x.inn, .string x.mark, .string x.goods, .int .i64 x.lo, .int .i64 x.hi, .int .i64 x.pieces, .int .i64 x.owner, .int .i64 x.count, .int .i64 x.of] 28)).cell? ⟨w1.heap.size, 0, none⟩ = some (.slice (some ⟨b, off, none⟩) m.papers.length d1) := by go_simp
        have y1 : (wr.alloc (.cells #[.int .i64 x.id, .int .i64 x.known, .int .u8 x.kind, .int .i64 x.loss, .int .i64 x.pack, .int .i64 x.inn, .string x.mark, .string x.goods, .int .i64 x.lo, .int .i64 x.hi, .int .i64 x.pieces, .int .i64 x.owner, .int .i64 x.count, .int .i64 x.of] 28)).cell? ⟨w1.heap.size, 1, none⟩ = some (.slice p2 n2 d2) := by go_simp
        have y4 : (wr.alloc (.cells #[.int .i64 x.id, .int .i64 x.known, .int .u8 x.kind, .int .i64 x.loss, .int .i64 x.pack, .int .i64 x.inn, .string x.mark, .string x.goods, .int .i64 x.lo, .int .i64 x.hi, .int .i64 x.pieces, .int .i64 x.owner, .int .i64 x.count, .int .i64 x.of] 28)).cell? ⟨wr.heap.size, 4, none⟩ = some (.int .i64 x.pack) := by go_simp
        clear c0 c1 c2 c3 c4 c5 c6 c7 c8 c9 c10 c11 c12 c13
        generalize (wr.alloc (.cells #[.int .i64 x.id, .int .i64 x.known, .int .u8 x.kind, .int .i64 x.loss, .int .i64 x.pack, .int .i64 x.inn, .string x.mark, .string x.goods, .int .i64 x.lo, .int .i64 x.hi, .int .i64 x.pieces, .int .i64 x.owner, .int .i64 x.count, .int .i64 x.of] 28)) = W3 at *
        refine (HTo.out _ hBx).mono ?_
        rintro e w3 ⟨rfl, hb3⟩
        have hB3 := hBx.trans (hb3.mono hBx.size)
        have hz3 := hb3.size
        have z0 := (hb3.cell (p := ⟨w1.heap.size, 0, none⟩) hlx).trans y0
        have z1 := (hb3.cell (p := ⟨w1.heap.size, 1, none⟩) hlx).trans y1
        have z4 := (hb3.cell (p := ⟨wr.heap.size, 4, none⟩) (by simp; omega)).trans y4
        have hlx3 : w1.heap.size < w3.heap.size := by omega
        have hrx3 : wr.heap.size < w3.heap.size := by omega
        clear y0 y1 y4
        go_wp2_with fail
        have hBt : Below W2.heap.size W2 (w3.alloc (.cells #[.int .i64 t.id, .int .i64 t.known, .int .u8 t.kind, .int .i64 t.loss, .int .i64 t.pack, .int .i64 t.inn, .string t.mark, .string t.goods, .int .i64 t.lo, .int .i64 t.hi, .int .i64 t.pieces, .int .i64 t.owner, .int .i64 t.count, .int .i64 t.of] 28)) := hB3.alloc hB3.size _
        have hzt : (w3.alloc (.cells #[.int .i64 t.id, .int .i64 t.known, .int .u8 t.kind, .int .i64 t.loss, .int .i64 t.pack, .int .i64 t.inn, .string t.mark, .string t.goods, .int .i64 t.lo, .int .i64 t.hi, .int .i64 t.pieces, .int .i64 t.owner, .int .i64 t.count, .int .i64 t.of] 28)).heap.size = w3.heap.size + 1 := by simp
        have hBrt : Below wr.heap.size wr (w3.alloc (.cells #[.int .i64 t.id, .int .i64 t.known, .int .u8 t.kind, .int .i64 t.loss, .int .i64 t.pack, .int .i64 t.inn, .string t.mark, .string t.goods, .int .i64 t.lo, .int .i64 t.hi, .int .i64 t.pieces, .int .i64 t.owner, .int .i64 t.count, .int .i64 t.of] 28)) := (hBr.trans (hb3.mono hBr.size)).alloc (by omega) _
        have v4 : (w3.alloc (.cells #[.int .i64 t.id, .int .i64 t.known, .int .u8 t.kind, .int .i64 t.loss, .int .i64 t.pack, .int .i64 t.inn, .string t.mark, .string t.goods, .int .i64 t.lo, .int .i64 t.hi, .int .i64 t.pieces, .int .i64 t.owner, .int .i64 t.count, .int .i64 t.of] 28)).cell? ⟨wr.heap.size, 4, none⟩ = some (.int .i64 x.pack) := by go_simp
        have v12 : (w3.alloc (.cells #[.int .i64 t.id, .int .i64 t.known, .int .u8 t.kind, .int .i64 t.loss, .int .i64 t.pack, .int .i64 t.inn, .string t.mark, .string t.goods, .int .i64 t.lo, .int .i64 t.hi, .int .i64 t.pieces, .int .i64 t.owner, .int .i64 t.count, .int .i64 t.of] 28)).cell? ⟨w3.heap.size, 12, none⟩ = some (.int .i64 t.count) := by go_simp
        clear z0 z1 z4
        generalize (w3.alloc (.cells #[.int .i64 t.id, .int .i64 t.known, .int .u8 t.kind, .int .i64 t.loss, .int .i64 t.pack, .int .i64 t.inn, .string t.mark, .string t.goods, .int .i64 t.lo, .int .i64 t.hi, .int .i64 t.pieces, .int .i64 t.owner, .int .i64 t.count, .int .i64 t.of] 28)) = W4 at *
        refine (HIn.out _ hBt).mono ?_
        rintro e w5 ⟨v5, rfl, ho5, hb5⟩
        have hB5 := hBt.trans (hb5.mono hBt.size)
        have hBr5 := hBrt.trans (hb5.mono hBrt.size)
        have hz5 := hb5.size
        have u4 := (hb5.cell (p := ⟨wr.heap.size, 4, none⟩) (by simp; omega)).trans v4
        have u12 := (hb5.cell (p := ⟨w3.heap.size, 12, none⟩) (by simp; omega)).trans v12
        have HO5 := Lib.hid (ownsRow_below HO.out hBr5)
        obtain ⟨p5, d5, rfl⟩ := own_shape3 ho5
        clear ho5 v4 v12 hb5 hBrt hBr
        have hno : Hid (leafP m x = false → Own3 W2.heap.size w5 u9 (((m.papers.take (k + 1)).filter (leafP m)).map (·.pack))) := fun h => by
          unfold Own3; rw [hT.out, h]; simp only [Bool.false_eq_true, if_false, List.append_nil]; exact HO5.out
        have hil2 : (((il.length : Nat) : Int) == 0) = false ∨ (((il.length : Nat) : Int) == 0) = true := by cases (((il.length : Nat) : Int) == 0) <;> simp
        have HQ := Lib.hid hq0
        clear hq0
        generalize hz : (((il.length : Nat) : Int) == 0) = z at *
        cases z
        · have h9 := hno.out (by rw [hLf.out]; rfl)
          have H9 := Lib.hid h9
          clear h9 hil2
          go_wp2_with fail
          go_roundw
          case rel => exact ⟨k + 1, by omega, by go_num, H9.out, hB5⟩
          case measure => simp [intOf]; omega
        · have hyes : Hid ((t.count == 0) = true → ((m.papers.take (k + 1)).filter (leafP m)).map (·.pack) = ls ++ [x.pack]) := fun h => by rw [hT.out, hLf.out, h]; rfl
          have HHX : Hid (∀ u ∈ [Value.int .i64 x.pack], u.oneCell' = true) := by show ∀ u ∈ _, _; simp [Value.oneCell']
          clear hil2
          cases q
          · have h9 := hyes.out (by rw [HQ.out rfl]; rfl)
            have H9 := Lib.hid h9
            clear h9
            go_wp2_with (at_builtin; go_must (refine wpList_append_own _ rfl _ _ 45 rfl W2.heap.size 3 i0 _ 1 8 Tryz.underlying45 hi hz0 hz1 hz2 rfl (by decide) _ ls.length (ls.flatMap encI) rfl (HO5.out.alloc _) ⟨w5.heap.size, 0, none⟩ 1 1 [.int .i64 x.pack] rfl rfl (by intro j u hu; rw [Addr.add_lit, Nat.zero_add]; cases j with | zero => (simp only [List.getElem?_cons_zero, Option.some.injEq] at hu; subst hu; go_simp) | succ j => (simp at hu)) HHX.out (by unfold maxLen; omega) (by omega) (by simp; omega) ?_; intro v9 w9 hown9 hg9 hnil9; have HO9 := Lib.hid hown9; have HG9 := Lib.hid hg9; clear hown9 hg9 hnil9))
            go_roundw
            case rel =>
              refine ⟨k + 1, by omega, by go_num, ?_, ?_⟩
              · unfold Own3; rw [H9.out, List.flatMap_append, List.length_append]; exact HO9.out
              · exact (hB5.alloc (by omega) _).grown HG9.out (by simp; omega) (fun k hk => (HO5.out.lt k hk).1)
            case measure => simp [intOf]; omega
          · cases g3 : (t.count == 0)
            · have h9 := hno.out (by rw [hLf.out, g3]; rfl)
              have H9 := Lib.hid h9
              clear h9
              go_wp2_with fail
              go_roundw
              case rel => exact ⟨k + 1, by omega, by go_num, H9.out, hB5⟩
              case measure => simp [intOf]; omega
            · have h9 := hyes.out g3
              have H9 := Lib.hid h9
              clear h9
              go_wp2_with (at_builtin; go_must (refine wpList_append_own _ rfl _ _ 45 rfl W2.heap.size 3 i0 _ 1 8 Tryz.underlying45 hi hz0 hz1 hz2 rfl (by decide) _ ls.length (ls.flatMap encI) rfl (HO5.out.alloc _) ⟨w5.heap.size, 0, none⟩ 1 1 [.int .i64 x.pack] rfl rfl (by intro j u hu; rw [Addr.add_lit, Nat.zero_add]; cases j with | zero => (simp only [List.getElem?_cons_zero, Option.some.injEq] at hu; subst hu; go_simp) | succ j => (simp at hu)) HHX.out (by unfold maxLen; omega) (by omega) (by simp; omega) ?_; intro v9 w9 hown9 hg9 hnil9; have HO9 := Lib.hid hown9; have HG9 := Lib.hid hg9; clear hown9 hg9 hnil9))
              go_roundw
              case rel =>
                refine ⟨k + 1, by omega, by go_num, ?_, ?_⟩
                · unfold Own3; rw [H9.out, List.flatMap_append, List.length_append]; exact HO9.out
                · exact (hB5.alloc (by omega) _).grown HG9.out (by simp; omega) (fun k hk => (HO5.out.lt k hk).1)
              case measure => simp [intOf]; omega
      · obtain rfl : k = m.papers.length := by omega
        rw [List.take_of_length_le (Nat.le_refl _)] at hown
        have hsz := hb.size
        have HOW : Own3 w.heap.size wr _ (leavesP m) := owns_mono hown (by omega)
        have HX := Lib.hid HOW
        have hBB := hB1.trans (hb.mono (by omega))
        clear hown hb HOW
        go_wp2_with fail
        go_ret
        exact ⟨_, rfl, by rw [HR.out]; exact HX.out, hBB⟩
  · have HR : Hid (r = []) := by show _ = _; rw [hR.out, if_pos (by simpa using g)]
    obtain ⟨p1, n1, d1, rfl⟩ := own_shape hp1
    obtain ⟨p2, n2, d2, rfl⟩ := own_shape ht1
    clear hR HO
    go_wp2_with fail
    go_ret
    exact ⟨_, rfl, by rw [HR.out]; exact World.ownsRow_nil _ _ _ _, hb1.alloc hb1.size _⟩

end Go.Proofs.YtpffpofdceppiaaGreatDoor
