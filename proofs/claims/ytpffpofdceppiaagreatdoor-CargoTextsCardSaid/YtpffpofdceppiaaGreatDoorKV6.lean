/- A part of the proof that laganlaw01.CargoTexts answers true at every input and leaves its arguments as they were; the conditions are those of the given row and card, nothing else. -/
import Derived.Test.YtpffpofdceppiaaGreatDoorKV3
import Derived.Test.YtpffpofdceppiaaGreatDoorKV1
set_option linter.unusedSimpArgs false
set_option linter.unusedVariables false
namespace Go.Proofs.YtpffpofdceppiaaGreatDoor
open Go.RowKit Go.Shelf

/-- An end of a package by the weights of some Ids. -/
def endP (m : Man) (ids : List Int) (pack : Int) (upper : Bool) : Int × Bool :=
  match solved m.papers m.totals ids false with
  | none => (0, false)
  | some T => (if upper then (T pack).end1 else (T pack).end0, true)

set_option maxRecDepth 100000 in
set_option maxHeartbeats 8000000 in
theorem end_any (vp vt vids : Value) (m : Man) (ids : List Int) (pack : Int) (upper : Bool) (w : World) (hp : PapersAt w vp m.papers) (ht : PapersAt w vt m.totals) (hi : IntsAt w vids ids) (hm : ManOK m.papers m.totals) (hnp : m.papers.length ≤ 201) (hnt : m.totals.length ≤ 201) (hni : ids.length ≤ 100000)
    (htr : treeOK m.papers m.totals = true) (hsb : pack ∈ sub (ins m.papers) (fuel m.papers) 0) (hsk : seek (ins m.papers) (fuel m.papers) 0 pack = true) :
    Calls Tryz.prog 128 #[.agg #[vp, vt], vids, .int .i64 pack, .bool upper] w fun e w' => e = .returned (.tuple #[.int .i64 (endP m ids pack upper).1, .bool (endP m ids pack upper).2]) ∧ Below w.heap.size w w' := by
  have hB0 : Below w.heap.size w (w.alloc (.cells #[vp, vt] 100)) := (Below.refl _ w).alloc (Nat.le_refl _) _
  have hT := Lib.hid (tree_any vp vt vids m.papers m.totals ids false (w.alloc (.cells #[vp, vt] 100)) (hp.below hB0) (ht.below hB0) (hi.below hB0) hm hnp hnt hni)
  have hE : Hid (endP m ids pack upper = match solved m.papers m.totals ids false with
    | none => (0, false)
    | some T => (if upper then (T pack).end1 else (T pack).end0, true)) := by show _ = _; rfl
  generalize endP m ids pack upper = r at *
  obtain ⟨a1, d1, rfl, _⟩ := hp
  obtain ⟨a2, d2, rfl, _⟩ := ht
  obtain ⟨a3, d3, rfl, _⟩ := hi
  have HM := Lib.hid hm
  have HSK := Lib.hid hsk
  have HSB := Lib.hid hsb
  clear hm hsk hsb
  go_enter Tryz.func128, Tryz.ntmps128
  go_wp2_with fail
  generalize (w.alloc (.cells #[.slice a1 m.papers.length d1, .slice a2 m.totals.length d2] 100)) = W0 at *
  refine hT.out.mono ?_
  rintro e w1 ⟨hb1, hres⟩
  rcases hres with ⟨h, _⟩ | ⟨_, A, S, rfl, hTA⟩
  · rw [htr] at h; cases h
  have hsol := Lib.hid (solved_man m.papers m.totals ids false w1 W0.heap.size A S HM.out hnp hTA hb1.size)
  have hB1 := hB0.trans (hb1.mono hB0.size)
  have hlo := Lib.hid hTA.forest.lo
  have hz0 := hB0.size
  clear hT hTA
  go_wp2_with fail
  refine hsol.out.mono ?_
  rintro e w2 ⟨hoff, hres⟩
  have hB2 : Below w.heap.size w w2 := hB1.trans (hoff.below hB1.size (fun p hp => by have := hlo.out p hp; omega))
  clear hsol hoff
  rcases hres with ⟨hno, rfl⟩ | ⟨rfl, S', T, hyes, hS⟩
  · have HR : Hid (r = (0, false)) := by show _ = _; rw [hE.out, hno]
    clear hE hno
    go_wp2_with fail
    go_ret2
    exact ⟨by rw [HR.out]; rfl, hB2⟩
  · have HR : Hid (r = (if upper then (T pack).end1 else (T pack).end0, true)) := by show _ = _; rw [hE.out, hyes]
    have hF := find_any _ _ (ins m.papers) A S' _ pack hS.forest (fun p _ => by have := ins_len m.papers p; omega) (fuel m.papers) 0 HM.out.deep (sub_self HM.out.deep)
    rw [HSK.out] at hF
    have hF : Calls Tryz.prog 102 #[.pointer (some ⟨A 0, 0, none⟩), .int .i64 pack] w2 fun e w' => e = .returned (.pointer (some ⟨A pack, 0, none⟩)) ∧ Below w2.heap.size w2 w' := hF
    have HF := Lib.hid hF
    have hN := Lib.hid (hS.forest.node pack HSB.out)
    have hnu := Lib.hid (nums_iff.1 (hS.eqv pack HSB.out))
    clear hE hyes hF hS
    have hz2 := hB2.size
    cases upper
    all_goals
      go_wp2_with fail
      refine HF.out.mono ?_
      rintro e w3 ⟨rfl, hb3⟩
      have hN3 := hN.out.of_heap (hb3.block _ hN.out.lt)
      have e0 := hN3.end0
      have e1 := hN3.end1
      rw [hnu.out.2.2.2.2.2.2.1] at e0
      rw [hnu.out.2.2.2.2.2.2.2] at e1
      have hB3 := hB2.trans (hb3.mono hz2)
      clear hN3 hb3
      go_wp2_with fail
      go_ret2
      exact ⟨by rw [HR.out]; rfl, hB3⟩

end Go.Proofs.YtpffpofdceppiaaGreatDoor

set_option linter.unusedSimpArgs false
set_option linter.unusedVariables false
namespace Go.Proofs.YtpffpofdceppiaaGreatDoor
open Go.RowKit Go.Shelf

set_option maxRecDepth 100000 in
set_option maxHeartbeats 4000000 in
theorem doubt1_still (bm : Nat) (vp vt : Value) (m : Man) (w : World) (hbm : bm < w.heap.size) (h0 : w.cell? ⟨bm, 0, none⟩ = some vp) (h1 : w.cell? ⟨bm, 1, none⟩ = some vt) (hp : PapersAt w vp m.papers) (ht : PapersAt w vt m.totals) (hm : ManOK m.papers m.totals) (hnp : m.papers.length ≤ 201) (hnt : m.totals.length ≤ 201) (htr : treeOK m.papers m.totals = true) :
    StillAt 120 #[.pointer (some ⟨bm, 0, none⟩)] (fun ids => (solved m.papers m.totals ids false).isNone) w := by
  intro W v ids hb hi hni
  have c0 := (hb.cell (p := ⟨bm, 0, none⟩) hbm).trans h0
  have c1 := (hb.cell (p := ⟨bm, 1, none⟩) hbm).trans h1
  have hT := Lib.hid (tree_any vp vt v m.papers m.totals ids false W (hp.below hb) (ht.below hb) hi hm hnp hnt (by omega))
  obtain ⟨a1, d1, rfl, _⟩ := hp
  obtain ⟨a2, d2, rfl, _⟩ := ht
  obtain ⟨a3, d3, rfl, _⟩ := hi
  have HM := Lib.hid hm
  clear hm h0 h1 hb
  show Calls Tryz.prog 120 #[.slice a3 ids.length d3, .pointer (some ⟨bm, 0, none⟩)] W fun e w' => e = .returned (.bool (solved m.papers m.totals ids false).isNone) ∧ Below W.heap.size W w'
  go_enter Tryz.func120, Tryz.ntmps120
  go_wp2_with fail
  refine hT.out.mono ?_
  rintro e w1 ⟨hb1, hres⟩
  rcases hres with ⟨h, _⟩ | ⟨_, A, S, rfl, hTA⟩
  · rw [htr] at h; cases h
  have hsol := Lib.hid (solved_man m.papers m.totals ids false w1 W.heap.size A S HM.out hnp hTA hb1.size)
  have hlo := Lib.hid hTA.forest.lo
  have hz0 := hb1.size
  clear hT hTA
  go_wp2_with fail
  refine hsol.out.mono ?_
  rintro e w2 ⟨hoff, hres⟩
  have hB2 : Below W.heap.size W w2 := hb1.trans (hoff.below hz0 (fun p hp => by have := hlo.out p hp; omega))
  clear hsol hoff
  rcases hres with ⟨hno, rfl⟩ | ⟨rfl, S', T, hyes, hS⟩
  · have HN := Lib.hid hno
    clear hno
    go_wp2_with fail
    go_ret
    exact ⟨by rw [HN.out]; rfl, hB2⟩
  · have HN := Lib.hid hyes
    clear hyes hS
    go_wp2_with fail
    go_ret
    exact ⟨by rw [HN.out]; rfl, hB2⟩

def lineStill (m : Man) (pack : Int) (upper : Bool) (want : Int) (ids : List Int) : Bool := (endP m ids pack upper).2 && ((endP m ids pack upper).1 == want)

set_option maxRecDepth 100000 in
set_option maxHeartbeats 4000000 in
theorem line1_still (bm bp bu bw : Nat) (vp vt : Value) (m : Man) (pack want : Int) (upper : Bool) (w : World) (hbm : bm < w.heap.size) (hbp : bp < w.heap.size) (hbu : bu < w.heap.size) (hbw : bw < w.heap.size) (h0 : w.cell? ⟨bm, 0, none⟩ = some vp) (h1 : w.cell? ⟨bm, 1, none⟩ = some vt) (h2 : w.cell? ⟨bp, 0, none⟩ = some (.int .i64 pack)) (h3 : w.cell? ⟨bu, 0, none⟩ = some (.bool upper)) (h4 : w.cell? ⟨bw, 0, none⟩ = some (.int .i64 want))
    (hp : PapersAt w vp m.papers) (ht : PapersAt w vt m.totals) (hm : ManOK m.papers m.totals) (hnp : m.papers.length ≤ 201) (hnt : m.totals.length ≤ 201) (htr : treeOK m.papers m.totals = true) (hsb : pack ∈ sub (ins m.papers) (fuel m.papers) 0) (hsk : seek (ins m.papers) (fuel m.papers) 0 pack = true) :
    StillAt 129 #[.pointer (some ⟨bm, 0, none⟩), .pointer (some ⟨bp, 0, none⟩), .pointer (some ⟨bu, 0, none⟩), .pointer (some ⟨bw, 0, none⟩)] (lineStill m pack upper want) w := by
  intro W v ids hb hi hni
  have c0 := (hb.cell (p := ⟨bm, 0, none⟩) hbm).trans h0
  have c1 := (hb.cell (p := ⟨bm, 1, none⟩) hbm).trans h1
  have c2 := (hb.cell (p := ⟨bp, 0, none⟩) hbp).trans h2
  have c3 := (hb.cell (p := ⟨bu, 0, none⟩) hbu).trans h3
  have c4 := (hb.cell (p := ⟨bw, 0, none⟩) hbw).trans h4
  have hbw2 : bw < W.heap.size := Nat.lt_of_lt_of_le hbw hb.size
  have hE := Lib.hid (end_any vp vt v m ids pack upper W (hp.below hb) (ht.below hb) hi hm hnp hnt (by omega) htr hsb hsk)
  have hL : Hid (lineStill m pack upper want ids = ((endP m ids pack upper).2 && ((endP m ids pack upper).1 == want))) := by show _ = _; rfl
  generalize lineStill m pack upper want ids = r at *
  generalize endP m ids pack upper = en at *
  obtain ⟨en1, en2⟩ := en
  obtain ⟨a1, d1, rfl, _⟩ := hp
  obtain ⟨a2, d2, rfl, _⟩ := ht
  obtain ⟨a3, d3, rfl, _⟩ := hi
  clear hm h0 h1 h2 h3 h4 hb hsb hsk
  show Calls Tryz.prog 129 #[.slice a3 ids.length d3, .pointer (some ⟨bm, 0, none⟩), .pointer (some ⟨bp, 0, none⟩), .pointer (some ⟨bu, 0, none⟩), .pointer (some ⟨bw, 0, none⟩)] W fun e w' => e = .returned (.bool r) ∧ Below W.heap.size W w'
  cases en2
  · have HR : Hid (r = false) := by show _ = _; rw [hL.out]; rfl
    go_enter Tryz.func129, Tryz.ntmps129
    go_wp2_with fail
    refine hE.out.mono ?_
    rintro e w1 ⟨rfl, hb1⟩
    clear hE
    go_wp2_with fail
    go_ret
    exact ⟨by rw [HR.out]; rfl, hb1⟩
  · have HR : Hid (r = (en1 == want)) := by show _ = _; rw [hL.out]; rfl
    go_enter Tryz.func129, Tryz.ntmps129
    go_wp2_with fail
    refine hE.out.mono ?_
    rintro e w1 ⟨rfl, hb1⟩
    have d4 := (hb1.cell (p := ⟨bw, 0, none⟩) hbw2).trans c4
    clear hE
    go_wp2_with fail
    go_ret
    exact ⟨by rw [HR.out]; rfl, hb1⟩

def lineageP (l : List Paper) (known loss pack : Int) (upper : Bool) : List Int × Int :=
  if weighedE l known loss (hasP pack) ≠ 0 then ([], weighedE l known loss (hasP pack)) else
    (leftS (lineStill (opened l known loss).1 pack upper (endP (opened l known loss).1 (idsP (opened l known loss).1 l) pack upper).1) (idsP (opened l known loss).1 l), 0)

set_option maxRecDepth 100000 in
set_option maxHeartbeats 8000000 in
theorem Lineage_any (v : Value) (l : List Paper) (known loss pack : Int) (upper : Bool) (w : World) (hv : PapersAt w v l) (hn : l.length ≤ 1000) (hs : ∀ x ∈ l, okS x) :
    Calls Tryz.prog 54 #[v, .int .i64 known, .int .i64 loss, .int .i64 pack, .bool upper] w fun e w' => ∃ v', e = .returned (.tuple #[v', .int .i64 (lineageP l known loss pack upper).2]) ∧ Own3 w.heap.size w' v' (lineageP l known loss pack upper).1 ∧ Below w.heap.size w w' := by
  have hmf : ∀ (fn : Fn) (first cap : Array Value) (w : World), (Instr.makeFunc fn first cap).run Tryz.prog w = .ok (.func fn first cap) w := fun _ _ _ _ => rfl
  have hW0 : ∃ W0, W0 = ((w.alloc (.cells #[.int .i64 pack] 3)).alloc (.cells #[.bool upper] 4)).alloc (.cells #[.int .i64 pack] 3) := ⟨_, rfl⟩
  obtain ⟨W0, hW0⟩ := hW0
  have hB0 : Below w.heap.size w W0 := by rw [hW0]; exact (((Below.refl _ w).alloc (Nat.le_refl _) _).alloc (by simp) _).alloc (by simp; omega) _
  have hs0 : W0.heap.size = w.heap.size + 1 + 1 + 1 := by rw [hW0]; simp
  have hc0 : W0.cell? ⟨w.heap.size, 0, none⟩ = some (.int .i64 pack) := by rw [hW0]; go_simp
  have hc1 : W0.cell? ⟨w.heap.size + 1, 0, none⟩ = some (.bool upper) := by rw [hW0]; go_simp
  have hc2 : W0.cell? ⟨w.heap.size + 1 + 1, 0, none⟩ = some (.int .i64 pack) := by rw [hW0]; go_simp
  have hWe := Lib.hid (weighed_any v l known loss 162 #[.pointer (some ⟨w.heap.size + 1 + 1, 0, none⟩)] (hasP pack) W0 (hv.below hB0) hn hs (enters_of Tryz.func162 (by kernel_rfl) rfl)
    (fun W hb => has1_pred pack (w.heap.size + 1 + 1) W (by have := hb.size; omega) ((hb.cell (p := ⟨w.heap.size + 1 + 1, 0, none⟩) (by simp; omega)).trans hc2)))
  have hP : Hid (lineageP l known loss pack upper = if weighedE l known loss (hasP pack) ≠ 0 then ([], weighedE l known loss (hasP pack)) else
    (leftS (lineStill (opened l known loss).1 pack upper (endP (opened l known loss).1 (idsP (opened l known loss).1 l) pack upper).1) (idsP (opened l known loss).1 l), 0)) := by show _ = _; rfl
  have hZ : Hid (weighedE l known loss (hasP pack) = 0 → ManOK (opened l known loss).1.papers (opened l known loss).1.totals ∧ treeOK (opened l known loss).1.papers (opened l known loss).1.totals = true ∧ pack ∈ sub (ins (opened l known loss).1.papers) (fuel (opened l known loss).1.papers) 0 ∧ seek (ins (opened l known loss).1.papers) (fuel (opened l known loss).1.papers) 0 pack = true) := fun h => by
    obtain ⟨h1, h2, h3⟩ := rootedE_zero (weighedE_zero h)
    have hm := opened_ok l known loss h1
    exact ⟨hm, h3, seek_pack hm h3 h2⟩
  have hL := opened_len l known loss
  have hIL := idsP_len (opened l known loss).1 l
  generalize lineageP l known loss pack upper = r at *
  generalize weighedE l known loss (hasP pack) = we at *
  generalize (opened l known loss).1 = m at *
  obtain ⟨hL1, hL2⟩ := hL
  have HV := Lib.hid hv
  obtain ⟨a1, cc, rfl, _⟩ := hv
  have HW0 := Lib.hid hW0
  clear hW0
  go_enter Tryz.func54, Tryz.ntmps54
  go_wp2_with (go_at_call 95; refine (has_any _ _).mono ?_; rintro e w' ⟨rfl, rfl⟩)
  rw [← HW0.out]
  refine hWe.out.mono ?_
  rintro e w1 ⟨vp, vt, np, rfl, hp1, ht1, hb1, hsol⟩
  obtain ⟨b1, m1, d1, rfl⟩ := own_shape hp1
  obtain ⟨b2, m2, d2, rfl⟩ := own_shape ht1
  have hl1 := hb1.size
  have hb2 : Below W0.heap.size W0 (w1.alloc (.cells #[.slice b1 m1 d1, .slice b2 m2 d2] 100)) := hb1.alloc hb1.size _
  have hB2 := hB0.trans (hb2.mono hB0.size)
  cases g : (we != 0)
  · have hw0 : we = 0 := by simpa using g
    obtain ⟨hman, htr, hsb, hsk⟩ := hZ.out hw0
    obtain ⟨A, S, T, rfl, _, _⟩ := hsol hw0
    have hR : Hid (r = (leftS (lineStill m pack upper (endP m (idsP m l) pack upper).1) (idsP m l), 0)) := by show _ = _; rw [hP.out, if_neg (by omega)]
    have hp2 := Rows.of_owns vals_len (hp1.alloc (.cells #[.slice b1 m1 d1, .slice b2 m2 d2] 100))
    have ht2 := Rows.of_owns vals_len (ht1.alloc (.cells #[.slice b1 m1 d1, .slice b2 m2 d2] 100))
    have x0 : (w1.alloc (.cells #[.slice b1 m1 d1, .slice b2 m2 d2] 100)).cell? ⟨w1.heap.size, 0, none⟩ = some (.slice b1 m1 d1) := by go_simp
    have x1 : (w1.alloc (.cells #[.slice b1 m1 d1, .slice b2 m2 d2] 100)).cell? ⟨w1.heap.size, 1, none⟩ = some (.slice b2 m2 d2) := by go_simp
    have hs2 : (w1.alloc (.cells #[.slice b1 m1 d1, .slice b2 m2 d2] 100)).heap.size = w1.heap.size + 1 := by simp
    have q0 := (hb2.cell (p := ⟨w.heap.size, 0, none⟩) (by simp; omega)).trans hc0
    have q1 := (hb2.cell (p := ⟨w.heap.size + 1, 0, none⟩) (by simp; omega)).trans hc1
    have HP := Lib.hid hp2
    have HTt := Lib.hid ht2
    have HM := Lib.hid (And.intro hman (And.intro htr (And.intro hsb hsk)))
    clear hsol hZ hP hp1 ht1 hp2 ht2 hb1 hb2 hman htr hsb hsk hWe hc0 hc1 hc2
    go_upto_region 4 with fail
    generalize w1.alloc (.cells #[.slice b1 m1 d1, .slice b2 m2 d2] 100) = W2 at *
    have hId := Lib.hid (ids_any _ _ _ m l W2 HP.out HTt.out (HV.out.below hB2) hL1 hL2 hn)
    go_wp2_with fail
    refine hId.out.mono ?_
    rintro e w3 ⟨v3, rfl, ho3, hb3⟩
    have hz3 := hb3.size
    have y0 := (hb3.cell (p := ⟨w1.heap.size, 0, none⟩) (by simp; omega)).trans x0
    have y1 := (hb3.cell (p := ⟨w1.heap.size, 1, none⟩) (by simp; omega)).trans x1
    have z0 := (hb3.cell (p := ⟨w.heap.size, 0, none⟩) (by simp; omega)).trans q0
    have z1 := (hb3.cell (p := ⟨w.heap.size + 1, 0, none⟩) (by simp; omega)).trans q1
    have hEn := Lib.hid (end_any _ _ v3 m (idsP m l) pack upper w3 (HP.out.below hb3) (HTt.out.below hb3) (Rows.of_owns encI_len ho3) HM.out.1 hL1 hL2 (by omega) HM.out.2.1 HM.out.2.2.1 HM.out.2.2.2)
    have HO3 := Lib.hid ho3
    have HB3 := Lib.hid hb3
    generalize idsP m l = all at *
    generalize endP m all pack upper = en at *
    obtain ⟨en1, en2⟩ := en
    obtain ⟨p3, d3, rfl⟩ := own_shape3 ho3
    clear ho3 hb3 hId x0 x1 q0 q1
    go_wp2_with fail
    refine hEn.out.mono ?_
    rintro e w4 ⟨rfl, hb4⟩
    have hz4 := hb4.size
    have hB34 : Below W2.heap.size W2 (w4.alloc (.cells #[.int .i64 en1] 3)) := (HB3.out.trans (hb4.mono hz3)).alloc (by omega) _
    have hb5 : Below w3.heap.size w3 (w4.alloc (.cells #[.int .i64 en1] 3)) := hb4.alloc hz4 _
    have t0 := (hb5.cell (p := ⟨w1.heap.size, 0, none⟩) (by simp; omega)).trans y0
    have t1 := (hb5.cell (p := ⟨w1.heap.size, 1, none⟩) (by simp; omega)).trans y1
    have t2 := (hb5.cell (p := ⟨w.heap.size, 0, none⟩) (by simp; omega)).trans z0
    have t3 := (hb5.cell (p := ⟨w.heap.size + 1, 0, none⟩) (by simp; omega)).trans z1
    have t4 : (w4.alloc (.cells #[.int .i64 en1] 3)).cell? ⟨w4.heap.size, 0, none⟩ = some (.int .i64 en1) := by go_simp
    have ts : (w4.alloc (.cells #[.int .i64 en1] 3)).heap.size = w4.heap.size + 1 := by simp
    have hB4 : Below w.heap.size w (w4.alloc (.cells #[.int .i64 en1] 3)) := hB2.trans (hB34.mono (by omega))
    have hSt := Lib.hid (line1_still w1.heap.size w.heap.size (w.heap.size + 1) w4.heap.size _ _ m pack en1 upper (w4.alloc (.cells #[.int .i64 en1] 3)) (by omega) (by omega) (by omega) (by omega) t0 t1 t2 t3 t4 (HP.out.below hB34) (HTt.out.below hB34) HM.out.1 hL1 hL2 HM.out.2.1 HM.out.2.2.1 HM.out.2.2.2)
    have hLe := Lib.hid (left_any (.slice p3 all.length d3) all 129 #[.pointer (some ⟨w1.heap.size, 0, none⟩), .pointer (some ⟨w.heap.size, 0, none⟩), .pointer (some ⟨w.heap.size + 1, 0, none⟩), .pointer (some ⟨w4.heap.size, 0, none⟩)] (lineStill m pack upper en1) W2.heap.size (w4.alloc (.cells #[.int .i64 en1] 3)) (ownsRow_below HO3.out hb5) (by omega) (by omega) (enters_of Tryz.func129 (by kernel_rfl) rfl) hSt.out)
    clear hEn y0 y1 z0 z1 t0 t1 t2 t3 t4 hb4 hb5 hB34 hSt
    go_wp2_with fail
    refine hLe.out.mono ?_
    rintro e w6 ⟨v6, rfl, ho6, hb6⟩
    have hB6 := hB4.trans (hb6.mono hB4.size)
    have hz6 := hB4.size
    have HO6 : Own3 w.heap.size w6 v6 (leftS (lineStill m pack upper en1) all) := owns_mono ho6 hz6
    have HX := Lib.hid HO6
    obtain ⟨p6, d6, rfl⟩ := own_shape3 ho6
    clear hLe ho6 HO6 hb6
    go_wp2_with fail
    go_ret2
    exact ⟨_, by rw [hR.out]; rfl, by rw [hR.out]; exact HX.out, hB6⟩
  · have hR : Hid (r = ([], we)) := by show _ = _; rw [hP.out, if_pos (by simpa using g)]
    clear hsol hZ hP hb1 hb2
    go_upto_region 3 with fail
    generalize w1.alloc (.cells #[.slice b1 m1 d1, .slice b2 m2 d2] 100) = W2 at *
    go_wp2_with fail
    go_ret2
    exact ⟨_, by rw [hR.out]; rfl, by rw [hR.out]; exact World.ownsRow_nil _ _ _ _, hB2⟩

end Go.Proofs.YtpffpofdceppiaaGreatDoor

set_option linter.unusedSimpArgs false
set_option linter.unusedVariables false
namespace Go.Proofs.YtpffpofdceppiaaGreatDoor
open Go.RowKit Go.Shelf

def doubtP (l : List Paper) (known loss : Int) : List Int × Bool × Int :=
  if rootedE l known loss (fun _ => true) ≠ 0 then ([], false, rootedE l known loss (fun _ => true)) else
    if (solved (opened l known loss).1.papers (opened l known loss).1.totals [] true).isSome then ([], false, 0) else
      (leftS (fun ids => (solved (opened l known loss).1.papers (opened l known loss).1.totals ids false).isNone) (idsP (opened l known loss).1 l), true, 0)

set_option maxRecDepth 100000 in
set_option maxHeartbeats 8000000 in
theorem Doubt_any (v : Value) (l : List Paper) (known loss : Int) (w : World) (hv : PapersAt w v l) (hn : l.length ≤ 1000) (hs : ∀ x ∈ l, okS x) :
    Calls Tryz.prog 50 #[v, .int .i64 known, .int .i64 loss] w fun e w' => ∃ v', e = .returned (.tuple #[v', .bool (doubtP l known loss).2.1, .int .i64 (doubtP l known loss).2.2]) ∧ Own3 w.heap.size w' v' (doubtP l known loss).1 ∧ Below w.heap.size w w' := by
  have hmf : ∀ (fn : Fn) (first cap : Array Value) (w : World), (Instr.makeFunc fn first cap).run Tryz.prog w = .ok (.func fn first cap) w := fun _ _ _ _ => rfl
  have hRo := Lib.hid (rooted_any v l known loss 115 #[] (fun _ => true) w hv hn hs (enters_of Tryz.func115 (by kernel_rfl) rfl) (always_pred w))
  have hP : Hid (doubtP l known loss = if rootedE l known loss (fun _ => true) ≠ 0 then ([], false, rootedE l known loss (fun _ => true)) else
    if (solved (opened l known loss).1.papers (opened l known loss).1.totals [] true).isSome then ([], false, 0) else
      (leftS (fun ids => (solved (opened l known loss).1.papers (opened l known loss).1.totals ids false).isNone) (idsP (opened l known loss).1 l), true, 0)) := by show _ = _; rfl
  have hZ : Hid (rootedE l known loss (fun _ => true) = 0 → ManOK (opened l known loss).1.papers (opened l known loss).1.totals ∧ treeOK (opened l known loss).1.papers (opened l known loss).1.totals = true) := fun h => by
    obtain ⟨h1, h2, h3⟩ := rootedE_zero h
    exact ⟨opened_ok l known loss h1, h3⟩
  have hL := opened_len l known loss
  have hIL := idsP_len (opened l known loss).1 l
  generalize doubtP l known loss = r at *
  generalize rootedE l known loss (fun _ => true) = we at *
  generalize (opened l known loss).1 = m at *
  obtain ⟨hL1, hL2⟩ := hL
  have HV := Lib.hid hv
  obtain ⟨a1, cc, rfl, _⟩ := hv
  go_enter Tryz.func50, Tryz.ntmps50
  go_wp2_with fail
  refine hRo.out.mono ?_
  rintro e w1 ⟨vp, vt, np, rfl, hp1, ht1, hb1, hsol⟩
  obtain ⟨b1, m1, d1, rfl⟩ := own_shape hp1
  obtain ⟨b2, m2, d2, rfl⟩ := own_shape ht1
  have hl1 := hb1.size
  have hB2 : Below w.heap.size w (w1.alloc (.cells #[.slice b1 m1 d1, .slice b2 m2 d2] 100)) := hb1.alloc hb1.size _
  cases g : (we != 0)
  · have hw0 : we = 0 := by simpa using g
    obtain ⟨hman, htr⟩ := hZ.out hw0
    rcases hsol with ⟨h, _⟩ | ⟨_, A, S, rfl, hT⟩
    · exact absurd hw0 h
    have hR : Hid (r = if (solved m.papers m.totals [] true).isSome then ([], false, 0) else (leftS (fun ids => (solved m.papers m.totals ids false).isNone) (idsP m l), true, 0)) := by show _ = _; rw [hP.out, if_neg (by omega)]
    have hT2 := hT.below (w' := w1.alloc (.cells #[.slice b1 m1 d1, .slice b2 m2 d2] 100)) (fun k hk => Below.heap_alloc _ _ _ hk)
    have hp2' := hp1.alloc (.cells #[.slice b1 m1 d1, .slice b2 m2 d2] 100)
    have ht2' := ht1.alloc (.cells #[.slice b1 m1 d1, .slice b2 m2 d2] 100)
    have x0 : (w1.alloc (.cells #[.slice b1 m1 d1, .slice b2 m2 d2] 100)).cell? ⟨w1.heap.size, 0, none⟩ = some (.slice b1 m1 d1) := by go_simp
    have x1 : (w1.alloc (.cells #[.slice b1 m1 d1, .slice b2 m2 d2] 100)).cell? ⟨w1.heap.size, 1, none⟩ = some (.slice b2 m2 d2) := by go_simp
    have hs2 : (w1.alloc (.cells #[.slice b1 m1 d1, .slice b2 m2 d2] 100)).heap.size = w1.heap.size + 1 := by simp
    have hnt : Hid (∀ p ∈ sub (ins m.papers) (fuel m.papers) 0, w1.heap.size ≠ A p) := fun p hp e => by have := (hT.forest.node p hp).lt; omega
    have HM := Lib.hid (And.intro hman htr)
    have HP2 := Lib.hid hp2'
    have HT2 := Lib.hid ht2'
    have hsv := Lib.hid (fun h => solved_man m.papers m.totals [] true (w1.alloc (.cells #[.slice b1 m1 d1, .slice b2 m2 d2] 100)) w.heap.size A S hman hL1 hT2 h)
    have hTF := Lib.hid hT2.forest
    clear hZ hP hp1 ht1 hb1 hT hT2 hman htr hp2' ht2' hRo
    go_upto_region 2 with fail
    generalize w1.alloc (.cells #[.slice b1 m1 d1, .slice b2 m2 d2] 100) = W2 at *
    go_wp2_with fail
    refine (hsv.out (by omega)).mono ?_
    rintro e w3 ⟨hoff, hres⟩
    have hB3 : Below w.heap.size w w3 := hB2.trans (hoff.below (by omega) (fun p hp => hTF.out.lo p hp))
    have y0 := (World.cell?_of_block (w := W2) (hoff.block w1.heap.size (by omega) hnt.out)).trans x0
    have y1 := (World.cell?_of_block (w := W2) (hoff.block w1.heap.size (by omega) hnt.out)).trans x1
    have HP3 := Lib.hid (Rows.of_owns vals_len (hoff.row hTF.out HP2.out (by decide)))
    have HT3 := Lib.hid (Rows.of_owns vals_len (hoff.row hTF.out HT2.out (by decide)))
    have hz3 : W2.heap.size ≤ w3.heap.size := hoff.size
    clear hsv hoff x0 x1
    rcases hres with ⟨hno, rfl⟩ | ⟨rfl, S', T, hyes, hS⟩
    · have hR2 : Hid (r = (leftS (fun ids => (solved m.papers m.totals ids false).isNone) (idsP m l), true, 0)) := by show _ = _; rw [hR.out, hno]; rfl
      have hId := Lib.hid (ids_any _ _ _ m l w3 HP3.out HT3.out (HV.out.below hB3) hL1 hL2 hn)
      clear hno hR
      go_wp2_with fail
      refine hId.out.mono ?_
      rintro e w4 ⟨v4, rfl, ho4, hb4⟩
      have hz4 := hb4.size
      have hB4 := hB3.trans (hb4.mono (by omega))
      have z0 := (hb4.cell (p := ⟨w1.heap.size, 0, none⟩) (by simp; omega)).trans y0
      have z1 := (hb4.cell (p := ⟨w1.heap.size, 1, none⟩) (by simp; omega)).trans y1
      have hSt := Lib.hid (doubt1_still w1.heap.size _ _ m w4 (by omega) z0 z1 (HP3.out.below hb4) (HT3.out.below hb4) HM.out.1 hL1 hL2 HM.out.2)
      have hLe := Lib.hid (left_any v4 (idsP m l) 120 #[.pointer (some ⟨w1.heap.size, 0, none⟩)] _ w3.heap.size w4 ho4 (by omega) (by omega) (enters_of Tryz.func120 (by kernel_rfl) rfl) hSt.out)
      generalize idsP m l = all at *
      obtain ⟨p4, d4, rfl⟩ := own_shape3 ho4
      clear ho4 hb4 hId y0 y1 z0 z1 hSt
      go_wp2_with fail
      refine hLe.out.mono ?_
      rintro e w6 ⟨v6, rfl, ho6, hb6⟩
      have hB6 := hB4.trans (hb6.mono hB4.size)
      have hz6 := hB4.size
      have HO6 : Own3 w.heap.size w6 v6 (leftS (fun ids => (solved m.papers m.totals ids false).isNone) all) := owns_mono ho6 hz6
      have HX := Lib.hid HO6
      obtain ⟨p6, d6, rfl⟩ := own_shape3 ho6
      clear hLe ho6 HO6 hb6
      go_wp2_with fail
      go_ret3
      exact ⟨_, by rw [hR2.out]; rfl, by rw [hR2.out]; exact HX.out, hB6⟩
    · have hR2 : Hid (r = ([], false, 0)) := by show _ = _; rw [hR.out, hyes]; rfl
      clear hyes hS hR
      go_wp2_with fail
      go_ret3
      exact ⟨_, by rw [hR2.out]; rfl, by rw [hR2.out]; exact World.ownsRow_nil _ _ _ _, hB3⟩
  · have hR : Hid (r = ([], false, we)) := by show _ = _; rw [hP.out, if_pos (by simpa using g)]
    clear hsol hZ hP hb1
    go_upto_region 2 with fail
    generalize w1.alloc (.cells #[.slice b1 m1 d1, .slice b2 m2 d2] 100) = W2 at *
    go_wp2_with fail
    go_ret3
    exact ⟨_, by rw [hR.out]; rfl, by rw [hR.out]; exact World.ownsRow_nil _ _ _ _, hB2⟩

end Go.Proofs.YtpffpofdceppiaaGreatDoor
