/- A part of the proof that laganlaw01.CargoTexts answers true at every input and leaves its arguments as they were; the conditions are those of the given row and card, nothing else. -/
import Derived.Test.YtpffpofdceppiaaGreatDoorKW5
import Derived.Test.YtpffpofdceppiaaGreatDoorKI1
import Derived.Test.YtpffpofdceppiaaGreatDoorKP4
import Derived.Deep.RegionHeld3
import Derived.Deep.Cut
set_option linter.unusedSimpArgs false
set_option linter.unusedVariables false
namespace Go.Proofs.YtpffpofdceppiaaGreatDoor
open Go.RowKit Go.Shelf

theorem has1_call (pack : Int) (B : Nat) (W : World) (hB : B < W.heap.size) (hc : W.cell? ⟨B, 0, none⟩ = some (.int .i64 pack)) (vp vt : Value) (m : Man) (hp : PapersAt W vp m.papers) (ht : PapersAt W vt m.totals) (h1 : m.papers.length ≤ 201) (h2 : m.totals.length ≤ 201) :
    Calls Tryz.prog 162 #[.agg #[vp, vt], .pointer (some ⟨B, 0, none⟩)] W fun e w' => e = .returned (.bool (hasP pack m)) ∧ Below W.heap.size W w' :=
  has1_pred pack B W hB hc W vp vt m (Below.refl _ _) hp ht h1 h2

theorem has_call (pack : Int) (W : World) : Calls Tryz.prog 95 #[.int .i64 pack] W fun e w' => e = .returned (.func (.func 162) #[] #[.pointer (some ⟨W.heap.size, 0, none⟩)]) ∧ w'.cell? ⟨W.heap.size, 0, none⟩ = some (.int .i64 pack) ∧ W.heap.size < w'.heap.size ∧ Below W.heap.size W w' :=
  (has_any pack W).mono fun e w' h => ⟨h.1, by rw [h.2]; go_simp, by rw [h.2]; simp, by rw [h.2]; exact (Below.refl _ W).alloc (Nat.le_refl _) _⟩

def missP (pack : Int) : Man → Bool := fun m => pack == 0 || hasP pack m

set_option maxRecDepth 100000 in
set_option maxHeartbeats 4000000 in
theorem miss1_pred (pack : Int) (B : Nat) (w : World) (hB : B < w.heap.size) (hc : w.cell? ⟨B, 0, none⟩ = some (.int .i64 pack)) : PredM 101 #[.pointer (some ⟨B, 0, none⟩)] (missP pack) w := fun W vp vt m hb hp ht hl1 hl2 => by
  change Calls _ _ _ _ (fun e w' => e = .returned (.bool (missP pack m)) ∧ Below W.heap.size W w')
  have c0 : W.cell? ⟨B, 0, none⟩ = some (.int .i64 pack) := (hb.cell (p := ⟨B, 0, none⟩) hB).trans hc
  have hBW : B < W.heap.size := Nat.lt_of_lt_of_le hB hb.size
  have HPa := Lib.hid (fun W' (h : Below W.heap.size W W') B' (h1 : B' < W'.heap.size) (h2 : W'.cell? ⟨B', 0, none⟩ = some (.int .i64 pack)) => has1_call pack B' W' h1 h2 vp vt m (hp.below h) (ht.below h) hl1 hl2)
  have HM : Hid (missP pack m = (pack == 0 || hasP pack m)) := by show _ = _; rfl
  obtain ⟨a1, c1, rfl, _⟩ := hp
  obtain ⟨a2, c2, rfl, _⟩ := ht
  generalize missP pack m = r at *
  generalize hasP pack m = q at *
  have hB0 : Below W.heap.size W (W.alloc (.cells #[.slice a1 m.papers.length c1, .slice a2 m.totals.length c2] 100)) := (Below.refl _ W).alloc (Nat.le_refl _) _
  have d0 : (W.alloc (.cells #[.slice a1 m.papers.length c1, .slice a2 m.totals.length c2] 100)).cell? ⟨B, 0, none⟩ = some (.int .i64 pack) := (hB0.cell (p := ⟨B, 0, none⟩) hBW).trans c0
  have d1 : (W.alloc (.cells #[.slice a1 m.papers.length c1, .slice a2 m.totals.length c2] 100)).cell? ⟨W.heap.size, 0, none⟩ = some (.slice a1 m.papers.length c1) := by go_simp
  have d2 : (W.alloc (.cells #[.slice a1 m.papers.length c1, .slice a2 m.totals.length c2] 100)).cell? ⟨W.heap.size, 1, none⟩ = some (.slice a2 m.totals.length c2) := by go_simp
  have dz : (W.alloc (.cells #[.slice a1 m.papers.length c1, .slice a2 m.totals.length c2] 100)).heap.size = W.heap.size + 1 := by simp
  clear hc hb c0
  show Calls Tryz.prog 101 #[.agg #[.slice a1 m.papers.length c1, .slice a2 m.totals.length c2], .pointer (some ⟨B, 0, none⟩)] W _
  cases g : (pack == 0)
  · have HR : Hid (r = q) := by show _ = _; rw [HM.out, g]; rfl
    go_enter Tryz.func101, Tryz.ntmps101
    go_wp2_with fail
    generalize (W.alloc (.cells #[.slice a1 m.papers.length c1, .slice a2 m.totals.length c2] 100)) = W0 at *
    have hB1 : B < W0.heap.size := by omega
    have hst : Hid (∀ w', w'.cell? ⟨W0.drew.heap.size, 0, none⟩ = some (.int .i64 pack) → W0.drew.heap.size < w'.heap.size → Below W0.drew.heap.size W0.drew w' → w'.cell? ⟨B, 0, none⟩ = some (.int .i64 pack) ∧ w'.cell? ⟨W.heap.size, 0, none⟩ = some (.slice a1 m.papers.length c1) ∧ w'.cell? ⟨W.heap.size, 1, none⟩ = some (.slice a2 m.totals.length c2) ∧ Below W.heap.size W w' ∧
        Hid (Calls Tryz.prog 162 #[.agg #[.slice a1 m.papers.length c1, .slice a2 m.totals.length c2], .pointer (some ⟨W.heap.size + 1, 0, none⟩)] w' fun e w'' => e = .returned (.bool q) ∧ Below w'.heap.size w' w'') ∧ B < w'.heap.size ∧ W.heap.size < w'.heap.size) := fun w' k0 k1 k2 => by
      have hWW : W.heap.size < W0.drew.heap.size := by show W.heap.size < W0.heap.size; omega
      have hBB : B < W0.drew.heap.size := hB1
      have q3 := keepB hB0.drew k2
      have h9 := HPa.out _ q3 _ k1 k0
      rw [show W0.drew.heap.size = W.heap.size + 1 from dz] at h9
      exact ⟨keepS k2 hBB d0, keepS k2 hWW d1, keepS k2 hWW d2, q3, h9, keepL hBB k2, keepL hWW k2⟩
    go_region_held3 (fun V => V.cell? ⟨B, 0, none⟩ = some (.int .i64 pack) ∧ V.cell? ⟨W.heap.size, 0, none⟩ = some (.slice a1 m.papers.length c1) ∧ V.cell? ⟨W.heap.size, 1, none⟩ = some (.slice a2 m.totals.length c2) ∧ Below W.heap.size W V) (first | exact ⟨d0, d1, d2, hB0.drew⟩ | exact ⟨q0, q1, q2, q3⟩ | exact ⟨t0, t1, t2, t3⟩ | (trace_state; fail)) (first
      | (go_at_call 95; refine (has_call pack _).mono ?_; rintro e w' ⟨rfl, k0, k1, k2⟩; obtain ⟨q0, q1, q2, q3, q4, q5, q6⟩ := hst.out w' k0 k1 k2; clear k0 k1 k2)
      | (go_at_call 162; refine q4.out.mono ?_; rintro e w'' ⟨rfl, k3⟩; have t0 := keepS k3 q5 q0; have t1 := keepS k3 q6 q1; have t2 := keepS k3 q6 q2; have t3 := keepB q3 k3))
    go_wp2_with fail
    go_ret
    exact ⟨by rw [HR.out]; rfl, by first | assumption | exact t3⟩
  · have HR : Hid (r = true) := by show _ = _; rw [HM.out, g]; rfl
    go_enter Tryz.func101, Tryz.ntmps101
    go_wp2_with fail
    go_quiet (fail)
    go_wp2_with fail
    go_ret
    exact ⟨by rw [HR.out]; rfl, by first | exact hB0 | exact hB0.drew | exact below_drewN hB0 _⟩

def missingP (l : List Paper) (known loss pack : Int) : Int × Int :=
  if rootedE l known loss (missP pack) ≠ 0 then (0, rootedE l known loss (missP pack)) else (missOf (opened l known loss).1.papers (opened l known loss).1.totals pack, 0)

set_option maxRecDepth 100000 in
set_option maxHeartbeats 8000000 in
theorem Missing_any (v : Value) (l : List Paper) (known loss pack : Int) (w : World) (hv : PapersAt w v l) (hn : l.length ≤ 1000) (hs : ∀ x ∈ l, okS x) :
    Calls Tryz.prog 38 #[v, .int .i64 known, .int .i64 loss, .int .i64 pack] w fun e w' => e = .returned (.tuple #[.int .i64 (missingP l known loss pack).1, .int .i64 (missingP l known loss pack).2]) ∧ Below w.heap.size w w' := by
  have hmf : ∀ (fn : Fn) (first cap : Array Value) (w : World), (Instr.makeFunc fn first cap).run Tryz.prog w = .ok (.func fn first cap) w := fun _ _ _ _ => rfl
  have hB0 : Below w.heap.size w (w.alloc (.cells #[.int .i64 pack] 3)) := (Below.refl _ w).alloc (Nat.le_refl _) _
  have hs0 : (w.alloc (.cells #[.int .i64 pack] 3)).heap.size = w.heap.size + 1 := by simp
  have hc0 : (w.alloc (.cells #[.int .i64 pack] 3)).cell? ⟨w.heap.size, 0, none⟩ = some (.int .i64 pack) := by go_simp
  have hRo := Lib.hid (rooted_any v l known loss 101 #[.pointer (some ⟨w.heap.size, 0, none⟩)] (missP pack) (w.alloc (.cells #[.int .i64 pack] 3)) (hv.below hB0) hn hs (enters_of Tryz.func101 (by kernel_rfl) rfl)
    (miss1_pred pack w.heap.size (w.alloc (.cells #[.int .i64 pack] 3)) (by omega) hc0))
  have hP : Hid (missingP l known loss pack = if rootedE l known loss (missP pack) ≠ 0 then (0, rootedE l known loss (missP pack)) else (missOf (opened l known loss).1.papers (opened l known loss).1.totals pack, 0)) := by show _ = _; rfl
  have hZ : Hid (rootedE l known loss (missP pack) = 0 → ManOK (opened l known loss).1.papers (opened l known loss).1.totals ∧ (pack ≠ 0 → pack ∈ sub (ins (opened l known loss).1.papers) (fuel (opened l known loss).1.papers) 0 ∧ seek (ins (opened l known loss).1.papers) (fuel (opened l known loss).1.papers) 0 pack = true)) := fun h => by
    obtain ⟨h1, h2, h3⟩ := rootedE_zero h
    have hm := opened_ok l known loss h1
    refine ⟨hm, fun hne => seek_pack hm h3 ?_⟩
    unfold missP at h2
    rw [Bool.or_eq_true] at h2
    rcases h2 with h2 | h2
    · exact absurd (by simpa using h2) hne
    · exact h2
  have hL := (opened_len l known loss).1
  generalize missingP l known loss pack = r at *
  generalize rootedE l known loss (missP pack) = we at *
  generalize (opened l known loss).1 = m at *
  obtain ⟨a1, cc, rfl, _⟩ := hv
  go_enter Tryz.func38, Tryz.ntmps38
  go_wp2_with fail
  generalize (w.alloc (.cells #[.int .i64 pack] 3)) = W0 at *
  refine hRo.out.mono ?_
  rintro e w1 ⟨vp, vt, np, rfl, hp1, ht1, hb1, hsol⟩
  obtain ⟨b1, m1, d1, rfl⟩ := own_shape hp1
  obtain ⟨b2, m2, d2, rfl⟩ := own_shape ht1
  have hl1 := hb1.size
  have hb2 : Below W0.heap.size W0 (w1.alloc (.cells #[.slice b1 m1 d1, .slice b2 m2 d2] 100)) := hb1.alloc hb1.size _
  have hB2 := hB0.trans (hb2.mono hB0.size)
  have q0 := (hb2.cell (p := ⟨w.heap.size, 0, none⟩) (by simp; omega)).trans hc0
  clear hp1 ht1 hc0 hRo
  cases g : (we != 0)
  · have hw0 : we = 0 := by simpa using g
    obtain ⟨hman, hsub⟩ := hZ.out hw0
    rcases hsol with ⟨h, _⟩ | ⟨_, A, S, rfl, hT⟩
    · exact absurd hw0 h
    have hR : Hid (r = (missOf m.papers m.totals pack, 0)) := by show _ = _; rw [hP.out, if_neg (by omega)]
    have hT2 := hT.below (w' := w1.alloc (.cells #[.slice b1 m1 d1, .slice b2 m2 d2] 100)) (fun k hk => Below.heap_alloc _ _ _ hk)
    clear hT hb1 hb2
    cases gp : (pack == 0)
    · have hpk : pack ≠ 0 := by simpa using gp
      obtain ⟨hin, hseek⟩ := hsub hpk
      have hF := find_any _ _ (ins m.papers) A S _ pack hT2.forest (fun p _ => by have := ins_len m.papers p; omega) (fuel m.papers) 0 hman.deep (sub_self hman.deep)
      rw [hseek] at hF
      have hF : Calls Tryz.prog 102 #[.pointer (some ⟨A 0, 0, none⟩), .int .i64 pack] (w1.alloc (.cells #[.slice b1 m1 d1, .slice b2 m2 d2] 100)) fun e w' => e = .returned (.pointer (some ⟨A pack, 0, none⟩)) ∧ Below (w1.alloc (.cells #[.slice b1 m1 d1, .slice b2 m2 d2] 100)).heap.size (w1.alloc (.cells #[.slice b1 m1 d1, .slice b2 m2 d2] 100)) w' := hF
      have HF := Lib.hid hF
      have hN := hT2.forest.node pack hin
      have hmi := (hT2.grown pack hin).missing
      have hs2 : (w1.alloc (.cells #[.slice b1 m1 d1, .slice b2 m2 d2] 100)).heap.size = w1.heap.size + 1 := by simp
      have HZ := Lib.hid hman
      clear hF hZ hP hT2 hman hsub hin hseek
      go_upto_region 4 with fail
      generalize w1.alloc (.cells #[.slice b1 m1 d1, .slice b2 m2 d2] 100) = W2 at *
      go_wp2_with fail
      refine HF.out.mono ?_
      rintro e w3 ⟨rfl, hb3⟩
      have hN3 := hN.of_heap (hb3.block _ hN.lt)
      have e0 := hN3.missing
      rw [hmi] at e0
      have hB3 := hB2.trans (hb3.mono (by omega))
      clear hN hN3 HF q0 hb3 hmi
      go_wp2_with fail
      go_ret2
      exact ⟨by rw [hR.out]; rfl, hB3⟩
    · have hpk : pack = 0 := by simpa using gp
      subst hpk
      have h0 : (0 : Int) ∈ sub (ins m.papers) (fuel m.papers) 0 := sub_self hman.deep
      have hN := hT2.forest.node 0 h0
      have hmi := (hT2.grown 0 h0).missing
      have HZ := Lib.hid hman
      clear hZ hP hT2 hman hsub h0
      go_upto_region 4 with fail
      generalize w1.alloc (.cells #[.slice b1 m1 d1, .slice b2 m2 d2] 100) = W2 at *
      have e0 := hN.missing
      rw [hmi] at e0
      clear hN hmi
      go_wp2_with fail
      go_ret2
      exact ⟨by rw [hR.out]; rfl, hB2⟩
  · have hR : Hid (r = (0, we)) := by show _ = _; rw [hP.out, if_pos (by simpa using g)]
    clear hsol hZ hP hb1 hb2
    go_upto_region 3 with fail
    generalize w1.alloc (.cells #[.slice b1 m1 d1, .slice b2 m2 d2] 100) = W2 at *
    go_wp2_with fail
    go_ret2
    exact ⟨by rw [hR.out]; rfl, hB2⟩

end Go.Proofs.YtpffpofdceppiaaGreatDoor

set_option linter.unusedSimpArgs false
set_option linter.unusedVariables false
namespace Go.Proofs.YtpffpofdceppiaaGreatDoor
open Go.RowKit Go.Shelf

/-- From a package up to the ship. -/
def climb (ps : List Paper) : Nat → Int → List Int
  | 0, _ => []
  | n + 1, p => if p = 0 then [] else p :: climb ps n (ofV ps p).inn

theorem climb_lev {ps ts : List Paper} (h : ManOK ps ts) : ∀ (j : Nat) (p : Int), p ∈ lev (ins ps) j 0 → ∀ n, j ≤ n → climb ps n p = climb ps j p ∧ (climb ps j p).length = j ∧ (p = 0 ↔ j = 0)
  | 0, p, hp, n, _ => by
    have : p = 0 := by simpa [lev] using hp
    subst this
    refine ⟨?_, rfl, by simp⟩
    cases n with
    | zero => rfl
    | succ n => simp [climb]
  | j + 1, p, hp, n, hn => by
    obtain ⟨s, h1, h2⟩ := lev_succ.1 hp
    have h3 := ins_pack h h2
    obtain ⟨x, hx, e1, e2⟩ := mem_ins.1 h2
    have hof : ofV ps p = x := by
      have := ofP_of_mem h.asc hx
      rw [e2] at this
      rw [ofV, this]; rfl
    have hne : p ≠ 0 := by omega
    obtain ⟨m, rfl⟩ : ∃ m, n = m + 1 := ⟨n - 1, by omega⟩
    obtain ⟨i1, i2, _⟩ := climb_lev h j s h1 m (by omega)
    have hs : (ofV ps p).inn = s := by rw [hof, e1]
    refine ⟨?_, ?_, by simp [hne]⟩
    · simp only [climb, if_neg hne, hs, i1]
    · simp only [climb, if_neg hne, hs, List.length_cons, i2]

theorem climb_step {ps ts : List Paper} (h : ManOK ps ts) {j : Nat} {p : Int} (hp : p ∈ lev (ins ps) (j + 1) 0) : p ≠ 0 ∧ (ofV ps p).inn ∈ lev (ins ps) j 0 ∧ climb ps (j + 1) p = p :: climb ps j (ofV ps p).inn := by
  obtain ⟨s, h1, h2⟩ := lev_succ.1 hp
  have h3 := ins_pack h h2
  obtain ⟨x, hx, e1, e2⟩ := mem_ins.1 h2
  have hof : ofV ps p = x := by
    have := ofP_of_mem h.asc hx
    rw [e2] at this
    rw [ofV, this]; rfl
  have hne : p ≠ 0 := by omega
  have hs : (ofV ps p).inn = s := by rw [hof, e1]
  exact ⟨hne, by rw [hs]; exact h1, by simp only [climb, if_neg hne]⟩

theorem cell_grown {W W' : World} {row : Option Nat} {b i : Nat} {v : Value} (h : W.cell? ⟨b, i, none⟩ = some v) (hg : W.grownBy W' row) (hne : ∀ r, row = some r → r ≠ b) : W'.cell? ⟨b, i, none⟩ = some v :=
  (World.cell?_of_block (w := W) (hg.block b (cell_lt h) (fun e => hne b e.symm rfl))).trans h

def pathP (l : List Paper) (known loss pack : Int) : List Int × Int :=
  if rootedE l known loss (hasP pack) ≠ 0 then ([], rootedE l known loss (hasP pack)) else ((climb (opened l known loss).1.papers (fuel (opened l known loss).1.papers) pack).reverse, 0)

set_option maxRecDepth 100000 in
set_option maxHeartbeats 8000000 in
theorem Path_any (v : Value) (l : List Paper) (known loss pack : Int) (w : World) (hv : PapersAt w v l) (hn : l.length ≤ 1000) (hs : ∀ x ∈ l, okS x) :
    Calls Tryz.prog 36 #[v, .int .i64 known, .int .i64 loss, .int .i64 pack] w fun e w' => ∃ v', e = .returned (.tuple #[v', .int .i64 (pathP l known loss pack).2]) ∧ Own3 w.heap.size w' v' (pathP l known loss pack).1 ∧ Below w.heap.size w w' := by
  have hW0 : ∃ W0, W0 = w.alloc (.cells #[.int .i64 pack] 3) := ⟨_, rfl⟩
  obtain ⟨W0, hW0⟩ := hW0
  have hB0 : Below w.heap.size w W0 := by rw [hW0]; exact (Below.refl _ w).alloc (Nat.le_refl _) _
  have hs0 : W0.heap.size = w.heap.size + 1 := by rw [hW0]; simp
  have hc0 : W0.cell? ⟨w.heap.size, 0, none⟩ = some (.int .i64 pack) := by rw [hW0]; go_simp
  have hRo := Lib.hid (rooted_any v l known loss 162 #[.pointer (some ⟨w.heap.size, 0, none⟩)] (hasP pack) W0 (hv.below hB0) hn hs (enters_of Tryz.func162 (by kernel_rfl) rfl)
    (has1_pred pack w.heap.size W0 (by omega) hc0))
  have hP : Hid (pathP l known loss pack = if rootedE l known loss (hasP pack) ≠ 0 then ([], rootedE l known loss (hasP pack)) else ((climb (opened l known loss).1.papers (fuel (opened l known loss).1.papers) pack).reverse, 0)) := by show _ = _; rfl
  have hZ : Hid (rootedE l known loss (hasP pack) = 0 → ManOK (opened l known loss).1.papers (opened l known loss).1.totals ∧ ∃ j, j < fuel (opened l known loss).1.papers ∧ pack ∈ lev (ins (opened l known loss).1.papers) j 0) := fun h => by
    obtain ⟨h1, h2, h3⟩ := rootedE_zero h
    have hm := opened_ok l known loss h1
    obtain ⟨k, hk, h4⟩ := mem_sub.1 (seek_pack hm h3 h2).1
    exact ⟨hm, k, hk, h4⟩
  have hL := opened_len l known loss
  generalize pathP l known loss pack = r at *
  generalize rootedE l known loss (hasP pack) = we at *
  generalize (opened l known loss).1 = m at *
  obtain ⟨hL1, hL2⟩ := hL
  obtain ⟨a1, cc, rfl, _⟩ := hv
  have HW0 := Lib.hid hW0
  clear hW0
  go_enter Tryz.func36, Tryz.ntmps36
  go_wp2_with (go_at_call 95; refine (has_any _ _).mono ?_; rintro e w' ⟨rfl, rfl⟩)
  rw [← HW0.out]
  refine hRo.out.mono ?_
  rintro e w1 ⟨vp, vt, np, rfl, hp1, ht1, hb1, hsol⟩
  obtain ⟨b1, m1, d1, rfl⟩ := own_shape hp1
  obtain ⟨b2, m2, d2, rfl⟩ := own_shape ht1
  have hl1 := hb1.size
  have hb2 : Below W0.heap.size W0 (w1.alloc (.cells #[.slice b1 m1 d1, .slice b2 m2 d2] 100)) := hb1.alloc hb1.size _
  have hB2 := hB0.trans (hb2.mono hB0.size)
  cases g : (we != 0)
  · have hw0 : we = 0 := by simpa using g
    obtain ⟨hman, j0, hj0, hlev⟩ := hZ.out hw0
    rcases hsol with ⟨h, _⟩ | ⟨_, A, S, rfl, hT⟩
    · exact absurd hw0 h
    have hR : Hid (r = ((climb m.papers (fuel m.papers) pack).reverse, 0)) := by show _ = _; rw [hP.out, if_neg (by omega)]
    have hp2 := Rows.of_owns vals_len (hp1.alloc (.cells #[.slice b1 m1 d1, .slice b2 m2 d2] 100))
    have ht2 := Rows.of_owns vals_len (ht1.alloc (.cells #[.slice b1 m1 d1, .slice b2 m2 d2] 100))
    have x0 : (w1.alloc (.cells #[.slice b1 m1 d1, .slice b2 m2 d2] 100)).cell? ⟨w1.heap.size, 0, none⟩ = some (.slice b1 m1 d1) := by go_simp
    have x1 : (w1.alloc (.cells #[.slice b1 m1 d1, .slice b2 m2 d2] 100)).cell? ⟨w1.heap.size, 1, none⟩ = some (.slice b2 m2 d2) := by go_simp
    have hs2 : (w1.alloc (.cells #[.slice b1 m1 d1, .slice b2 m2 d2] 100)).heap.size = w1.heap.size + 1 := by simp
    have HP := Lib.hid hp2
    have HTt := Lib.hid ht2
    have HM := Lib.hid hman
    obtain ⟨i0, hi, hz0, hz1, hz2⟩ := info_parts Tryz.info3
    have hCL := climb_lev hman j0 pack hlev (fuel m.papers) (by omega)
    have HC0 : Hid (climb m.papers (fuel m.papers) pack = climb m.papers j0 pack) := hCL.1
    have hj0' : j0 ≤ 202 := by unfold fuel at hj0; omega
    have HLv := Lib.hid hlev
    clear hZ hP hp1 ht1 hp2 ht2 hT hb1 hb2 hman hRo hlev hCL hj0
    go_upto_region 4 with fail
    generalize w1.alloc (.cells #[.slice b1 m1 d1, .slice b2 m2 d2] 100) = W2 at *
    go_wp2_with fail
    go_loopw [13, 14] (fun v i wr => ∃ (acc : List Int) (p : Int) (j : Nat), j ≤ j0 ∧ i = .int .i64 p ∧ Hid (p ∈ lev (ins m.papers) j 0) ∧ Hid (acc ++ climb m.papers j p = climb m.papers j0 pack) ∧ acc.length + j = j0 ∧ Own3 W2.heap.size wr v acc ∧ Below W2.heap.size W2 wr) (fun _ i _ => (climb m.papers (fuel m.papers) (intOf i)).length)
    case atStart => exact ⟨[], pack, j0, Nat.le_refl _, rfl, HLv.out, by show _ = _; simp, by simp, World.ownsRow_nil _ _ _ _, Below.refl _ _⟩
    case round =>
      obtain ⟨acc, p, j, hj, rfl, hpl, hac, hjl, hown, hb⟩ := hrel
      have hsz := hb.size
      cases j with
      | zero =>
        have hp0 : p = 0 := by have := hpl.out; simpa [lev] using this
        subst hp0
        have hres : Hid (acc = climb m.papers (fuel m.papers) pack) := by
          show _ = _
          have h1 := hac.out
          have h2 : climb m.papers 0 (0 : Int) = [] := rfl
          rw [h2, List.append_nil] at h1
          rw [HC0.out, h1]
        have hV := Lib.hid (fun W' (h : Own3 W2.heap.size W' u13 acc) => Reverse_any u13 acc W2.heap.size W' h (by omega))
        have HO := Lib.hid hown
        obtain ⟨p5, d5, rfl⟩ := own_shape3 hown
        have hlt := fun k hk => (hown.lt k hk).1
        have hBw := hb
        clear hown hb
        go_wp2_with fail
        refine (hV.out _ HO.out).mono ?_
        rintro e w9 ⟨rfl, ho9, hg9⟩
        have HO9 : Own3 w.heap.size w9 (.slice p5 acc.length d5) acc.reverse := owns_mono ho9 (by omega)
        have HX := Lib.hid HO9
        have hB9 : Below w.heap.size w w9 := (hB2.trans (hBw.mono (by omega))).grown hg9 (by omega) (fun k hk => by have := hlt k hk; omega)
        clear ho9 hg9 HO9
        go_wp2_with fail
        go_ret2
        exact ⟨_, by rw [hR.out]; rfl, by rw [hR.out, ← hres.out]; exact HX.out, hB9⟩
      | succ j =>
        obtain ⟨hp0, hnx, hcl⟩ := climb_step HM.out hpl.out
        have hpne : (p != 0) = true := by simpa using hp0
        have hm1 : Hid ((climb m.papers (fuel m.papers) p).length = j + 1) := by
          have h1 := climb_lev HM.out (j + 1) p hpl.out (fuel m.papers) (by have := deep_lev HM.out.deep hpl.out; unfold fuel; omega)
          show _ = _
          rw [h1.1]; exact h1.2.1
        have hm2 : Hid ((climb m.papers (fuel m.papers) (ofV m.papers p).inn).length = j) := by
          have h1 := climb_lev HM.out j _ hnx (fuel m.papers) (by have := deep_lev HM.out.deep hpl.out; unfold fuel; omega)
          show _ = _
          rw [h1.1]; exact h1.2.1
        have hac2 : Hid ((acc ++ [p]) ++ climb m.papers j (ofV m.papers p).inn = climb m.papers j0 pack) := by
          show _ = _
          have h1 := hac.out
          rw [hcl] at h1
          rw [List.append_assoc]; exact h1
        have hPa := fun W (h : Below W2.heap.size W2 W) => paper_any _ _ m.papers m.totals p W (HP.out.below h) (HTt.out.below h) (by omega)
        generalize ofV m.papers p = x at *
        generalize (ofP m.papers p).isSome = q at *
        have HPa : Hid (∀ W, Below W2.heap.size W2 W → Calls Tryz.prog 96 #[.agg #[.slice b1 m1 d1, .slice b2 m2 d2], .int .i64 p] W fun e w' => e = .returned (.tuple #[.agg #[.int .i64 x.id, .int .i64 x.known, .int .u8 x.kind, .int .i64 x.loss, .int .i64 x.pack, .int .i64 x.inn, .string x.mark, .string x.goods, .int .i64 x.lo, .int .i64 x.hi, .int .i64 x.pieces, .int .i64 x.owner, .int .i64 x.count, .int .i64 x.of], .bool q]) ∧ Below W.heap.size W w') := hPa
        have HNX := Lib.hid hnx
        clear hPa hnx hcl
        have y0 := (hb.cell (p := ⟨w1.heap.size, 0, none⟩) (by simp; omega)).trans x0
        have y1 := (hb.cell (p := ⟨w1.heap.size, 1, none⟩) (by simp; omega)).trans x1
        have HO := Lib.hid hown
        have HB := Lib.hid hb
        clear hown hb
        go_wp2_with fail
        refine (HPa.out _ HB.out).mono ?_
        rintro e w3 ⟨rfl, hb3⟩
        have hB3 := HB.out.trans (hb3.mono hsz)
        have HO3 := Lib.hid (ownsRow_below HO.out hb3)
        have hz3 := hb3.size
        have HHX : Hid (∀ u ∈ [Value.int .i64 p], u.oneCell' = true) := by show ∀ u ∈ _, _; simp [Value.oneCell']
        have f5' : ((w3.alloc (.cells #[.int .i64 x.id, .int .i64 x.known, .int .u8 x.kind, .int .i64 x.loss, .int .i64 x.pack, .int .i64 x.inn, .string x.mark, .string x.goods, .int .i64 x.lo, .int .i64 x.hi, .int .i64 x.pieces, .int .i64 x.owner, .int .i64 x.count, .int .i64 x.of] 28)).alloc (.cells #[.int .i64 p] 3)).cell? ⟨w3.heap.size, 5, none⟩ = some (.int .i64 x.inn) := by go_simp
        have hacl : acc.length ≤ 202 := by omega
        go_wp2_with (at_builtin; go_must (refine wpList_append_own _ rfl _ _ 45 rfl W2.heap.size 3 i0 _ 1 8 Tryz.underlying45 hi hz0 hz1 hz2 rfl (by decide) _ acc.length (acc.flatMap encI) rfl ((HO3.out.alloc _).alloc _) ⟨w3.heap.size + 1, 0, none⟩ 1 1 [.int .i64 p] rfl rfl (by intro j u hu; rw [Addr.add_lit, Nat.zero_add]; cases j with | zero => (simp only [List.getElem?_cons_zero, Option.some.injEq] at hu; subst hu; go_simp) | succ j => (simp at hu)) HHX.out (by unfold maxLen; omega) (by omega) (by simp; omega) ?_; intro v9 w9 hown9 hg9 hnil9; have HO9 := Lib.hid hown9; have HG9 := Lib.hid hg9; have f5 := cell_grown f5' hg9 (fun r e => by have h2 := (HO3.out.lt r e).2; omega); clear hown9 hg9 hnil9))
        go_roundw
        case rel =>
          refine ⟨acc ++ [p], x.inn, j, by omega, rfl, HNX.out, hac2.out, by simp; omega, ?_, ?_⟩
          · unfold Own3; rw [List.flatMap_append, List.length_append]; exact HO9.out
          · exact ((hB3.alloc (by omega) _).alloc (by simp; omega) _).grown HG9.out (by simp; omega) (fun k hk => (HO3.out.lt k hk).1)
        case measure =>
          simp only [intOf]
          rw [hm1.out, hm2.out]; omega
  · have hR : Hid (r = ([], we)) := by show _ = _; rw [hP.out, if_pos (by simpa using g)]
    clear hsol hZ hP hb1 hb2
    go_upto_region 3 with fail
    generalize w1.alloc (.cells #[.slice b1 m1 d1, .slice b2 m2 d2] 100) = W2 at *
    go_wp2_with fail
    go_ret2
    exact ⟨_, by rw [hR.out]; rfl, by rw [hR.out]; exact World.ownsRow_nil _ _ _ _, hB2⟩

end Go.Proofs.YtpffpofdceppiaaGreatDoor
