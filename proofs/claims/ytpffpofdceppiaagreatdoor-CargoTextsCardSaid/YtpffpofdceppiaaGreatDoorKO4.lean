/- A part of the proof that laganlaw01.CargoTexts answers true at every input and leaves its arguments as they were; the conditions are those of the given row and card, nothing else. -/
import Derived.Test.YtpffpofdceppiaaGreatDoorKO3
set_option linter.unusedSimpArgs false
set_option linter.unusedVariables false
namespace Go.Proofs.YtpffpofdceppiaaGreatDoor
open Go.RowKit Go.Shelf

structure Man where
  papers : List Paper
  totals : List Paper
  deriving DecidableEq

def lastP (l : List Paper) (known loss : Int) : Man := ⟨papersOf (foundM loss (counting l known)), totalsOf (foundM loss (counting l known))⟩
def opened (l : List Paper) (known loss : Int) : Man × Int :=
  if (check l).2 ≠ 0 then (⟨[], []⟩, (check l).2) else if within loss 1 20 = false then (⟨[], []⟩, 1) else (lastP l known loss, 0)

theorem checkFrom_follows (l : List Paper) : ∀ (n i : Nat), l.length - i = n → (checkFrom l i).2 = 0 → ∀ j (h : j < l.length), i ≤ j → follows (l.take j) l[j] = 0 := by
  intro n
  induction n with
  | zero => intro i hi _ j hj hij; omega
  | succ n ih =>
    intro i hi hc j hj hij
    rw [checkFrom, dif_pos (show i < l.length by omega)] at hc
    split at hc
    · rename_i h; exact absurd hc h
    · rename_i h
      by_cases e : i = j
      · subst e; omega
      · exact ih (i + 1) (by omega) hc j hj (by omega)

theorem check_follows (l : List Paper) (h : (check l).2 = 0) (j : Nat) (hj : j < l.length) : follows (l.take j) l[j] = 0 := checkFrom_follows l _ 0 rfl h j hj (Nat.zero_le _)

theorem follows_formed (l : List Paper) (x : Paper) (h : follows l x = 0) : formed x = true := by
  cases hf : formed x with
  | true => rfl
  | false =>
    unfold follows at h
    simp only [hf, if_true] at h
    split at h <;> cases h

theorem check_formed (l : List Paper) (h : (check l).2 = 0) : ∀ x ∈ l, formed x = true := by
  intro x hx
  obtain ⟨j, hj, rfl⟩ := List.getElem_of_mem hx
  exact follows_formed _ _ (check_follows l h j hj)

theorem within_iff (n a b : Int) : within n a b = true ↔ a ≤ n ∧ n ≤ b := by unfold within; simp

theorem formed_pack (x : Paper) (h : formed x = true) (hk : x.kind ≠ 3) : 0 ≤ x.pack ∧ x.pack ≤ 200 := by
  unfold formed at h
  rw [Bool.and_eq_true] at h
  obtain ⟨_, h⟩ := h
  split at h
  · rw [Bool.and_eq_true] at h
    have := h.1
    simp only [formed1, Bool.and_eq_true, within_iff] at this
    omega
  · split at h
    · rw [Bool.and_eq_true] at h
      have := h.1
      simp only [formed2, Bool.and_eq_true, within_iff] at this
      omega
    · cases h

theorem papersOf_len (f : Int × Bool → Option Paper) : (papersOf f).length ≤ 201 := by
  unfold papersOf
  exact Nat.le_trans (List.length_filterMap_le _ _) (by simp)
theorem totalsOf_len (f : Int × Bool → Option Paper) : (totalsOf f).length ≤ 201 := by
  unfold totalsOf
  exact Nat.le_trans (List.length_filterMap_le _ _) (by simp)

theorem opened_len (l : List Paper) (known loss : Int) : (opened l known loss).1.papers.length ≤ 201 ∧ (opened l known loss).1.totals.length ≤ 201 := by
  unfold opened
  split
  · simp
  · split
    · simp
    · exact ⟨papersOf_len _, totalsOf_len _⟩

theorem results_man {fn : Func} {p u : Tmp} (h : fn.results = #[.cell p 100, .tmp u]) (tmps : Array Value) (w : World) (b : Nat) (v0 v1 : Value) (hp : tmps.getD p undef = .pointer (some ⟨b, 0, none⟩)) (h0 : w.cell? ⟨b, 0, none⟩ = some v0) (h1 : w.cell? ⟨b, 1, none⟩ = some v1) :
    (results fn tmps).run Tryz.prog w = .ok (.tuple #[.agg #[v0, v1], tmps.getD u undef]) w := by
  rw [results_cell_tmp h, hp]
  have : (loadVar 100 ⟨b, 0, none⟩).run Tryz.prog w = .ok (.agg #[v0, v1]) w := by go_simp
  simp only [asAddr, Sem.run_pure, Result.andThen_ok, this]

set_option maxRecDepth 100000 in
set_option maxHeartbeats 4000000 in
theorem opened_any (v : Value) (l : List Paper) (known loss : Int) (w : World) (hv : PapersAt w v l) (hn : l.length ≤ 1000) (hs : ∀ x ∈ l, okS x) :
    Calls Tryz.prog 105 #[v, .int .i64 known, .int .i64 loss] w fun e w' => ∃ vp vt, e = .returned (.tuple #[.agg #[vp, vt], .int .i64 (opened l known loss).2]) ∧
      Own28 w.heap.size w' vp (opened l known loss).1.papers ∧ Own28 w.heap.size w' vt (opened l known loss).1.totals ∧ Below w.heap.size w w' := by
  have HO : Hid (opened l known loss = if (check l).2 ≠ 0 then (⟨[], []⟩, (check l).2) else if within loss 1 20 = false then (⟨[], []⟩, 1) else (lastP l known loss, 0)) := by show _ = _; rfl
  obtain ⟨r, hr⟩ : ∃ r, r = opened l known loss := ⟨_, rfl⟩
  rw [← hr] at HO ⊢
  clear hr
  have HCk := Lib.hid (fun W (h : Below w.heap.size w W) => Check_any _ l W (hv.below h) hn hs)
  have HLa := Lib.hid (fun (hc : (check l).2 = 0) W (h : Below w.heap.size w W) => last_any _ l known loss W (hv.below h) hn (fun x hx hk => formed_pack x (check_formed l hc x hx) hk))
  have HM : Hid (lastP l known loss = ⟨papersOf (foundM loss (counting l known)), totalsOf (foundM loss (counting l known))⟩) := by show _ = _; rfl
  generalize lastP l known loss = m at *
  generalize papersOf (foundM loss (counting l known)) = mp at *
  generalize totalsOf (foundM loss (counting l known)) = mt at *
  generalize check l = ck at *
  have HW := Lib.hid (within_any loss 1 20)
  generalize within loss 1 20 = wi at *
  obtain ⟨c1, c2⟩ := ck
  obtain ⟨a1, cc, rfl, _⟩ := hv
  have hB0 : Below w.heap.size w (w.alloc (.cells #[.slice none 0 0, .slice none 0 0] 100)) := (Below.refl _ w).alloc (Nat.le_refl _) _
  have hr0 : (w.alloc (.cells #[.slice none 0 0, .slice none 0 0] 100)).cell? ⟨w.heap.size, 0, none⟩ = some (.slice none 0 0) := by go_simp
  have hr1 : (w.alloc (.cells #[.slice none 0 0, .slice none 0 0] 100)).cell? ⟨w.heap.size, 1, none⟩ = some (.slice none 0 0) := by go_simp
  have hf0 : ∀ i, (w.alloc (.cells #[.slice none 0 0, .slice none 0 0] 100)).frozen? ⟨w.heap.size, i, none⟩ = false := fun i => by go_simp
  have hs0 : (w.alloc (.cells #[.slice none 0 0, .slice none 0 0] 100)).heap.size = w.heap.size + 1 := by simp
  go_enter Tryz.func105, Tryz.ntmps105
  go_wp2_with fail
  generalize w.alloc (.cells #[.slice none 0 0, .slice none 0 0] 100) = W0 at *
  refine (HCk.out _ hB0).mono ?_
  rintro e w1 ⟨rfl, hb1⟩
  have hB1 := hB0.trans (hb1.mono hB0.size)
  have hl1 : w.heap.size < w1.heap.size := by have := hb1.size; omega
  have q0 := (hb1.cell (p := ⟨w.heap.size, 0, none⟩) (by simp; omega)).trans hr0
  have q1 := (hb1.cell (p := ⟨w.heap.size, 1, none⟩) (by simp; omega)).trans hr1
  have z0 : ∀ i, w1.frozen? ⟨w.heap.size, i, none⟩ = false := fun i => (hb1.frozen (p := ⟨w.heap.size, i, none⟩) (by simp; omega)).trans (hf0 i)
  clear hb1 hr0 hr1 hf0 hB0 HCk
  cases g : (c2 != 0)
  · have g' : c2 = 0 := by simpa using g
    have HLa2 := Lib.hid (HLa.out g')
    have HO2 : Hid (r = if wi = false then (⟨[], []⟩, 1) else (m, 0)) := by show _ = _; rw [HO.out, if_neg (by simpa using g)]
    clear HLa HO
    cases wi
    · have HO3 : Hid (r = (⟨[], []⟩, 1)) := by show _ = _; rw [HO2.out]; rfl
      clear HO2 HLa2
      go_wp2_with (go_at_call 138; refine (HW.out _).mono ?_; rintro e w' ⟨rfl, rfl⟩)
      refine bodyPost_ret (results_man rfl _ _ w.heap.size (.slice none 0 0) (.slice none 0 0) rfl (by go_simp) (by go_simp)) rfl ?_
      exact ⟨_, _, by rw [HO3.out]; rfl, by rw [HO3.out]; exact World.ownsRow_nil _ _ _ _, by rw [HO3.out]; exact World.ownsRow_nil _ _ _ _, (hB1.setCell (p := ⟨w.heap.size, 0, none⟩) (Nat.le_refl _) _).setCell (p := ⟨w.heap.size, 1, none⟩) (Nat.le_refl _) _⟩
    · have HO3 : Hid (r = (m, 0)) := by show _ = _; rw [HO2.out]; rfl
      clear HO2
      go_wp2_with (go_at_call 138; refine (HW.out _).mono ?_; rintro e w' ⟨rfl, rfl⟩)
      refine (HLa2.out _ hB1).mono ?_
      rintro e w2 ⟨vp, vt, rfl, hp2, ht2, hb2⟩
      have hB2 := hB1.trans (hb2.mono hB1.size)
      have y0 := (hb2.cell (p := ⟨w.heap.size, 0, none⟩) hl1).trans q0
      have y1 := (hb2.cell (p := ⟨w.heap.size, 1, none⟩) hl1).trans q1
      have z2 : ∀ i, w2.frozen? ⟨w.heap.size, i, none⟩ = false := fun i => (hb2.frozen (p := ⟨w.heap.size, i, none⟩) hl1).trans (z0 i)
      clear q0 q1 z0 HW HLa2 hb2
      have HP := Lib.hid hp2
      have HT := Lib.hid ht2
      obtain ⟨b1, m1, d1, rfl⟩ := own_shape hp2
      obtain ⟨b2, m2, d2, rfl⟩ := own_shape ht2
      clear hp2 ht2
      go_wp2_with fail
      refine bodyPost_ret (results_man rfl _ _ w.heap.size (.slice b1 m1 d1) (.slice b2 m2 d2) rfl (by go_simp) (by go_simp)) rfl ?_
      have hmono : ∀ v l, Own28 w1.heap.size w2 v l → Own28 w.heap.size ((w2.setCell ⟨w.heap.size, 0, none⟩ (.slice b1 m1 d1)).setCell ⟨w.heap.size, 1, none⟩ (.slice b2 m2 d2)) v l := fun v l ho =>
        owns_mono (ownsRow_setCell_below (ownsRow_setCell_below ho (a := ⟨w.heap.size, 0, none⟩) hl1 _) (a := ⟨w.heap.size, 1, none⟩) hl1 _) (Nat.le_of_lt hl1)
      exact ⟨_, _, by rw [HO3.out]; rfl, by rw [HO3.out, HM.out]; exact hmono _ _ HP.out, by rw [HO3.out, HM.out]; exact hmono _ _ HT.out, (hB2.setCell (p := ⟨w.heap.size, 0, none⟩) (Nat.le_refl _) _).setCell (p := ⟨w.heap.size, 1, none⟩) (Nat.le_refl _) _⟩
  · have HO2 : Hid (r = (⟨[], []⟩, c2)) := by show _ = _; rw [HO.out, if_pos (by simpa using g)]
    clear HO HLa
    go_wp2_with fail
    refine bodyPost_ret (results_man rfl _ _ w.heap.size (.slice none 0 0) (.slice none 0 0) rfl (by go_simp) (by go_simp)) rfl ?_
    exact ⟨_, _, by rw [HO2.out]; rfl, by rw [HO2.out]; exact World.ownsRow_nil _ _ _ _, by rw [HO2.out]; exact World.ownsRow_nil _ _ _ _, (hB1.setCell (p := ⟨w.heap.size, 0, none⟩) (Nat.le_refl _) _).setCell (p := ⟨w.heap.size, 1, none⟩) (Nat.le_refl _) _⟩

end Go.Proofs.YtpffpofdceppiaaGreatDoor
