/- A part of the proof that laganlaw01.CargoTexts answers true at every input and leaves its arguments as they were; the conditions are those of the given row and card, nothing else. -/
import Derived.Test.YtpffpofdceppiaaGreatDoorKO3
import Derived.Test.YtpffpofdceppiaaGreatDoorKH3
import Derived.Test.YtpffpofdceppiaaGreatDoorKH5
set_option linter.unusedSimpArgs false
set_option linter.unusedVariables false
namespace Go.Proofs.YtpffpofdceppiaaGreatDoor
open Go.RowKit Go.Shelf Go.Sort

theorem flat3 (l : List Int) : l.flatMap encI = l.map (Value.int .i64) := by
  induction l with
  | nil => rfl
  | cons x l ih => rw [List.flatMap_cons, ih]; rfl

/-- What a row of numbers holds, cell by cell. -/
theorem own3_cells {w : World} {base : Nat} {v : Value} {l : List Int} (h : Own3 base w v l) (h0 : 0 < l.length) : ∃ g c, v = .slice (some ⟨g, 0, none⟩) l.length c ∧ base ≤ g ∧ g < w.heap.size ∧ l.length ≤ c ∧ c ≤ maxLen ∧ ∀ j (hj : j < l.length), w.cell? ⟨g, j, none⟩ = some (.int .i64 l[j]) ∧ w.frozen? ⟨g, j, none⟩ = false := by
  have hw := h
  obtain ⟨h1, h2⟩ := h
  rcases h2 with ⟨_, h⟩ | ⟨g, cap, cur, rfl, hg, hh, hn', hc, hs, ht⟩
  · omega
  · refine ⟨g, cap, rfl, hg, (Array.getElem?_eq_some_iff.1 hh).1, hn', hc, fun j hj => ⟨?_, World.ownsRow.frozenAt hw _⟩⟩
    have := World.ownsRow.cellAt hw j (by omega)
    rw [this, flat3, List.getElem?_map, List.getElem?_eq_getElem hj]; rfl

/-- A row that is written over. -/
theorem own3_put {w : World} {base g n cap : Nat} {xs : List Value} (h : w.ownsRow base 3 1 (.slice (some ⟨g, 0, none⟩) n cap) n xs) (d : Array Int) (q : Nat) (os : Array Obj) (k : Nat) (hk : k ≤ d.size) (hd : d.size ≤ cap) :
    Own3 base (grow (putRow (Value.int .i64) (Sort.ahead w q) g 0 d) os) (.slice (some ⟨g, 0, none⟩) k cap) (d.toList.take k) ∧ w.grownBy (grow (putRow (Value.int .i64) (Sort.ahead w q) g 0 d) os) (some g) := by
  obtain ⟨h1, h2⟩ := h
  rcases h2 with ⟨h, _⟩ | ⟨g', cap', cur, hv, hg, hh, hn', hc, hs, ht⟩
  · cases h
  injection hv with e1 e2 e3
  injection e1 with e1
  injection e1 with e1
  subst e1; subst e3
  have hblk : g < w.heap.size := (Array.getElem?_eq_some_iff.1 hh).1
  have hl : (d.toList.take k).length = k := by rw [List.length_take]; simp; omega
  have hheap : (grow (putRow (Value.int .i64) (Sort.ahead w q) g 0 d) os).heap[g]? = some (.cells (putCells (Value.int .i64) 0 d cur) 3 (0, 0)) := by
    rw [heap_grow_old _ _ (by simp [putRow, mapBlock, Sort.ahead]; exact hblk)]
    have hh' : (Sort.ahead w q).heap[g]? = some (.cells cur 3 (0, 0)) := hh
    simp only [putRow, mapBlock, Array.getElem?_modify, if_true, hh', Option.map_some, onCells]
  refine ⟨?_, rfl, rfl, rfl, ?_, fun j hj hne => ?_⟩
  · unfold Own3
    rw [hl]
    refine ⟨by rw [flat3, List.length_map, hl, Nat.mul_one], .inr ⟨g, cap, _, rfl, hg, hheap, by omega, hc, by simp [putCells, hs], ?_⟩⟩
    rw [flat3]
    apply List.ext_getElem?
    intro t
    by_cases htt : t < k
    · have htc : t < cur.size := by rw [hs]; omega
      have htd : t < d.size := by omega
      rw [List.getElem?_take_of_lt (by omega), List.getElem?_map, List.getElem?_take_of_lt htt]
      simp only [putCells, Array.getElem?_toList, Array.getElem?_mapIdx, Array.getElem?_eq_getElem htc, Option.map_some, Nat.zero_add, Nat.sub_zero, Array.getElem?_eq_getElem htd]
      rw [if_pos ⟨Nat.zero_le _, htd⟩, getElem!_pos d t htd]
    · rw [List.getElem?_eq_none (by simp [putCells, hs]; omega), List.getElem?_eq_none (by rw [List.length_map, hl]; omega)]
  · simp [grow, putRow, mapBlock, Sort.ahead]
  · have hkg : g ≠ j := fun q => hne (by rw [q])
    rw [heap_grow_old _ _ (by simp [putRow, mapBlock, Sort.ahead]; exact hj)]
    simp [putRow, mapBlock, Array.getElem?_modify, hkg, Sort.ahead]

theorem own3_zero {w : World} {base : Nat} {v : Value} (h : Own3 base w v []) : ∃ p c, v = .slice p 0 c := by
  rcases h.2 with ⟨rfl, _⟩ | ⟨g, cap, cur, rfl, _⟩
  · exact ⟨_, _, rfl⟩
  · exact ⟨_, _, rfl⟩

theorem own3_holds {w : World} {g : Nat} {l : List Int} (h : ∀ j (hj : j < l.length), w.cell? ⟨g, j, none⟩ = some (.int .i64 l[j]) ∧ w.frozen? ⟨g, j, none⟩ = false) : Holds (Value.int .i64) w g 0 l.toArray := by
  intro j hj
  have hj' : j < l.length := by simpa using hj
  rw [Nat.zero_add]
  refine ⟨?_, (h j hj').2⟩
  rw [(h j hj').1, getElem!_pos l.toArray j hj]; simp

theorem Reverse_any (v : Value) (l : List Int) (base : Nat) (w : World) (hown : Own3 base w v l) (hn : l.length ≤ 100000) :
    Calls Tryz.prog 97 #[v] w fun e w' => e = .returned (.tuple #[]) ∧ Own3 base w' v l.reverse ∧ w.grownBy w' v.ownBlock := by
  rcases Nat.eq_zero_or_pos l.length with h0 | hpos
  · have hl : l = [] := List.length_eq_zero_iff.1 h0
    subst hl
    obtain ⟨p, c, rfl⟩ := own3_zero hown
    refine (Tryz.slices_Reverse_int_empty p c w).mono ?_
    rintro e w' ⟨rfl, rfl⟩
    exact ⟨rfl, hown, World.grownBy.refl _ _⟩
  · obtain ⟨g, c, rfl, hg, hlt, hc1, hc2, hcell⟩ := own3_cells hown hpos
    refine (Tryz.slices_Reverse_int g 0 c l w (own3_holds hcell) (by omega)).mono ?_
    rintro e w' ⟨rfl, q, rfl⟩
    have h := own3_put hown l.reverse.toArray q #[] l.length (by simp) (by simpa using hc1)
    rw [grow_empty] at h
    refine ⟨rfl, ?_, h.2⟩
    have e : l.reverse.toArray.toList.take l.length = l.reverse := by
      rw [List.take_of_length_le (by simp)]
    have h1 := h.1
    rw [e] at h1
    exact h1

/-- Numbers in ascending order. -/
def sortI (l : List Int) : List Int := l.mergeSort fun x y => decide (x ≤ y)
theorem sortI_len (l : List Int) : (sortI l).length = l.length := List.length_mergeSort _

theorem Sort_any (v : Value) (l : List Int) (base : Nat) (w : World) (hown : Own3 base w v l) (hn : l.length ≤ 100000) :
    Calls Tryz.prog 194 #[v] w fun e w' => e = .returned (.tuple #[]) ∧ Own3 base w' v (sortI l) ∧ w.grownBy w' v.ownBlock := by
  rcases Nat.eq_zero_or_pos l.length with h0 | hpos
  · have hl : l = [] := List.length_eq_zero_iff.1 h0
    subst hl
    obtain ⟨p, c, rfl⟩ := own3_zero hown
    refine (Tryz.slices_Sort_int_none p c w).mono ?_
    rintro e w' ⟨rfl, rfl⟩
    exact ⟨rfl, by simpa [sortI] using hown, World.grownBy.refl _ _⟩
  · obtain ⟨g, c, rfl, hg, hlt, hc1, hc2, hcell⟩ := own3_cells hown hpos
    refine (Tryz.slices_Sort_int g 0 c l w (own3_holds hcell) hlt (by omega)).mono ?_
    rintro e w' ⟨rfl, q, os, rfl⟩
    have h := own3_put hown (sortI l).toArray q os l.length (by simp [sortI_len]) (by simpa [sortI_len] using hc1)
    refine ⟨rfl, ?_, h.2⟩
    have e : (sortI l).toArray.toList.take l.length = sortI l := by
      rw [List.take_of_length_le (by simp [sortI_len])]
    have h1 := h.1
    rw [e] at h1
    unfold Own3 at h1 ⊢
    rw [sortI_len] at h1 ⊢
    exact h1

theorem Clone3_any (v : Value) (l : List Int) (base : Nat) (w : World) (hown : Own3 base w v l) (hn : l.length ≤ 100000) :
    Calls Tryz.prog 173 #[v] w fun e w' => ∃ v', e = .returned v' ∧ Own3 w.heap.size w' v' l ∧ Below w.heap.size w w' := by
  have hnil : ∀ n c, v = .slice none n c → l = [] → Calls Tryz.prog 173 #[v] w fun e w' => ∃ v', e = .returned v' ∧ Own3 w.heap.size w' v' l ∧ Below w.heap.size w w' := fun n c h hl => by
    subst h; subst hl
    refine (Tryz.slices_Clone_int_nil n c w).mono ?_
    rintro e w' ⟨rfl, rfl⟩
    exact ⟨_, rfl, World.ownsRow_nil _ _ _ _, Below.refl _ _⟩
  have hw := hown
  rcases hown.2 with ⟨rfl, h⟩ | ⟨g, cap, cur, rfl, hg, hh, hn', hc, hs, ht⟩
  · exact hnil 0 0 rfl (List.length_eq_zero_iff.1 h)
  · refine (Tryz.slices_Clone_int g 0 l.length cap l w (Nat.le_refl _) (by omega) (fun j hj => ?_)).mono ?_
    · have := World.ownsRow.cellAt hw j (by omega)
      rw [Nat.zero_add, this, flat3, List.getElem?_map, List.getElem?_eq_getElem hj, List.getD_eq_getElem?_getD, List.getElem?_eq_getElem hj]; rfl
    · rintro e w' ⟨v', rfl, h1, _, h2⟩
      rw [List.take_length] at h1
      exact ⟨v', rfl, by unfold Own3; rw [flat3]; exact h1, h2⟩

/-- Equal, of two lists of numbers. -/
theorem Equal3_any (v1 v2 : Value) (l1 l2 : List Int) (w : World) (h1 : IntsAt w v1 l1) (h2 : IntsAt w v2 l2) (hn1 : l1.length ≤ 100000) (hn2 : l2.length ≤ 100000) :
    Calls Tryz.prog 40 #[v1, v2] w fun e w' => e = .returned (.bool (l1 == l2)) ∧ Below w.heap.size w w' := by
  obtain ⟨a1, c1, rfl, x1, y1, z1⟩ := h1
  obtain ⟨a2, c2, rfl, x2, y2, z2⟩ := h2
  by_cases hl : l1.length = l2.length
  · rcases Nat.eq_zero_or_pos l1.length with h0 | hpos
    · have e1 : l1 = [] := List.length_eq_zero_iff.1 h0
      have e2 : l2 = [] := List.length_eq_zero_iff.1 (by omega)
      subst e1; subst e2
      refine (Tryz.slices_Equal_int_empty a1 a2 c1 0 c2 w (by omega)).mono ?_
      rintro e w' ⟨rfl, rfl⟩
      exact ⟨rfl, Below.refl _ _⟩
    · obtain ⟨b1, o1, rfl, _, g1⟩ := z1 (by omega)
      obtain ⟨b2, o2, rfl, _, g2⟩ := z2 (by omega)
      refine (Tryz.slices_Equal_int b1 o1 l1.length c1 b2 o2 l2.length c2 l1 l2 w (Nat.le_refl _) (Nat.le_refl _) (by omega) (by omega) (fun j hj => ?_) (fun j hj => ?_)).mono ?_
      · have := g1 j hj 0 _ rfl
        rw [Nat.mul_one, Nat.add_zero] at this
        rw [this, List.getD_eq_getElem?_getD, List.getElem?_eq_getElem hj]; rfl
      · have := g2 j hj 0 _ rfl
        rw [Nat.mul_one, Nat.add_zero] at this
        rw [this, List.getD_eq_getElem?_getD, List.getElem?_eq_getElem hj]; rfl
      · rintro e w' ⟨rfl, q, rfl⟩
        rw [List.take_length, List.take_length]
        exact ⟨rfl, below_drewN (Below.refl _ _) q⟩
  · have hne : (l1 == l2) = false := by
      rw [beq_eq_false_iff_ne]; rintro rfl; exact hl rfl
    refine (Tryz.slices_Equal_int_lens a1 a2 l1.length c1 l2.length c2 w hl).mono ?_
    rintro e w' ⟨rfl, rfl⟩
    exact ⟨by rw [hne], Below.refl _ _⟩

end Go.Proofs.YtpffpofdceppiaaGreatDoor
