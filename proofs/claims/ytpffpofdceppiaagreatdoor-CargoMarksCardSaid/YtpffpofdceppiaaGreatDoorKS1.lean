/- A part of the proof that laganlaw01.CargoMarks answers true at every input and leaves its arguments as they were; the conditions are those of the given row and card, nothing else. -/
import Derived.Test.YtpffpofdceppiaaGreatDoorKA8
import Derived.Test.YtpffpofdceppiaaGreatDoorKS0
set_option linter.unusedSimpArgs false
set_option linter.unusedVariables false
namespace Go.Proofs.YtpffpofdceppiaaGreatDoor
open Go.RowKit Go.Shelf Go.Sort

def cmpI (a b : Int) : Int := if a < b then -1 else if b < a then 1 else 0

theorem isNaN_any (a : Int) (w : World) : Calls Tryz.prog 209 #[.int .i64 a] w fun e w' => e = .returned (.bool false) ∧ w = w' := by
  go_enter Tryz.func209, Tryz.ntmps209
  go_wp2
  go_ret
  exact ⟨by simp, rfl⟩

theorem Compare_any (a b : Int) (w : World) : Calls Tryz.prog 190 #[.int .i64 a, .int .i64 b] w fun e w' => e = .returned (.int .i64 (cmpI a b)) ∧ w = w' := by
  by_cases h1 : a < b
  · go_enter Tryz.func190, Tryz.ntmps190
    go_wp2_with (go_at_call 209; refine (isNaN_any _ _).mono ?_; rintro e w' ⟨rfl, rfl⟩)
    go_ret
    exact ⟨by simp [cmpI, h1], rfl⟩
  · by_cases h2 : b < a
    all_goals
      go_enter Tryz.func190, Tryz.ntmps190
      go_wp2_with (go_at_call 209; refine (isNaN_any _ _).mono ?_; rintro e w' ⟨rfl, rfl⟩)
      go_ret
      exact ⟨by rw [cmpI, if_neg (by omega)]; first | rw [if_pos (by omega)]; rfl | rw [if_neg (by omega)]; rfl, rfl⟩

/-- 'cmp.Compare(a.Pack, b.Pack)': two boxes are laid. -/
theorem byPack_any (x y : Paper) (W : World) : Calls Tryz.prog 189 #[.agg x.vals.toArray, .agg y.vals.toArray] W fun e w' => e = .returned (.int .i64 (cmpI x.pack y.pack)) ∧ ∃ q os', w' = grow (W.drewN q) os' := by
  have hcon := fun W' => Compare_any x.pack y.pack W'
  show Calls Tryz.prog 189 #[.agg #[.int .i64 x.id, .int .i64 x.known, .int .u8 x.kind, .int .i64 x.loss, .int .i64 x.pack, .int .i64 x.inn, .string x.mark, .string x.goods, .int .i64 x.lo, .int .i64 x.hi, .int .i64 x.pieces, .int .i64 x.owner, .int .i64 x.count, .int .i64 x.of], .agg #[.int .i64 y.id, .int .i64 y.known, .int .u8 y.kind, .int .i64 y.loss, .int .i64 y.pack, .int .i64 y.inn, .string y.mark, .string y.goods, .int .i64 y.lo, .int .i64 y.hi, .int .i64 y.pieces, .int .i64 y.owner, .int .i64 y.count, .int .i64 y.of]] W _
  generalize cmpI x.pack y.pack = r at hcon ⊢
  go_enter Tryz.func189, Tryz.ntmps189
  go_wp2_with (go_at_call 190; refine (hcon _).mono ?_; rintro e w' ⟨rfl, rfl⟩)
  go_ret
  exact ⟨rfl, 0, _, by rw [alloc_eq_grow, alloc_eq_grow, grow_grow]; rfl⟩

theorem ltPack (x y : Paper) : ltOf (fun x y : Paper => cmpI x.pack y.pack) x y = decide (x.pack < y.pack) := by
  unfold ltOf cmpI
  by_cases h1 : x.pack < y.pack
  · simp [h1]
  · by_cases h2 : y.pack < x.pack <;> simp [h1, h2]

theorem swoPack : SWO (ltOf fun x y : Paper => cmpI x.pack y.pack) where
  irrefl x := by rw [ltPack]; simp
  trans x y z h1 h2 := by rw [ltPack] at *; simp at *; omega
  ntrans x y z h1 h2 := by rw [ltPack] at *; simp at *; omega

theorem flat_at (l : List Paper) (t : Nat) (ht : t < l.length * 14) : (l.flatMap Paper.vals)[t]? = some (((l.toArray)[t / 14]!).vals[t % 14]!) := by
  have hd : t / 14 < l.length := by omega
  have hm : t % 14 < 14 := Nat.mod_lt _ (by omega)
  have h := flat_get vals_len l (t / 14) (t % 14) hd hm
  rw [show t / 14 * 14 + t % 14 = t by omega] at h
  rw [h]
  have e1 : (l.toArray)[t / 14]! = l[t / 14] := by simp [hd]
  rw [e1]
  have hv : t % 14 < (l[t / 14]).vals.length := by rw [vals_len]; exact hm
  rw [List.getElem?_eq_getElem hv, List.getElem!_eq_getElem?_getD, List.getElem?_eq_getElem hv]; rfl

theorem sorted_of (d : Array Paper) (h : SortedIn (ltOf fun x y : Paper => cmpI x.pack y.pack) 0 d.size d) : d.toList.Pairwise (fun x y => x.pack ≤ y.pack) := by
  rw [List.pairwise_iff_getElem]
  intro i j hi hj hij
  have := h i j (Nat.zero_le _) hij (by simpa using hj)
  rw [ltPack] at this
  have hi' : i < d.size := by simpa using hi
  have hj' : j < d.size := by simpa using hj
  rw [getElem!_pos d j hj', getElem!_pos d i hi'] at this
  simp only [Array.getElem_toList]
  simp at this
  omega

set_option maxHeartbeats 1000000 in
/-- slices.SortFunc(papers, by Pack): a permutation, ascending; the row is written, and new blocks are laid. -/
theorem SortPapers_any (v : Value) (ls : List Paper) (base : Nat) (w : World) (hown : w.ownsRow base 28 14 v ls.length (ls.flatMap Paper.vals)) (hn : ls.length ≤ 1000) :
    Calls Tryz.prog 191 #[v, .func (.func 189) #[] #[]] w fun e w' => e = .returned (.tuple #[]) ∧ ∃ ls' : List Paper, ls'.Perm ls ∧ ls'.Pairwise (fun x y => x.pack ≤ y.pack) ∧ w'.ownsRow base 28 14 v ls'.length (ls'.flatMap Paper.vals) ∧ w.grownBy w' v.ownBlock := by
  rcases Nat.eq_zero_or_pos ls.length with h0 | hpos
  · have hls : ls = [] := List.length_eq_zero_iff.1 h0
    subst hls
    obtain ⟨h1, h2⟩ := hown
    have hv : ∃ p c, v = .slice p 0 c := by
      rcases h2 with ⟨rfl, _⟩ | ⟨g, cap, cur, rfl, _⟩
      · exact ⟨_, _, rfl⟩
      · exact ⟨_, _, rfl⟩
    obtain ⟨p, c, rfl⟩ := hv
    refine (AnyF.slices_SortFunc_none Tryz.sortPapers p c _ w).mono ?_
    rintro e w' ⟨rfl, rfl⟩
    exact ⟨rfl, [], .refl _, .nil, ⟨h1, h2⟩, World.grownBy.refl _ _⟩
  · obtain ⟨h1, h2⟩ := hown
    rcases h2 with ⟨_, h⟩ | ⟨g, cap, cur, rfl, hg, hh, hn', hc, hs, ht⟩
    · omega
    have hown : w.ownsRow base 28 14 (.slice (some ⟨g, 0, none⟩) ls.length cap) ls.length (ls.flatMap Paper.vals) := ⟨h1, .inr ⟨g, cap, cur, rfl, hg, hh, hn', hc, hs, ht⟩⟩
    have hblk : g < w.heap.size := (Array.getElem?_eq_some_iff.1 hh).1
    have hH : HoldsK Paper.vals 14 w g 0 ls.toArray := by
      intro j hj
      simp only [size_flatK, List.size_toArray] at hj
      refine ⟨?_, ?_⟩
      · rw [Nat.zero_add, hown.cellAt j hj, flat_at ls j hj, get_flatK _ _ _ _ (by simpa using hj)]; rfl
      · exact hown.frozenAt _
    have hcon := AnyQ.slices_SortFunc Tryz.sortPapers 14 Tryz.isAgg28 Tryz.sizeOf28 Paper.vals vals_len (fun x v hv => vals_one [x] v (by simpa using hv)) (fun x y : Paper => cmpI x.pack y.pack) swoPack 189 #[] g 0 cap ls.toArray w
      (enters_of Tryz.func189 (by kernel_rfl) rfl) (fun _ _ _ _ x y => byPack_any x y _) hH hblk (by simp; omega)
    refine Calls.mono hcon ?_
    rintro e w' ⟨rfl, d', n, os, ⟨p1, p2, p3⟩, hso, rfl⟩
    have hsz : d'.size = ls.length := by simpa using p1
    have hp : d'.toList.Perm ls := by
      have e1 : d'.extract 0 ls.toArray.size = d' := by rw [← p1]; simp
      rw [e1] at p3
      simpa using p3
    refine ⟨rfl, d'.toList, hp, ?_, ?_, ?_⟩
    · refine sorted_of d' ?_
      rw [p1]; exact hso
    · have hl' : d'.toList.length = ls.length := hp.length_eq
      have hheap : (sortWorldK Paper.vals 14 w g 0 n d' os).heap[g]? = some (.cells (putCells id 0 (flatK Paper.vals 14 d') cur) 28 (0, 0)) := by
        unfold sortWorldK
        rw [heap_grow_old _ _ (by simp [putRowK, putRow, mapBlock, Sort.ahead]; exact hblk)]
        have hh' : (Sort.ahead w n).heap[g]? = some (.cells cur 28 (0, 0)) := hh
        simp only [putRowK, putRow, mapBlock, Array.getElem?_modify, if_true, hh', Option.map_some, onCells]
      rw [hl']
      refine ⟨by rw [flat_len vals_len, hl'], .inr ⟨g, cap, _, rfl, hg, hheap, hn', hc, by simp [putCells, hs], ?_⟩⟩
      apply List.ext_getElem?
      intro t
      by_cases htt : t < ls.length * 14
      · rw [List.getElem?_take_of_lt htt, flat_at _ t (by rw [hl']; exact htt)]
        have hcap : t < cap * 14 := Nat.lt_of_lt_of_le htt (Nat.mul_le_mul_right _ hn')
        have htc : t < cur.size := by rw [hs]; exact hcap
        simp only [putCells, Array.getElem?_toList, Array.getElem?_mapIdx, size_flatK, hsz, Nat.zero_add, Nat.sub_zero, Array.getElem?_eq_getElem htc, Option.map_some]
        rw [if_pos ⟨Nat.zero_le _, htt⟩, get_flatK _ _ _ _ (by rw [hsz]; exact htt)]
        rfl
      · rw [List.getElem?_eq_none (by simp [putCells, hs]; omega), List.getElem?_eq_none (by rw [flat_len vals_len, hl']; omega)]
    · refine ⟨rfl, rfl, rfl, ?_, fun k hk hne => ?_⟩
      · simp [sortWorldK, grow, putRowK, putRow, mapBlock, Sort.ahead]
      · have hkg : g ≠ k := fun q => hne (by rw [q]; rfl)
        unfold sortWorldK
        rw [heap_grow_old _ _ (by simp [putRowK, putRow, mapBlock, Sort.ahead]; exact hk)]
        simp [putRowK, putRow, mapBlock, Array.getElem?_modify, hkg, Sort.ahead]

end Go.Proofs.YtpffpofdceppiaaGreatDoor
