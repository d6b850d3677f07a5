/- A part of the proof that laganlaw01.CargoTexts answers true at every input and leaves its arguments as they were; the conditions are those of the given row and card, nothing else. -/
import Derived.Test.YtpffpofdceppiaaGreatDoorKP1
import Derived.Laws.Pointers
import Derived.Shelf.SlSortCmp.WholeK
import Derived.Shelf.SlSortCmp.NoneTotal
import Derived.Ground.SlsfProg
import Derived.Test.YtpffpofdceppiaaGreatDoorProg
import Derived.Test.YtpffpofdceppiaaGreatDoorKA8
set_option linter.unusedSimpArgs false
set_option linter.unusedVariables false
namespace Go.Proofs.YtpffpofdceppiaaGreatDoor
open Go.RowKit Go.Shelf

/-- A reader: words in block g, k of them taken. -/
structure RdAt (w : World) (b g : Nat) (ws : List ByteArray) (k : Nat) : Prop where
  cell : ∃ a : Addr, w.cell? ⟨b, 0, none⟩ = some (.slice (some a) (ws.length - k) (ws.length - k)) ∧ (k < ws.length → a = ⟨g, k, none⟩)
  free : w.frozen? ⟨b, 0, none⟩ = false
  len : ws.length ≤ 100000
  words : ∀ j (h : j < ws.length), w.cell? ⟨g, j, none⟩ = some (.string ws[j])
  ne : g ≠ b

theorem cell_lt {w : World} {a : Addr} {v : Value} (h : w.cell? a = some v) : a.block < w.heap.size := by
  rcases Nat.lt_or_ge a.block w.heap.size with h' | h'
  · exact h'
  · simp [World.cell?, Array.getElem?_eq_none h'] at h

theorem RdAt.below {w w' : World} {b g : Nat} {ws : List ByteArray} {k : Nat} (h : RdAt w b g ws k) (hg : g < w.heap.size) (hb : Below w.heap.size w w') : RdAt w' b g ws k := by
  obtain ⟨⟨a, h1, h1'⟩, h2, h3, h4, h5⟩ := h
  have hbb : b < w.heap.size := by
    exact cell_lt h1
  exact ⟨⟨a, (hb.cell (p := ⟨b, 0, none⟩) hbb).trans h1, h1'⟩, (hb.frozen (p := ⟨b, 0, none⟩) hbb).trans h2, h3, fun j hj => (hb.cell (p := ⟨g, j, none⟩) hg).trans (h4 j hj), h5⟩

def formlessV : Value := .iface 93 (.agg #[])

theorem RdAt.step {w : World} {b g : Nat} {ws : List ByteArray} {k : Nat} (h : RdAt w b g ws k) (a : Addr) (ha : k + 1 < ws.length → a = ⟨g, k + 1, none⟩) (m : Nat) (hm : m = ws.length - (k + 1)) : RdAt (w.setCell ⟨b, 0, none⟩ (.slice (some a) m m)) b g ws (k + 1) := by
  obtain ⟨⟨a0, h1, h1'⟩, h2, h3, h4, h5⟩ := h
  subst hm
  exact ⟨⟨a, by go_simp, ha⟩, by go_simp, h3, fun j hj => by have := h4 j hj; go_simp, h5⟩

set_option maxRecDepth 100000 in
set_option maxHeartbeats 4000000 in
theorem next_any (b g : Nat) (ws : List ByteArray) (k : Nat) (w : World) (h : RdAt w b g ws k) :
    Calls Tryz.prog 156 #[.pointer (some ⟨b, 0, none⟩)] w fun e w' =>
      (∃ s, ws[k]? = some s ∧ e = .returned (.string s) ∧ ∃ v, w' = w.setCell ⟨b, 0, none⟩ v ∧ RdAt w' b g ws (k + 1)) ∨
      (ws[k]? = none ∧ e = .panicked [{ v := formlessV, recovered := false }] ∧ w' = w) := by
  have hst := Lib.hid (h.step)
  obtain ⟨⟨a, h1, h1'⟩, h2, h4, h5, h6⟩ := h
  by_cases hk : k < ws.length
  · have h7 := h5 k hk
    obtain rfl := h1' hk
    have hs : Hid (ws[k]? = some ws[k]) := by show _ = _; exact List.getElem?_eq_getElem hk
    generalize ws[k] = s at *
    have hst2 := Lib.hid (fun a ha => hst.out a ha (ws.length - k - 1) (by omega))
    have hlk : Hid (k + 1 < ws.length → ws.length - k ≠ 1) := fun h => by omega
    clear h5 h1' hst
    generalize hm : ws.length - k = m at *
    have hm1 : 1 ≤ m := by omega
    have hm2 : m ≤ 100000 := by omega
    have hm0 : (((m : Nat) : Int) == 0) = false := by simp; omega
    clear hm
    by_cases h11 : m = 1
    · subst h11
      go_enter Tryz.func156, Tryz.ntmps156
      go_wp2
      go_ret
      exact .inl ⟨_, hs.out, rfl, _, rfl, hst2.out _ (fun h => absurd rfl (hlk.out h))⟩
    · go_enter Tryz.func156, Tryz.ntmps156
      go_wp2
      go_ret
      exact .inl ⟨_, hs.out, rfl, _, rfl, hst2.out _ (fun h => rfl)⟩
  · have hs : Hid (ws[k]? = none) := by show _ = _; exact List.getElem?_eq_none (by omega)
    have hm : ws.length - k = 0 := by omega
    rw [hm] at h1
    clear h5 h1' hst hm
    go_enter Tryz.func156, Tryz.ntmps156
    go_wp2
    exact ⟨rfl, .inr ⟨hs.out, rfl, rfl⟩⟩

end Go.Proofs.YtpffpofdceppiaaGreatDoor

/-
  DERIVED: THE SHELF's CONTRACTS AT THIS DUMP, IN PLAIN WORDS (tools/lay-plain.mjs out of 'YtpffpofdceppiaaGreatDoorS0.lean', which tools/lay-shelf.mjs wrote): THE SAME DECLARATIONS UNDER THE SAME NAMES: 'import', 'namespace', 'open', 'def', 'theorem' AND NOTHING ELSE: no command of the shelf's: FOR A HAND-IN. Each laying: the table of numbers ('.._ren') and one theorem, a field a fact of the dump's own or the kernel's comparison; each contract: ONE APPLICATION.
-/
namespace Go.Proofs
open Go.Shelf
def Tryz.sortPapers_ren : Go.Shelf.Ren := ⟨fun | 6 => 191 | 15 => 211 | 14 => 210 | 28 => 234 | 29 => 216 | 20 => 226 | 21 => 227 | 22 => 228 | 23 => 229 | 24 => 230 | 25 => 231 | 26 => 232 | 27 => 233 | 46 => 250 | 47 => 251 | 48 => 252 | 49 => 253 | 50 => 254 | 57 => 260 | n => n, fun | 22 => 30 | 24 => 28 | 25 => 191 | 3 => 3 | 39 => 196 | 0 => 0 | 53 => 211 | 55 => 198 | 4 => 4 | 46 => 227 | 45 => 226 | 50 => 136 | 5 => 5 | 9 => 9 | 66 => 244 | 70 => 248 | 76 => 262 | 77 => 263 | n => n, fun | n => n⟩
theorem Tryz.sortPapers : Go.Proofs.SlLaysF0.n6 Tryz.prog Tryz.sortPapers_ren := {
  mixed := by kernel_rfl
  f6 := ⟨Tryz.f191.name, by decide, Tryz.func191.trans (congrArg some (by kernel_rfl))⟩
  f14 := ⟨Tryz.f210.name, by decide, Tryz.func210.trans (congrArg some (by kernel_rfl))⟩
  f15 := Tryz.func211.trans (congrArg some (by kernel_rfl))
  f20 := ⟨Tryz.f226.name, by decide, Tryz.func226.trans (congrArg some (by kernel_rfl))⟩
  f21 := ⟨Tryz.f227.name, by decide, Tryz.func227.trans (congrArg some (by kernel_rfl))⟩
  f22 := ⟨Tryz.f228.name, by decide, Tryz.func228.trans (congrArg some (by kernel_rfl))⟩
  f23 := ⟨Tryz.f229.name, by decide, Tryz.func229.trans (congrArg some (by kernel_rfl))⟩
  f24 := ⟨Tryz.f230.name, by decide, Tryz.func230.trans (congrArg some (by kernel_rfl))⟩
  f25 := ⟨Tryz.f231.name, by decide, Tryz.func231.trans (congrArg some (by kernel_rfl))⟩
  f26 := ⟨Tryz.f232.name, by decide, Tryz.func232.trans (congrArg some (by kernel_rfl))⟩
  f27 := ⟨Tryz.f233.name, by decide, Tryz.func233.trans (congrArg some (by kernel_rfl))⟩
  f28 := Tryz.func234.trans (congrArg some (by kernel_rfl))
  f29 := Tryz.func216.trans (congrArg some (by kernel_rfl))
  f46 := ⟨Tryz.f250.name, by decide, Tryz.func250.trans (congrArg some (by kernel_rfl))⟩
  f47 := Tryz.func251.trans (congrArg some (by kernel_rfl))
  f48 := Tryz.func252.trans (congrArg some (by kernel_rfl))
  f49 := ⟨Tryz.f253.name, by decide, Tryz.func253.trans (congrArg some (by kernel_rfl))⟩
  f50 := ⟨Tryz.f254.name, by decide, Tryz.func254.trans (congrArg some (by kernel_rfl))⟩
  f57 := ⟨Tryz.f260.name, by decide, Tryz.func260.trans (congrArg some (by kernel_rfl))⟩
  t0 := Tryz.underlying0
  a0 := Tryz.isAgg0
  z0 := Tryz.sizeOf0
  v0 := Tryz.zeroValue0
  t3 := Tryz.underlying3
  a3 := Tryz.isAgg3
  z3 := Tryz.sizeOf3
  v3 := Tryz.zeroValue3
  t4 := Tryz.underlying4
  a4 := Tryz.isAgg4
  z4 := Tryz.sizeOf4
  v4 := Tryz.zeroValue4
  t5 := Tryz.underlying5
  a5 := Tryz.isAgg5
  z5 := Tryz.sizeOf5
  v5 := Tryz.zeroValue5
  t9 := Tryz.underlying9
  a9 := Tryz.isAgg9
  z9 := Tryz.sizeOf9
  v9 := Tryz.zeroValue9
  t22 := Tryz.underlying30
  a22 := Tryz.isAgg30
  z22 := Tryz.sizeOf30
  v22 := Tryz.zeroValue30
  t25 := Tryz.underlying191
  a25 := Tryz.isAgg191
  z25 := Tryz.sizeOf191
  v25 := Tryz.zeroValue191
  t39 := Tryz.underlying196
  a39 := Tryz.isAgg196
  z39 := Tryz.sizeOf196
  v39 := Tryz.zeroValue196
  t45 := Tryz.underlying226
  a45 := Tryz.isAgg226
  z45 := Tryz.sizeOf226
  v45 := Tryz.zeroValue226
  t46 := Tryz.underlying227
  a46 := Tryz.isAgg227
  z46 := Tryz.sizeOf227
  v46 := Tryz.zeroValue227
  t50 := Tryz.underlying136
  a50 := Tryz.isAgg136
  z50 := Tryz.sizeOf136
  v50 := Tryz.zeroValue136
  t53 := Tryz.underlying211
  a53 := Tryz.isAgg211
  z53 := Tryz.sizeOf211
  v53 := Tryz.zeroValue211
  t55 := Tryz.underlying198
  a55 := Tryz.isAgg198
  z55 := Tryz.sizeOf198
  v55 := Tryz.zeroValue198
  t66 := Tryz.underlying244
  a66 := Tryz.isAgg244
  z66 := Tryz.sizeOf244
  v66 := Tryz.zeroValue244
  t70 := Tryz.underlying248
  a70 := Tryz.isAgg248
  z70 := Tryz.sizeOf248
  v70 := Tryz.zeroValue248
  t76 := Tryz.underlying262
  a76 := Tryz.isAgg262
  z76 := Tryz.sizeOf262
  v76 := Tryz.zeroValue262
  t77 := Tryz.underlying263
  a77 := Tryz.isAgg263
  z77 := Tryz.sizeOf263
  v77 := Tryz.zeroValue263 }
end Go.Proofs

set_option linter.unusedSimpArgs false
set_option linter.unusedVariables false
namespace Go.Proofs.YtpffpofdceppiaaGreatDoor
open Go.RowKit Go.Shelf Go.Sort

def cmpI (a b : Int) : Int := if a < b then -1 else if b < a then 1 else 0

theorem isNaN_any (a : Int) (w : World) : Calls Tryz.prog 209 #[.int .i64 a] w fun e w' => e = .returned (.bool false) ∧ w = w' := by
  go_enter Tryz.func209, Tryz.ntmps209
  go_wp2
  go_ret
  exact ⟨by simp, rfl⟩

theorem Compare_any (a b : Int) (w : World) : Calls Tryz.prog 190 #[.int .i64 a, .int .i64 b] w fun e w' => e = .returned (.int .i64 (cmpI a b)) ∧ w = w' := by
  by_cases h1 : a < b
  · go_enter Tryz.func190, Tryz.ntmps190
    go_wp2_with (go_at_call 209; refine (isNaN_any _ _).mono ?_; rintro e w' ⟨rfl, rfl⟩)
    go_ret
    exact ⟨by simp [cmpI, h1], rfl⟩
  · by_cases h2 : b < a
    all_goals
      go_enter Tryz.func190, Tryz.ntmps190
      go_wp2_with (go_at_call 209; refine (isNaN_any _ _).mono ?_; rintro e w' ⟨rfl, rfl⟩)
      go_ret
      exact ⟨by rw [cmpI, if_neg (by omega)]; first | rw [if_pos (by omega)]; rfl | rw [if_neg (by omega)]; rfl, rfl⟩

/-- 'cmp.Compare(a.Pack, b.Pack)': two boxes are laid. -/
theorem byPack_any (x y : Paper) (W : World) : Calls Tryz.prog 189 #[.agg x.vals.toArray, .agg y.vals.toArray] W fun e w' => e = .returned (.int .i64 (cmpI x.pack y.pack)) ∧ ∃ q os', w' = grow (W.drewN q) os' := by
  have hcon := fun W' => Compare_any x.pack y.pack W'
  show Calls Tryz.prog 189 #[.agg #[.int .i64 x.id, .int .i64 x.known, .int .u8 x.kind, .int .i64 x.loss, .int .i64 x.pack, .int .i64 x.inn, .string x.mark, .string x.goods, .int .i64 x.lo, .int .i64 x.hi, .int .i64 x.pieces, .int .i64 x.owner, .int .i64 x.count, .int .i64 x.of], .agg #[.int .i64 y.id, .int .i64 y.known, .int .u8 y.kind, .int .i64 y.loss, .int .i64 y.pack, .int .i64 y.inn, .string y.mark, .string y.goods, .int .i64 y.lo, .int .i64 y.hi, .int .i64 y.pieces, .int .i64 y.owner, .int .i64 y.count, .int .i64 y.of]] W _
  generalize cmpI x.pack y.pack = r at hcon ⊢
  go_enter Tryz.func189, Tryz.ntmps189
  go_wp2_with (go_at_call 190; refine (hcon _).mono ?_; rintro e w' ⟨rfl, rfl⟩)
  go_ret
  exact ⟨rfl, 0, _, by rw [alloc_eq_grow, alloc_eq_grow, grow_grow]; rfl⟩

theorem ltPack (x y : Paper) : ltOf (fun x y : Paper => cmpI x.pack y.pack) x y = decide (x.pack < y.pack) := by
  unfold ltOf cmpI
  by_cases h1 : x.pack < y.pack
  · simp [h1]
  · by_cases h2 : y.pack < x.pack <;> simp [h1, h2]

theorem swoPack : SWO (ltOf fun x y : Paper => cmpI x.pack y.pack) where
  irrefl x := by rw [ltPack]; simp
  trans x y z h1 h2 := by rw [ltPack] at *; simp at *; omega
  ntrans x y z h1 h2 := by rw [ltPack] at *; simp at *; omega

theorem flat_at (l : List Paper) (t : Nat) (ht : t < l.length * 14) : (l.flatMap Paper.vals)[t]? = some (((l.toArray)[t / 14]!).vals[t % 14]!) := by
  have hd : t / 14 < l.length := by omega
  have hm : t % 14 < 14 := Nat.mod_lt _ (by omega)
  have h := flat_get vals_len l (t / 14) (t % 14) hd hm
  rw [show t / 14 * 14 + t % 14 = t by omega] at h
  rw [h]
  have e1 : (l.toArray)[t / 14]! = l[t / 14] := by simp [hd]
  rw [e1]
  have hv : t % 14 < (l[t / 14]).vals.length := by rw [vals_len]; exact hm
  rw [List.getElem?_eq_getElem hv, List.getElem!_eq_getElem?_getD, List.getElem?_eq_getElem hv]; rfl

theorem sorted_of (d : Array Paper) (h : SortedIn (ltOf fun x y : Paper => cmpI x.pack y.pack) 0 d.size d) : d.toList.Pairwise (fun x y => x.pack ≤ y.pack) := by
  rw [List.pairwise_iff_getElem]
  intro i j hi hj hij
  have := h i j (Nat.zero_le _) hij (by simpa using hj)
  rw [ltPack] at this
  have hi' : i < d.size := by simpa using hi
  have hj' : j < d.size := by simpa using hj
  rw [getElem!_pos d j hj', getElem!_pos d i hi'] at this
  simp only [Array.getElem_toList]
  simp at this
  omega

set_option maxHeartbeats 1000000 in
/-- slices.SortFunc(papers, by Pack): a permutation, ascending; the row is written, and new blocks are laid. -/
theorem SortPapers_any (v : Value) (ls : List Paper) (base : Nat) (w : World) (hown : w.ownsRow base 28 14 v ls.length (ls.flatMap Paper.vals)) (hn : ls.length ≤ 1000) :
    Calls Tryz.prog 191 #[v, .func (.func 189) #[] #[]] w fun e w' => e = .returned (.tuple #[]) ∧ ∃ ls' : List Paper, ls'.Perm ls ∧ ls'.Pairwise (fun x y => x.pack ≤ y.pack) ∧ w'.ownsRow base 28 14 v ls'.length (ls'.flatMap Paper.vals) ∧ w.grownBy w' v.ownBlock := by
  rcases Nat.eq_zero_or_pos ls.length with h0 | hpos
  · have hls : ls = [] := List.length_eq_zero_iff.1 h0
    subst hls
    obtain ⟨h1, h2⟩ := hown
    have hv : ∃ p c, v = .slice p 0 c := by
      rcases h2 with ⟨rfl, _⟩ | ⟨g, cap, cur, rfl, _⟩
      · exact ⟨_, _, rfl⟩
      · exact ⟨_, _, rfl⟩
    obtain ⟨p, c, rfl⟩ := hv
    refine (AnyF.slices_SortFunc_none Tryz.sortPapers p c _ w).mono ?_
    rintro e w' ⟨rfl, rfl⟩
    exact ⟨rfl, [], .refl _, .nil, ⟨h1, h2⟩, World.grownBy.refl _ _⟩
  · obtain ⟨h1, h2⟩ := hown
    rcases h2 with ⟨_, h⟩ | ⟨g, cap, cur, rfl, hg, hh, hn', hc, hs, ht⟩
    · omega
    have hown : w.ownsRow base 28 14 (.slice (some ⟨g, 0, none⟩) ls.length cap) ls.length (ls.flatMap Paper.vals) := ⟨h1, .inr ⟨g, cap, cur, rfl, hg, hh, hn', hc, hs, ht⟩⟩
    have hblk : g < w.heap.size := (Array.getElem?_eq_some_iff.1 hh).1
    have hH : HoldsK Paper.vals 14 w g 0 ls.toArray := by
      intro j hj
      simp only [size_flatK, List.size_toArray] at hj
      refine ⟨?_, ?_⟩
      · rw [Nat.zero_add, hown.cellAt j hj, flat_at ls j hj, get_flatK _ _ _ _ (by simpa using hj)]; rfl
      · exact hown.frozenAt _
    have hcon := AnyQ.slices_SortFunc Tryz.sortPapers 14 Tryz.isAgg28 Tryz.sizeOf28 Paper.vals vals_len (fun x v hv => vals_one [x] v (by simpa using hv)) (fun x y : Paper => cmpI x.pack y.pack) swoPack 189 #[] g 0 cap ls.toArray w
      (enters_of Tryz.func189 (by kernel_rfl) rfl) (fun _ _ _ _ x y => byPack_any x y _) hH hblk (by simp; omega)
    refine Calls.mono hcon ?_
    rintro e w' ⟨rfl, d', n, os, ⟨p1, p2, p3⟩, hso, rfl⟩
    have hsz : d'.size = ls.length := by simpa using p1
    have hp : d'.toList.Perm ls := by
      have e1 : d'.extract 0 ls.toArray.size = d' := by rw [← p1]; simp
      rw [e1] at p3
      simpa using p3
    refine ⟨rfl, d'.toList, hp, ?_, ?_, ?_⟩
    · refine sorted_of d' ?_
      rw [p1]; exact hso
    · have hl' : d'.toList.length = ls.length := hp.length_eq
      have hheap : (sortWorldK Paper.vals 14 w g 0 n d' os).heap[g]? = some (.cells (putCells id 0 (flatK Paper.vals 14 d') cur) 28 (0, 0)) := by
        unfold sortWorldK
        rw [heap_grow_old _ _ (by simp [putRowK, putRow, mapBlock, Sort.ahead]; exact hblk)]
        have hh' : (Sort.ahead w n).heap[g]? = some (.cells cur 28 (0, 0)) := hh
        simp only [putRowK, putRow, mapBlock, Array.getElem?_modify, if_true, hh', Option.map_some, onCells]
      rw [hl']
      refine ⟨by rw [flat_len vals_len, hl'], .inr ⟨g, cap, _, rfl, hg, hheap, hn', hc, by simp [putCells, hs], ?_⟩⟩
      apply List.ext_getElem?
      intro t
      by_cases htt : t < ls.length * 14
      · rw [List.getElem?_take_of_lt htt, flat_at _ t (by rw [hl']; exact htt)]
        have hcap : t < cap * 14 := Nat.lt_of_lt_of_le htt (Nat.mul_le_mul_right _ hn')
        have htc : t < cur.size := by rw [hs]; exact hcap
        simp only [putCells, Array.getElem?_toList, Array.getElem?_mapIdx, size_flatK, hsz, Nat.zero_add, Nat.sub_zero, Array.getElem?_eq_getElem htc, Option.map_some]
        rw [if_pos ⟨Nat.zero_le _, htt⟩, get_flatK _ _ _ _ (by rw [hsz]; exact htt)]
        rfl
      · rw [List.getElem?_eq_none (by simp [putCells, hs]; omega), List.getElem?_eq_none (by rw [flat_len vals_len, hl']; omega)]
    · refine ⟨rfl, rfl, rfl, ?_, fun k hk hne => ?_⟩
      · simp [sortWorldK, grow, putRowK, putRow, mapBlock, Sort.ahead]
      · have hkg : g ≠ k := fun q => hne (by rw [q]; rfl)
        unfold sortWorldK
        rw [heap_grow_old _ _ (by simp [putRowK, putRow, mapBlock, Sort.ahead]; exact hk)]
        simp [putRowK, putRow, mapBlock, Array.getElem?_modify, hkg, Sort.ahead]

end Go.Proofs.YtpffpofdceppiaaGreatDoor
