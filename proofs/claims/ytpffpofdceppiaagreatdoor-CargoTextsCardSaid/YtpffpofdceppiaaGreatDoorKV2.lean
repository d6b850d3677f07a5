/- A part of the proof that laganlaw01.CargoTexts answers true at every input and leaves its arguments as they were; the conditions are those of the given row and card, nothing else. -/
import Derived.Test.YtpffpofdceppiaaGreatDoorKO4
import Derived.Test.YtpffpofdceppiaaGreatDoorKH2
set_option linter.unusedSimpArgs false
set_option linter.unusedVariables false
namespace Go.Proofs.YtpffpofdceppiaaGreatDoor
open Go.RowKit Go.Shelf

set_option maxRecDepth 100000 in
theorem Grow_any (n : Nat) (w : World) (hn : n ≤ 100000) :
    Calls Tryz.prog 195 #[.slice none 0 0, .int .i64 n] w fun e w' => ∃ v, e = .returned v ∧ w'.ownsRow w.heap.size 28 14 v 0 [] ∧ Below w.heap.size w w' := by
  rcases Nat.eq_zero_or_pos n with h0 | hpos
  · subst h0
    refine (Any8.slices_Grow_room Tryz.growP none 0 0 0 w (Nat.le_refl _) (by omega) (by omega) (by omega)).mono ?_
    rintro e w' ⟨rfl, rfl⟩
    exact ⟨_, rfl, World.ownsRow_nil _ _ _ _, Below.refl _ _⟩
  · obtain ⟨i0, hi, hz0, hz1, hz2⟩ := info_parts Tryz.info28
    refine Calls.mono (Any8.slices_Grow_grow Tryz.growP i0 _ hi hz0 (by rw [hz1]; omega) none 0 0 n [] w (Nat.le_refl _) (by omega) (by rw [hz2]; omega) (by omega) (by simp) (fun _ => rfl) (fun a h => by cases h)) ?_
    rintro e w' ⟨rfl, rfl⟩
    have hc1 := grownCap_ge w (0 + n) 0 28
    have hc2 := grownCap_le_maxLen w (0 + n) 0 28 (by unfold maxLen; omega)
    refine ⟨_, rfl, ⟨rfl, .inr ⟨w.heap.size, _, _, rfl, Nat.le_refl _, World.alloc_heap_new w.drew _, Nat.zero_le _, hc2, ?_, by simp⟩⟩, (Below.refl _ w).drew.alloc (Nat.le_refl _) _⟩
    show (_ : Array Value).size = grownCap w (0 + n) 0 28 * 14
    have hzz : (Value.agg Paper.zero.vals.toArray).cells.size = 14 := rfl
    rw [Array.size_append, Array.size_append, size_zeroCells, size_zeroCells, hzz]
    simp only [List.size_toArray, List.length_nil, Nat.zero_add, Nat.sub_zero]
    rw [Nat.zero_add] at hc1
    rw [← Nat.add_mul]
    congr 1
    show n + (grownCap w n 0 28 - n) = grownCap w n 0 28
    omega

/-- A slice that is appended. -/
def Src (w : World) (v : Value) (l : List Paper) : Prop :=
  (v = .slice none 0 0 ∧ l = []) ∨ ∃ (ad : Addr) (c : Nat), v = .slice (some ad) l.length c ∧ (∀ j u, (l.flatMap Paper.vals)[j]? = some u → w.cell? (ad.add j) = some u) ∧ (0 < l.length → ad.block < w.heap.size)

theorem Src.of {w : World} {v : Value} {l : List Paper} (h : PapersAt w v l) : Src w v l := by
  obtain ⟨a, c, rfl, h1, h2, h3⟩ := h
  cases a with
  | none =>
    have hc : c = 0 := by
      rcases Nat.eq_zero_or_pos c with h | h
      · exact h
      · obtain ⟨b, off, h, _⟩ := h3 h
        cases h
    subst hc
    have hl : l = [] := List.length_eq_zero_iff.1 (by omega)
    subst hl
    exact .inl ⟨rfl, rfl⟩
  | some ad =>
    refine .inr ⟨ad, c, rfl, ?_, fun h => ?_⟩
    · rcases Nat.eq_zero_or_pos c with h | h
      · have hl : l = [] := List.length_eq_zero_iff.1 (by omega)
        subst hl
        intro j u hu
        simp at hu
      · obtain ⟨b, off, h', _, hcell⟩ := h3 h
        cases h'
        exact Rows.flat vals_len hcell
    · obtain ⟨b, off, h', hb, _⟩ := h3 (by omega)
      cases h'
      exact hb

theorem Src.below {w w' : World} {v : Value} {l : List Paper} (h : Src w v l) (hb : Below w.heap.size w w') : Src w' v l := by
  rcases h with h | ⟨ad, c, rfl, h1, h2⟩
  · exact .inl h
  · refine .inr ⟨ad, c, rfl, fun j u hu => ?_, fun h => Nat.lt_of_lt_of_le (h2 h) hb.size⟩
    have hl : 0 < l.length := by
      rcases Nat.eq_zero_or_pos l.length with h | h
      · have : l = [] := List.length_eq_zero_iff.1 h
        subst this
        simp at hu
      · exact h
    exact (hb.cell (p := ad.add j) (by unfold Addr.add; split <;> exact h2 hl)).trans (h1 j u hu)

theorem Src.shape {w : World} {v : Value} {l : List Paper} (h : Src w v l) : ∃ a c, v = .slice a l.length c := by
  rcases h with ⟨rfl, rfl⟩ | ⟨ad, c, rfl, _⟩
  · exact ⟨_, _, rfl⟩
  · exact ⟨_, _, rfl⟩

set_option maxRecDepth 100000 in
set_option maxHeartbeats 8000000 in
theorem Concat_any (b : Nat) (vp vt : Value) (ps ts : List Paper) (w : World) (hbl : b < w.heap.size) (h0 : w.cell? ⟨b, 0, none⟩ = some vp) (h1 : w.cell? ⟨b, 1, none⟩ = some vt) (hp : Src w vp ps) (ht : Src w vt ts) (hn1 : ps.length ≤ 1000) (hn2 : ts.length ≤ 1000) :
    Calls Tryz.prog 176 #[.slice (some ⟨b, 0, none⟩) 2 2] w fun e w' => ∃ v, e = .returned v ∧ Own28 w.heap.size w' v (ps ++ ts) ∧ Below w.heap.size w w' := by
  obtain ⟨i0, hi, hz0, hz1, hz2⟩ := info_parts Tryz.info28
  have hgr := Grow_any (ps.length + ts.length) w (by omega)
  rw [Int.natCast_add] at hgr
  have HGr := Lib.hid hgr
  clear hgr
  have HP := Lib.hid hp
  have HT := Lib.hid ht
  obtain ⟨a1, d1, rfl⟩ := hp.shape
  obtain ⟨a2, d2, rfl⟩ := ht.shape
  clear hp ht
  go_enter Tryz.func176, Tryz.ntmps176
  go_wp2_with fail
  go_loopw [3, 11] (fun s i wr => w = wr ∧ ∃ k : Nat, k ≤ 2 ∧ i = .int .i64 k ∧ s = .int .i64 (if k = 0 then 0 else if k = 1 then (ps.length : Int) else (ps.length : Int) + ts.length)) (fun _ i _ => 2 - (intOf i).toNat)
  case atStart => exact ⟨rfl, 0, by omega, rfl, rfl⟩
  case round =>
    obtain ⟨rfl, k, hk, rfl, rfl⟩ := hrel
    match k, hk with
    | 0, _ =>
      go_wp2_with fail
      go_roundw
      case rel => exact ⟨trivial, 1, by omega, by go_num, by simp⟩
      case measure => simp [intOf]
    | 1, _ =>
      go_wp2_with fail
      go_roundw
      case rel => exact ⟨trivial, 2, by omega, by go_num, by simp⟩
      case measure => simp [intOf]
    | 2, _ =>
      go_wp2_with fail
      refine HGr.out.mono ?_
      rintro e w1 ⟨v0, rfl, ho0, hb1⟩
      have HO0 := Lib.hid ho0
      have hc0 := (hb1.cell (p := ⟨b, 0, none⟩) hbl).trans h0
      have hc1 := (hb1.cell (p := ⟨b, 1, none⟩) hbl).trans h1
      have HB1 := Lib.hid hb1
      clear ho0 hb1 HGr
      go_wp2_with fail
      go_loopw [6, 27] (fun v i wr => ∃ k : Nat, k ≤ 2 ∧ i = .int .i64 k ∧ Own28 w.heap.size wr v (if k = 0 then [] else if k = 1 then ps else ps ++ ts) ∧ Below w.heap.size w wr) (fun _ i _ => 2 - (intOf i).toNat)
      case atStart => exact ⟨0, by omega, rfl, HO0.out, HB1.out⟩
      case round =>
        obtain ⟨k, hk, rfl, hown, hb⟩ := hrel
        have e0 := (hb.cell (p := ⟨b, 0, none⟩) hbl).trans h0
        have e1 := (hb.cell (p := ⟨b, 1, none⟩) hbl).trans h1
        match k, hk with
        | 0, _ =>
          have hown : Own28 w.heap.size wr u6 [] := hown
          have HO := Lib.hid hown
          have hsz := hb.size
          rcases (HP.out.below hb) with ⟨hv, hl⟩ | ⟨ad, c, hv, hcell, _⟩
          · have hnil : Hid (Own28 w.heap.size wr u6 ps) := by show Own28 _ _ _ _; rw [hl]; simpa using HO.out
            have hpl : ps = [] := hl
            injection hv with hv1 hv2 hv3
            subst hv1; subst hv3
            clear HP
            subst hpl
            go_wp2_with (at_builtin; go_must (refine wpList_append_own_none rfl _ _ 30 rfl w.heap.size 28 i0 14 Tryz.underlying30 hi _ 0 ([]) rfl HO.out rfl ?_))
            go_roundw
            case rel => exact ⟨_, _, _, ⟨1, by omega, rfl, hnil.out⟩, rfl, rfl, rfl⟩
            case measure => simp [intOf]
          · injection hv with hv1 hv2 hv3
            subst hv1; subst hv3
            have HC := Lib.hid hcell
            clear hcell
            go_wp2_with (at_builtin; go_must (refine wpList_append_own _ rfl _ _ 30 rfl w.heap.size 28 i0 _ 14 128 Tryz.underlying30 hi hz0 hz1 hz2 rfl (by decide) _ 0 ([]) rfl HO.out ad ps.length d1 (ps.flatMap Paper.vals) rfl (flat_len vals_len ps) HC.out (vals_one ps) (by unfold maxLen; omega) (by omega) (by omega) ?_; intro v9 w9 hown9 hg9 hnil9; have HO9 := Lib.hid hown9; have HG9 := Lib.hid hg9; clear hown9 hg9 hnil9))
            go_roundw
            case rel =>
              refine ⟨1, by omega, by go_num, ?_, hb.grown HG9.out hsz (fun k hk => (HO.out.lt k hk).1)⟩
              show Own28 _ _ _ ps
              have h9 := HO9.out
              rw [Nat.zero_add, List.nil_append] at h9; exact h9
            case measure => simp [intOf]
        | 1, _ =>
          have hown : Own28 w.heap.size wr u6 ps := hown
          have HO := Lib.hid hown
          have hsz := hb.size
          rcases (HT.out.below hb) with ⟨hv, hl⟩ | ⟨ad, c, hv, hcell, _⟩
          · have hnil : Hid (Own28 w.heap.size wr u6 (ps ++ ts)) := by show Own28 _ _ _ _; rw [hl]; simpa using HO.out
            have htl : ts = [] := hl
            injection hv with hv1 hv2 hv3
            subst hv1; subst hv3
            clear HT
            subst htl
            go_wp2_with (at_builtin; go_must (refine wpList_append_own_none rfl _ _ 30 rfl w.heap.size 28 i0 14 Tryz.underlying30 hi _ ps.length (ps.flatMap Paper.vals) rfl HO.out rfl ?_))
            go_roundw
            case rel => exact ⟨_, _, _, ⟨2, by omega, rfl, HO.out⟩, rfl, rfl, rfl⟩
            case measure => simp [intOf]
          · injection hv with hv1 hv2 hv3
            subst hv1; subst hv3
            have HC := Lib.hid hcell
            clear hcell
            go_wp2_with (at_builtin; go_must (refine wpList_append_own _ rfl _ _ 30 rfl w.heap.size 28 i0 _ 14 128 Tryz.underlying30 hi hz0 hz1 hz2 rfl (by decide) _ ps.length (ps.flatMap Paper.vals) rfl HO.out ad ts.length d2 (ts.flatMap Paper.vals) rfl (flat_len vals_len ts) HC.out (vals_one ts) (by unfold maxLen; omega) (by omega) (by omega) ?_; intro v9 w9 hown9 hg9 hnil9; have HO9 := Lib.hid hown9; have HG9 := Lib.hid hg9; clear hown9 hg9 hnil9))
            go_roundw
            case rel =>
              refine ⟨2, by omega, by go_num, ?_, hb.grown HG9.out hsz (fun k hk => (HO.out.lt k hk).1)⟩
              show Own28 _ _ _ (ps ++ ts)
              have h9 := HO9.out
              unfold Own28; rw [List.flatMap_append, List.length_append]; exact h9
            case measure => simp [intOf]
        | 2, _ =>
          have hown : Own28 w.heap.size wr _ (ps ++ ts) := hown
          have HO := Lib.hid hown
          clear hown
          go_wp2_with fail
          go_ret
          exact ⟨_, rfl, HO.out, hb⟩

end Go.Proofs.YtpffpofdceppiaaGreatDoor
