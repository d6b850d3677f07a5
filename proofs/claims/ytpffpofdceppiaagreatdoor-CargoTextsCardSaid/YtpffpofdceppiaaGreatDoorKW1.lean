/- A part of the proof that laganlaw01.CargoTexts answers true at every input and leaves its arguments as they were; the conditions are those of the given row and card, nothing else. -/
import Derived.Test.YtpffpofdceppiaaGreatDoorKT6
import Derived.Test.YtpffpofdceppiaaGreatDoorKL2
import Derived.Laws.EntriesVeiled
import Derived.Deep.Cut
import Derived.Deep.CutRange
set_option linter.unusedSimpArgs false
set_option linter.unusedVariables false
namespace Go.Proofs.YtpffpofdceppiaaGreatDoor
open Go.RowKit Go.Shelf

/-- A tree in memory. -/
structure TreeAt (w : World) (base : Nat) (ps ts : List Paper) (ids : List Int) (all : Bool) (A : Int → Nat) (S : Int → Nd) : Prop where
  forest : Forest w base (ins ps) A S (sub (ins ps) (fuel ps) 0)
  grown : ∀ r ∈ sub (ins ps) (fuel ps) 0, Grown' ps ts ids all r (S r)
  own : ∀ r ∈ sub (ins ps) (fuel ps) 0, r ≠ 0 → ((S r).own0, (S r).own1) = ownOf ps ids all r
  root : (S 0).own0 = 0 ∧ (S 0).own1 = 1099511627776
  bnd : ∀ r ∈ sub (ins ps) (fuel ps) 0, BndN (S r)

set_option maxRecDepth 100000 in
set_option maxHeartbeats 8000000 in
theorem tree_any (vp vt vids : Value) (ps ts : List Paper) (ids : List Int) (all : Bool) (w : World) (hp : PapersAt w vp ps) (ht : PapersAt w vt ts) (hi : IntsAt w vids ids) (hm : ManOK ps ts) (hnp : ps.length ≤ 201) (hnt : ts.length ≤ 201) (hni : ids.length ≤ 100000) :
    Calls Tryz.prog 121 #[.agg #[vp, vt], vids, .bool all] w fun e w' => Below w.heap.size w w' ∧
      ((treeOK ps ts = false ∧ e = .returned (.pointer none)) ∨ (treeOK ps ts = true ∧ ∃ (A : Int → Nat) (S : Int → Nd), e = .returned (.pointer (some ⟨A 0, 0, none⟩)) ∧ TreeAt w' w.heap.size ps ts ids all A S)) := by
  have hmf : ∀ (fn : Fn) (first cap : Array Value) (w : World), (Instr.makeFunc fn first cap).run Tryz.prog w = .ok (.func fn first cap) w := fun _ _ _ _ => rfl
  have HP := Lib.hid hp
  have HT := Lib.hid ht
  have HI := Lib.hid hi
  obtain ⟨a1, c1, rfl, _⟩ := hp
  obtain ⟨a2, c2, rfl, _⟩ := ht
  obtain ⟨a3, c3, rfl, _⟩ := hi
  obtain ⟨W0, hW0⟩ : ∃ W0, W0 = (((((w.alloc (.cells #[.slice a1 ps.length c1, .slice a2 ts.length c2] 100)).alloc (.cells #[.slice a3 ids.length c3] 45)).alloc (.cells #[.bool all] 4)).alloc (.cells #[.int .i64 0] 3)).alloc (.cells #[(.func (.func 178) #[] #[.pointer (some ⟨w.heap.size, 0, none⟩), .pointer (some ⟨w.heap.size + 1 + 1, 0, none⟩), .pointer (some ⟨w.heap.size + 1, 0, none⟩), .pointer (some ⟨w.heap.size + 1 + 1 + 1, 0, none⟩), .pointer (some ⟨w.heap.size + 1 + 1 + 1 + 1, 0, none⟩)])] 180)) := ⟨_, rfl⟩
  have hs0 : W0.heap.size = w.heap.size + 1 + 1 + 1 + 1 + 1 := by rw [hW0]; simp
  have hb0 : Below w.heap.size w W0 := by
    rw [hW0]
    repeat (first | exact Below.refl _ _ | refine Below.alloc ?_ (by simp <;> omega) _)
  have henv : Env w.heap.size (w.heap.size + 1 + 1) (w.heap.size + 1) (w.heap.size + 1 + 1 + 1 + 1) w W0 (.slice a1 ps.length c1) (.slice a2 ts.length c2) (.slice a3 ids.length c3) (.func (.func 178) #[] #[.pointer (some ⟨w.heap.size, 0, none⟩), .pointer (some ⟨w.heap.size + 1 + 1, 0, none⟩), .pointer (some ⟨w.heap.size + 1, 0, none⟩), .pointer (some ⟨w.heap.size + 1 + 1 + 1, 0, none⟩), .pointer (some ⟨w.heap.size + 1 + 1 + 1 + 1, 0, none⟩)]) all := by
    rw [hW0] at hb0 ⊢
    exact ⟨by go_simp, by go_simp, by go_simp, by go_simp, by go_simp, hb0⟩
  have hcc : (W0.alloc (.cells #[.int .i64 0, .int .i64 0, .int .i64 0, .int .u8 0, .int .i64 0, .int .i64 0, .int .i64 0, .string ⟨#[]⟩, .string ⟨#[]⟩, .int .i64 0, .int .i64 0, .int .i64 0, .int .i64 0, .int .i64 0, .int .i64 0, .pointer none, .slice none 0 0, .int .i64 0, .int .i64 1099511627776, .int .i64 0, .int .i64 0, .int .i64 0, .int .i64 0, .int .i64 0, .int .i64 0] 117)).cell? ⟨w.heap.size + 1 + 1 + 1, 0, none⟩ = some (.int .i64 0) := by rw [hW0]; go_simp
  have hcz : (W0.alloc (.cells #[.int .i64 0, .int .i64 0, .int .i64 0, .int .u8 0, .int .i64 0, .int .i64 0, .int .i64 0, .string ⟨#[]⟩, .string ⟨#[]⟩, .int .i64 0, .int .i64 0, .int .i64 0, .int .i64 0, .int .i64 0, .int .i64 0, .pointer none, .slice none 0 0, .int .i64 0, .int .i64 1099511627776, .int .i64 0, .int .i64 0, .int .i64 0, .int .i64 0, .int .i64 0, .int .i64 0] 117)).frozen? ⟨w.heap.size + 1 + 1 + 1, 0, none⟩ = false := by rw [hW0]; go_simp
  have hnode : NodeAt (W0.alloc (.cells #[.int .i64 0, .int .i64 0, .int .i64 0, .int .u8 0, .int .i64 0, .int .i64 0, .int .i64 0, .string ⟨#[]⟩, .string ⟨#[]⟩, .int .i64 0, .int .i64 0, .int .i64 0, .int .i64 0, .int .i64 0, .int .i64 0, .pointer none, .slice none 0 0, .int .i64 0, .int .i64 1099511627776, .int .i64 0, .int .i64 0, .int .i64 0, .int .i64 0, .int .i64 0, .int .i64 0] 117)) (w.heap.size + 1 + 1 + 1 + 1 + 1) 0 ⟨Paper.zero, .pointer none, .slice none 0 0, 0, 1099511627776, 0, 0, 0, 0, 0, 0⟩ := by
    have := World.alloc_heap_new W0 (.cells #[.int .i64 0, .int .i64 0, .int .i64 0, .int .u8 0, .int .i64 0, .int .i64 0, .int .i64 0, .string ⟨#[]⟩, .string ⟨#[]⟩, .int .i64 0, .int .i64 0, .int .i64 0, .int .i64 0, .int .i64 0, .int .i64 0, .pointer none, .slice none 0 0, .int .i64 0, .int .i64 1099511627776, .int .i64 0, .int .i64 0, .int .i64 0, .int .i64 0, .int .i64 0, .int .i64 0] 117)
    rw [hs0] at this
    exact this
  have hf1 : (W0.alloc (.cells #[.int .i64 0, .int .i64 0, .int .i64 0, .int .u8 0, .int .i64 0, .int .i64 0, .int .i64 0, .string ⟨#[]⟩, .string ⟨#[]⟩, .int .i64 0, .int .i64 0, .int .i64 0, .int .i64 0, .int .i64 0, .int .i64 0, .pointer none, .slice none 0 0, .int .i64 0, .int .i64 1099511627776, .int .i64 0, .int .i64 0, .int .i64 0, .int .i64 0, .int .i64 0, .int .i64 0] 117)).cell? ⟨w.heap.size + 1 + 1 + 1 + 1, 0, none⟩ = some (.func (.func 178) #[] #[.pointer (some ⟨w.heap.size, 0, none⟩), .pointer (some ⟨w.heap.size + 1 + 1, 0, none⟩), .pointer (some ⟨w.heap.size + 1, 0, none⟩), .pointer (some ⟨w.heap.size + 1 + 1 + 1, 0, none⟩), .pointer (some ⟨w.heap.size + 1 + 1 + 1 + 1, 0, none⟩)]) := (World.cell?_of_block (w := W0) (Below.heap_alloc _ _ _ (by simp <;> omega))).trans henv.f
  have hkb : KeptBut (w.heap.size + 1 + 1 + 1 + 1 + 1) (w.heap.size + 1 + 1 + 1) W0 (W0.alloc (.cells #[.int .i64 0, .int .i64 0, .int .i64 0, .int .u8 0, .int .i64 0, .int .i64 0, .int .i64 0, .string ⟨#[]⟩, .string ⟨#[]⟩, .int .i64 0, .int .i64 0, .int .i64 0, .int .i64 0, .int .i64 0, .int .i64 0, .pointer none, .slice none 0 0, .int .i64 0, .int .i64 1099511627776, .int .i64 0, .int .i64 0, .int .i64 0, .int .i64 0, .int .i64 0, .int .i64 0] 117)) := .of ((Below.refl _ W0).alloc (by omega) _)
  have hlen := sub_len hm
  have hG := Lib.hid (grow_any (w.heap.size + 1 + 1 + 1 + 1 + 1) w.heap.size (w.heap.size + 1 + 1) (w.heap.size + 1) (w.heap.size + 1 + 1 + 1) (w.heap.size + 1 + 1 + 1 + 1) W0 w _ _ _ ps ts ids all HP.out HT.out HI.out (by omega) (by omega) hni hs0 (by omega) (by omega) ⟨by omega, by omega⟩ ⟨by omega, by omega⟩ ⟨by omega, by omega⟩ ⟨by omega, by omega⟩ henv hm.oneIn (ins_nodup hm.asc) hm.count
    (fuel ps) 0 (w.heap.size + 1 + 1 + 1 + 1 + 1) _ 0 _ hm.deep hkb (Nat.le_refl _) hnode rfl rfl rfl rfl rfl rfl hcc hcz (by omega) (by omega))
  have hs1 : (W0.alloc (.cells #[.int .i64 0, .int .i64 0, .int .i64 0, .int .u8 0, .int .i64 0, .int .i64 0, .int .i64 0, .string ⟨#[]⟩, .string ⟨#[]⟩, .int .i64 0, .int .i64 0, .int .i64 0, .int .i64 0, .int .i64 0, .int .i64 0, .pointer none, .slice none 0 0, .int .i64 0, .int .i64 1099511627776, .int .i64 0, .int .i64 0, .int .i64 0, .int .i64 0, .int .i64 0, .int .i64 0] 117)).heap.size = w.heap.size + 1 + 1 + 1 + 1 + 1 + 1 := by rw [World.size_alloc, hs0]
  have HW0 := Lib.hid hW0
  have HENV := Lib.hid henv
  have HTr : Hid (treeOK ps ts = (growOK ps ts (fuel ps) 0 && decide ((sub (ins ps) (fuel ps) 0).length = ps.length + 1))) := by show _ = _; rfl
  rw [hW0] at hf1
  clear hcc hcz hnode hkb hW0 henv
  go_enter Tryz.func121, Tryz.ntmps121
  go_wp2_with fail
  rw [← HW0.out]
  refine hG.out.mono ?_
  rintro e w1 ⟨rfl, hk1, hfr1, hsz1, hyes⟩
  have hB1 : Below w.heap.size w w1 := ⟨hk1.os.trans hb0.os, hk1.tape.trans hb0.tape, hk1.output.trans hb0.output, Nat.le_trans hb0.size hk1.size, fun k hk => (hk1.block k (by omega) (by omega)).trans (hb0.block k hk)⟩
  have hev := HENV.out.kept hk1 (by omega) (by omega) ⟨by omega, by omega⟩ ⟨by omega, by omega⟩ ⟨by omega, by omega⟩ ⟨by omega, by omega⟩
  have e0 := hev.m0
  cases hg : growOK ps ts (fuel ps) 0
  · have hno : Hid (treeOK ps ts = false) := by show _ = _; rw [HTr.out, hg]; rfl
    clear hyes hG hf1
    go_wp2_with fail
    go_ret
    exact ⟨hB1, .inl ⟨hno.out, rfl⟩⟩
  · obtain ⟨hz1, hc1, A, S, hA, hF, hr1, hr2, ho0, ho1, hgr⟩ := hyes hg
    obtain ⟨L, hL⟩ : ∃ L : Nat, L = (sub (ins ps) (fuel ps) 0).length := ⟨_, rfl⟩
    rw [← hL] at hc1 hlen HTr
    have hc1 : w1.cell? ⟨w.heap.size + 1 + 1 + 1, 0, none⟩ = some (.int .i64 ((L : Int) - 1)) := by rw [hc1]; congr 2; omega
    have hT : TreeAt w1 w.heap.size ps ts ids all A S := ⟨hF w.heap.size (by omega) (by rw [hs1]; omega), hgr, fun r hr hne => (hr1 r hr hne).2, ⟨ho0, ho1⟩, fun r hr => hm.bnd hr (hgr r hr) (growOK_all hg r hr) ⟨fun hne => (hr1 r hr hne).2, fun h0 => by rw [h0]; exact ⟨ho0, ho1⟩⟩⟩
    have HT := Lib.hid hT
    have HA := Lib.hid hA
    clear hyes hG hf1 hF hr1 hr2 hgr hT hA
    cases hq : (((L : Int) - 1) != (ps.length : Int))
    · have hy : Hid (treeOK ps ts = true) := by show _ = _; rw [HTr.out, hg]; simp at hq ⊢; omega
      go_wp2_with fail
      go_ret
      exact ⟨hB1, .inr ⟨hy.out, A, S, by rw [HA.out]; rfl, HT.out⟩⟩
    · have hno : Hid (treeOK ps ts = false) := by show _ = _; rw [HTr.out, hg]; simp at hq ⊢; omega
      go_wp2_with fail
      go_ret
      exact ⟨hB1, .inl ⟨hno.out, rfl⟩⟩

end Go.Proofs.YtpffpofdceppiaaGreatDoor

set_option linter.unusedSimpArgs false
set_option linter.unusedVariables false
namespace Go.Proofs.YtpffpofdceppiaaGreatDoor
open Go.RowKit Go.Shelf

theorem formed_kind1 (x : Paper) (h : formed x = true) (hk : x.kind ≠ 3) (h2 : x.kind ≠ 2) : x.kind = 1 ∧ 1 ≤ x.pack ∧ x.pack ≤ 200 ∧ 1 ≤ x.lo ∧ x.lo ≤ x.hi ∧ x.hi ≤ 100000 := by
  unfold formed at h
  rw [Bool.and_eq_true] at h
  obtain ⟨_, h⟩ := h
  split at h
  · rename_i hk1
    rw [Bool.and_eq_true] at h
    have := h.1
    simp only [formed1, Bool.and_eq_true, within_iff, span, decide_eq_true_eq] at this
    refine ⟨hk1, ?_⟩
    omega
  · cases h

theorem formed_kind2 (x : Paper) (h : formed x = true) (h2 : x.kind = 2) : 0 ≤ x.pack ∧ x.pack ≤ 200 ∧ 0 ≤ x.lo ∧ x.lo ≤ x.hi ∧ x.hi ≤ 10000000 ∧ 0 ≤ x.count ∧ x.count ≤ 40 := by
  unfold formed at h
  rw [Bool.and_eq_true] at h
  obtain ⟨_, h⟩ := h
  rw [if_neg (by omega), if_pos h2, Bool.and_eq_true] at h
  have := h.1
  simp only [formed2, Bool.and_eq_true, within_iff, span, decide_eq_true_eq] at this
  omega

theorem found_of (l : List Paper) (hf : ∀ x ∈ l, formed x = true) (known loss : Int) (k : Int × Bool) (x : Paper) (h : foundM loss (counting l known) k = some x) : formed x = true ∧ x.kind ≠ 3 ∧ x.pack = k.1 ∧ (x.kind = 2 ↔ k.2 = true) ∧ x ∈ l := by
  obtain ⟨h1, h2, _⟩ := foundM_some _ _ _ _ _ rfl h
  rw [counting, List.mem_filter, cnt] at h1
  simp at h1
  refine ⟨hf x h1.1, h1.2.1.1, congrArg Prod.fst h2, ?_, h1.1⟩
  have := congrArg Prod.snd h2
  simp only [keyOf] at this
  rw [← this]; simp

theorem opened_ok (l : List Paper) (known loss : Int) (h : (opened l known loss).2 = 0) : ManOK (opened l known loss).1.papers (opened l known loss).1.totals := by
  unfold opened at h ⊢
  by_cases h1 : (check l).2 ≠ 0
  · rw [if_pos h1] at h; exact absurd h h1
  · rw [if_neg h1] at h ⊢
    by_cases h2 : within loss 1 20 = false
    · rw [if_pos h2] at h; cases h
    · rw [if_neg h2]
      have hf := check_formed l (by omega)
      have hfo := found_of l hf known loss
      show ManOK (papersOf _) (totalsOf _)
      generalize foundM loss (counting l known) = f at *
      have hp : ∀ x ∈ papersOf f, ∃ p : Nat, p < 201 ∧ f ((p : Int), false) = some x := fun x hx => by
        unfold papersOf at hx
        obtain ⟨p, hp, hx⟩ := List.mem_filterMap.1 hx
        exact ⟨p, List.mem_range.1 hp, hx⟩
      have ht : ∀ x ∈ totalsOf f, ∃ p : Nat, p < 201 ∧ f ((p : Int), true) = some x ∧ ((f ((p : Int), false)).isSome ∨ p = 0) := fun x hx => by
        unfold totalsOf at hx
        obtain ⟨p, hp, hx⟩ := List.mem_filterMap.1 hx
        split at hx
        · rename_i h; exact ⟨p, List.mem_range.1 hp, hx, by simpa using h⟩
        · cases hx
      have hP : ∀ x ∈ papersOf f, x.kind = 1 ∧ 1 ≤ x.pack ∧ x.pack ≤ 200 ∧ 1 ≤ x.lo ∧ x.lo ≤ x.hi ∧ x.hi ≤ 100000 := fun x hx => by
        obtain ⟨p, _, h⟩ := hp x hx
        obtain ⟨a1, a2, a3, a4, _⟩ := hfo _ _ h
        exact formed_kind1 x a1 a2 (fun e => by have := a4.1 e; cases this)
      have hT : ∀ x ∈ totalsOf f, 0 ≤ x.pack ∧ x.pack ≤ 200 ∧ 0 ≤ x.lo ∧ x.lo ≤ x.hi ∧ x.hi ≤ 10000000 ∧ 0 ≤ x.count ∧ x.count ≤ 40 := fun x hx => by
        obtain ⟨p, _, h, _⟩ := ht x hx
        obtain ⟨a1, a2, a3, a4, _⟩ := hfo _ _ h
        exact formed_kind2 x a1 (a4.2 rfl)
      refine ⟨?_, ?_, fun x hx => ?_, fun x hx => ?_, fun x hx => ?_, fun x hx => ?_, fun x hx => ?_, fun x hx => ?_⟩
      · unfold papersOf
        rw [List.pairwise_filterMap]
        refine List.pairwise_lt_range.imp ?_
        rintro a b hab x hx y hy
        have h1 := (hfo _ _ hx).2.2.1
        have h2 := (hfo _ _ hy).2.2.1
        simp only at h1 h2
        omega
      · unfold totalsOf
        rw [List.pairwise_filterMap]
        refine List.pairwise_lt_range.imp ?_
        rintro a b hab x hx y hy
        split at hx
        · split at hy
          · have h1 := (hfo _ _ hx).2.2.1
            have h2 := (hfo _ _ hy).2.2.1
            simp only at h1 h2
            omega
          · cases hy
        · cases hx
      · have := hP x hx; omega
      · have := hP x hx; omega
      · have := hT x hx; omega
      · have := hT x hx; omega
      · have := hT x hx; omega
      · obtain ⟨p, hp1, h, h3⟩ := ht x hx
        have e := (hfo _ _ h).2.2.1
        simp only at e
        rcases h3 with h3 | h3
        · right
          obtain ⟨y, hy⟩ := Option.isSome_iff_exists.1 h3
          refine ⟨y, ?_, ?_⟩
          · unfold papersOf
            exact List.mem_filterMap.2 ⟨p, List.mem_range.2 hp1, hy⟩
          · have := (hfo _ _ hy).2.2.1
            simp only at this
            omega
        · left; omega

theorem TreeAt.mono {w : World} {base base' : Nat} {ps ts : List Paper} {ids : List Int} {all : Bool} {A : Int → Nat} {S : Int → Nd} (h : TreeAt w base ps ts ids all A S) (hb : base' ≤ base) : TreeAt w base' ps ts ids all A S :=
  ⟨⟨h.forest.node, fun p hp => owns_mono (h.forest.row p hp) hb, fun p hp => Nat.le_trans hb (h.forest.lo p hp), h.forest.inj, h.forest.closed⟩, h.grown, h.own, h.root, h.bnd⟩
theorem TreeAt.below {w w' : World} {base : Nat} {ps ts : List Paper} {ids : List Int} {all : Bool} {A : Int → Nat} {S : Int → Nd} (h : TreeAt w base ps ts ids all A S) (hh : ∀ k, k < w.heap.size → w'.heap[k]? = w.heap[k]?) : TreeAt w' base ps ts ids all A S :=
  ⟨h.forest.below hh, h.grown, h.own, h.root, h.bnd⟩
theorem TreeAt.low {w : World} {base : Nat} {ps ts : List Paper} {ids : List Int} {all : Bool} {A : Int → Nat} {S : Int → Nd} (h : TreeAt w base ps ts ids all A S) {b i : Nat} (hb : b < base) (v : Value) : TreeAt (w.setCell ⟨b, i, none⟩ v) base ps ts ids all A S :=
  ⟨⟨fun q hq => (h.forest.node q hq).of_heap (Below.heap_setCell _ _ _ _ (by have := h.forest.lo q hq; simp; omega)), fun q hq => ownsRow_setCell_below (h.forest.row q hq) hb _, h.forest.lo, h.forest.inj, h.forest.closed⟩, h.grown, h.own, h.root, h.bnd⟩

theorem ownsRow_below {w w' : World} {base : Nat} {e : TypeId} {size : Nat} {v : Value} {n : Nat} {xs : List Value} (h : w.ownsRow base e size v n xs) (hb : Below w.heap.size w w') : w'.ownsRow base e size v n xs := by
  refine ⟨h.1, h.2.imp id ?_⟩
  rintro ⟨g, cap, cur, a1, a2, a3, a4⟩
  exact ⟨g, cap, cur, a1, a2, (hb.block _ (Array.getElem?_eq_some_iff.1 a3).1).trans a3, a4⟩

/-- What is asked of a question about a manifest. -/
def PredM (g : Nat) (lb : Array Value) (there : Man → Bool) (w : World) : Prop :=
  ∀ (W : World) (vp vt : Value) (m : Man), Below w.heap.size w W → PapersAt W vp m.papers → PapersAt W vt m.totals → m.papers.length ≤ 201 → m.totals.length ≤ 201 → Calls Tryz.prog g (#[.agg #[vp, vt]] ++ lb) W fun e w' => e = .returned (.bool (there m)) ∧ Below W.heap.size W w'

def rootedE (l : List Paper) (known loss : Int) (there : Man → Bool) : Int :=
  if (opened l known loss).2 ≠ 0 then (opened l known loss).2 else if there (opened l known loss).1 = false then 5 else if treeOK (opened l known loss).1.papers (opened l known loss).1.totals = false then 11 else 0

theorem results_man3 {fn : Func} {p u t : Tmp} (h : fn.results = #[.cell p 100, .tmp u, .tmp t]) (tmps : Array Value) (w : World) (b : Nat) (v0 v1 : Value) (hp : tmps.getD p undef = .pointer (some ⟨b, 0, none⟩)) (h0 : w.cell? ⟨b, 0, none⟩ = some v0) (h1 : w.cell? ⟨b, 1, none⟩ = some v1) :
    (results fn tmps).run Tryz.prog w = .ok (.tuple #[.agg #[v0, v1], tmps.getD u undef, tmps.getD t undef]) w := by
  have : (loadVar 100 ⟨b, 0, none⟩).run Tryz.prog w = .ok (.agg #[v0, v1]) w := by go_simp
  simp only [Array.getD_eq_getD_getElem?] at hp
  simp only [results, h]
  simp [Sem.run_bind, Result.andThen, hp, asAddr, this]

set_option maxRecDepth 100000 in
set_option maxHeartbeats 8000000 in
theorem rooted_any (v : Value) (l : List Paper) (known loss : Int) (g : Nat) (lb : Array Value) (there : Man → Bool) (w : World) (hv : PapersAt w v l) (hn : l.length ≤ 1000) (hs : ∀ x ∈ l, okS x) (eg : ∀ args w, (callFunc g args).run Tryz.prog w = .ok (.enter g args) w) (hp : PredM g lb there w) :
    Calls Tryz.prog 94 #[v, .int .i64 known, .int .i64 loss, .func (.func g) #[] lb] w fun e w' => ∃ vp vt np, e = .returned (.tuple #[.agg #[vp, vt], np, .int .i64 (rootedE l known loss there)]) ∧
      Own28 w.heap.size w' vp (opened l known loss).1.papers ∧ Own28 w.heap.size w' vt (opened l known loss).1.totals ∧ Below w.heap.size w w' ∧
      ((rootedE l known loss there ≠ 0 ∧ np = .pointer none) ∨ (rootedE l known loss there = 0 ∧ ∃ (A : Int → Nat) (S : Int → Nd), np = .pointer (some ⟨A 0, 0, none⟩) ∧ TreeAt w' w.heap.size (opened l known loss).1.papers (opened l known loss).1.totals [] true A S)) := by
  have HO := Lib.hid (fun W (h : Below w.heap.size w W) => opened_any _ l known loss W (hv.below h) hn hs)
  have hR : Hid (rootedE l known loss there = if (opened l known loss).2 ≠ 0 then (opened l known loss).2 else if there (opened l known loss).1 = false then 5 else if treeOK (opened l known loss).1.papers (opened l known loss).1.totals = false then 11 else 0) := by show _ = _; rfl
  have hOK := Lib.hid (opened_ok l known loss)
  have hL := opened_len l known loss
  generalize opened l known loss = o at *
  generalize rootedE l known loss there = r at *
  obtain ⟨m, c2⟩ := o
  obtain ⟨a1, cc, rfl, _⟩ := hv
  have HPr := Lib.hid (fun W (h : Below w.heap.size w W) vp vt h1 h2 => hp W vp vt m h h1 h2 hL.1 hL.2)
  clear hp
  obtain ⟨hL1, hL2⟩ := hL
  generalize there m = th at *
  have hB0 : Below w.heap.size w (w.alloc (.cells #[.slice none 0 0, .slice none 0 0] 100)) := (Below.refl _ w).alloc (Nat.le_refl _) _
  have hr0 : (w.alloc (.cells #[.slice none 0 0, .slice none 0 0] 100)).cell? ⟨w.heap.size, 0, none⟩ = some (.slice none 0 0) := by go_simp
  have hr1 : (w.alloc (.cells #[.slice none 0 0, .slice none 0 0] 100)).cell? ⟨w.heap.size, 1, none⟩ = some (.slice none 0 0) := by go_simp
  have hf0 : ∀ i, (w.alloc (.cells #[.slice none 0 0, .slice none 0 0] 100)).frozen? ⟨w.heap.size, i, none⟩ = false := fun i => by go_simp
  have hs0 : (w.alloc (.cells #[.slice none 0 0, .slice none 0 0] 100)).heap.size = w.heap.size + 1 := by simp
  go_enter Tryz.func94, Tryz.ntmps94
  go_wp2_with fail
  generalize w.alloc (.cells #[.slice none 0 0, .slice none 0 0] 100) = W0 at *
  refine (HO.out _ hB0).mono ?_
  rintro e w1 ⟨vp, vt, rfl, hp1, ht1, hb1⟩
  obtain ⟨b1, m1, d1, rfl⟩ := own_shape hp1
  obtain ⟨b2, m2, d2, rfl⟩ := own_shape ht1
  -- the world with the box of the manifest
  have hb2 : Below W0.heap.size W0 (w1.alloc (.cells #[.slice b1 m1 d1, .slice b2 m2 d2] 100)) := hb1.alloc hb1.size _
  have hB2 : Below w.heap.size w (w1.alloc (.cells #[.slice b1 m1 d1, .slice b2 m2 d2] 100)) := hB0.trans (hb2.mono hB0.size)
  have hs2 : (w1.alloc (.cells #[.slice b1 m1 d1, .slice b2 m2 d2] 100)).heap.size = w1.heap.size + 1 := by simp
  have hl1 : W0.heap.size ≤ w1.heap.size := hb1.size
  have x0 : (w1.alloc (.cells #[.slice b1 m1 d1, .slice b2 m2 d2] 100)).cell? ⟨w1.heap.size, 0, none⟩ = some (.slice b1 m1 d1) := by go_simp
  have x1 : (w1.alloc (.cells #[.slice b1 m1 d1, .slice b2 m2 d2] 100)).cell? ⟨w1.heap.size, 1, none⟩ = some (.slice b2 m2 d2) := by go_simp
  have hp2 := hp1.alloc (.cells #[.slice b1 m1 d1, .slice b2 m2 d2] 100)
  have ht2 := ht1.alloc (.cells #[.slice b1 m1 d1, .slice b2 m2 d2] 100)
  clear hp1 ht1 hb1 HO
  cases g1 : (c2 != 0)
  · have HR2 : Hid (r = if th = false then 5 else if treeOK m.papers m.totals = false then 11 else 0) := by show _ = _; rw [hR.out, if_neg (by simpa using g1)]
    have hman : ManOK m.papers m.totals := hOK.out (by simpa using g1)
    clear hR hOK
    go_upto_region 4 with fail
    have hq0 : ∀ i, (w1.alloc (.cells #[.slice b1 m1 d1, .slice b2 m2 d2] 100)).frozen? ⟨w.heap.size, i, none⟩ = false := fun i => (hb2.frozen (p := ⟨w.heap.size, i, none⟩) (by simp <;> omega)).trans (hf0 i)
    have hq1 := (hb2.cell (p := ⟨w.heap.size, 0, none⟩) (by simp <;> omega)).trans hr0
    have hq2 := (hb2.cell (p := ⟨w.heap.size, 1, none⟩) (by simp <;> omega)).trans hr1
    clear hr0 hr1 hf0 hb2
    generalize w1.alloc (.cells #[.slice b1 m1 d1, .slice b2 m2 d2] 100) = W2 at *
    have hC := Lib.hid (HPr.out W2 hB2 _ _ (Rows.of_owns vals_len hp2) (Rows.of_owns vals_len ht2))
    -- what is stored at the end
    have hfin : Hid (∀ (wx : World) (np : Value), Own28 W0.heap.size wx (.slice b1 m1 d1) m.papers → Own28 W0.heap.size wx (.slice b2 m2 d2) m.totals → Below w.heap.size w wx → w.heap.size < wx.heap.size →
        Own28 w.heap.size ((wx.setCell ⟨w.heap.size, 0, none⟩ (.slice b1 m1 d1)).setCell ⟨w.heap.size, 1, none⟩ (.slice b2 m2 d2)) (.slice b1 m1 d1) m.papers ∧ Own28 w.heap.size ((wx.setCell ⟨w.heap.size, 0, none⟩ (.slice b1 m1 d1)).setCell ⟨w.heap.size, 1, none⟩ (.slice b2 m2 d2)) (.slice b2 m2 d2) m.totals ∧
        Below w.heap.size w ((wx.setCell ⟨w.heap.size, 0, none⟩ (.slice b1 m1 d1)).setCell ⟨w.heap.size, 1, none⟩ (.slice b2 m2 d2))) := fun wx np h1 h2 h3 h4 => by
      have hmono : ∀ v l, Own28 W0.heap.size wx v l → Own28 w.heap.size ((wx.setCell ⟨w.heap.size, 0, none⟩ (.slice b1 m1 d1)).setCell ⟨w.heap.size, 1, none⟩ (.slice b2 m2 d2)) v l := fun v l ho =>
        owns_mono (ownsRow_setCell_below (ownsRow_setCell_below ho (a := ⟨w.heap.size, 0, none⟩) (by simp; omega) _) (a := ⟨w.heap.size, 1, none⟩) (by simp; omega) _) (by omega)
      exact ⟨hmono _ _ h1, hmono _ _ h2, (h3.setCell (p := ⟨w.heap.size, 0, none⟩) (Nat.le_refl _) _).setCell (p := ⟨w.heap.size, 1, none⟩) (Nat.le_refl _) _⟩
    have hl2 : W0.heap.size ≤ W2.heap.size := by omega
    clear HPr
    cases th
    · have HR3 : Hid (r = 5) := by show _ = _; rw [HR2.out]; rfl
      clear HR2
      go_wp2_with (go_at_fn g; refine hC.out.mono ?_; rintro e w3 ⟨rfl, hb3⟩; have HB3 := Lib.hid hb3; have y0 := (hb3.cell (p := ⟨w1.heap.size, 0, none⟩) (by simp <;> omega)).trans x0; have y1 := (hb3.cell (p := ⟨w1.heap.size, 1, none⟩) (by simp <;> omega)).trans x1; have y2 := (hb3.cell (p := ⟨w.heap.size, 0, none⟩) (by simp <;> omega)).trans hq1; have y3 := (hb3.cell (p := ⟨w.heap.size, 1, none⟩) (by simp <;> omega)).trans hq2; have y4 := fun i => (hb3.frozen (p := ⟨w.heap.size, i, none⟩) (by simp <;> omega)).trans (hq0 i); clear hb3 x0 x1 hq0 hq1 hq2)
      refine bodyPost_ret (results_man3 rfl _ _ w.heap.size (.slice b1 m1 d1) (.slice b2 m2 d2) rfl (by go_simp) (by go_simp)) rfl ?_
      have h3 := HB3.out
      obtain ⟨f1, f2, f3⟩ := hfin.out w3 (.pointer none) (ownsRow_below hp2 h3) (ownsRow_below ht2 h3) (hB2.trans (h3.mono hB2.size)) (by have := h3.size; omega)
      exact ⟨_, _, _, by rw [HR3.out]; rfl, f1, f2, f3, .inl ⟨by rw [HR3.out]; decide, rfl⟩⟩
    · have HR3 : Hid (r = if treeOK m.papers m.totals = false then 11 else 0) := by show _ = _; rw [HR2.out]; rfl
      clear HR2
      go_wp2_with (go_at_fn g; refine hC.out.mono ?_; rintro e w3 ⟨rfl, hb3⟩; have HB3 := Lib.hid hb3; have y0 := (hb3.cell (p := ⟨w1.heap.size, 0, none⟩) (by simp <;> omega)).trans x0; have y1 := (hb3.cell (p := ⟨w1.heap.size, 1, none⟩) (by simp <;> omega)).trans x1; have y2 := (hb3.cell (p := ⟨w.heap.size, 0, none⟩) (by simp <;> omega)).trans hq1; have y3 := (hb3.cell (p := ⟨w.heap.size, 1, none⟩) (by simp <;> omega)).trans hq2; have y4 := fun i => (hb3.frozen (p := ⟨w.heap.size, i, none⟩) (by simp <;> omega)).trans (hq0 i); clear hb3 x0 x1 hq0 hq1 hq2)
      have h3 := HB3.out
      have hs3 := h3.size
      refine (tree_any _ _ _ m.papers m.totals [] true w3 (Rows.of_owns vals_len (ownsRow_below hp2 h3)) (Rows.of_owns vals_len (ownsRow_below ht2 h3)) (Rows.nil _ _ _) hman hL1 hL2 (by simp)).mono ?_
      rintro e w4 ⟨hb4, hres⟩
      have z0 := (hb4.cell (p := ⟨w1.heap.size, 0, none⟩) (by simp <;> omega)).trans y0
      have z1 := (hb4.cell (p := ⟨w1.heap.size, 1, none⟩) (by simp <;> omega)).trans y1
      have z2 := (hb4.cell (p := ⟨w.heap.size, 0, none⟩) (by simp <;> omega)).trans y2
      have z3 := (hb4.cell (p := ⟨w.heap.size, 1, none⟩) (by simp <;> omega)).trans y3
      have z4 := fun i => (hb4.frozen (p := ⟨w.heap.size, i, none⟩) (by simp <;> omega)).trans (y4 i)
      obtain ⟨f1, f2, f3⟩ := hfin.out w4 (.pointer none) (ownsRow_below (ownsRow_below hp2 h3) hb4) (ownsRow_below (ownsRow_below ht2 h3) hb4) ((hB2.trans (h3.mono hB2.size)).trans (hb4.mono (by omega))) (by have := hb4.size; omega)
      have HF := Lib.hid (And.intro f1 (And.intro f2 f3))
      have hs4 := hb4.size
      clear y0 y1 y2 y3 y4 hb4 h3 f1 f2 f3 hC HB3
      rcases hres with ⟨ht, rfl⟩ | ⟨ht, A, S, rfl, hT⟩
      · have HR4 : Hid (r = 11) := by show _ = _; rw [HR3.out, ht]; rfl
        go_wp2_with fail
        refine bodyPost_ret (results_man3 rfl _ _ w.heap.size (.slice b1 m1 d1) (.slice b2 m2 d2) rfl (by go_simp) (by go_simp)) rfl ?_
        exact ⟨_, _, _, by rw [HR4.out]; rfl, HF.out.1, HF.out.2.1, HF.out.2.2, .inl ⟨by rw [HR4.out]; decide, rfl⟩⟩
      · have HR4 : Hid (r = 0) := by show _ = _; rw [HR3.out, ht]; rfl
        have hT2 := ((hT.low (b := w.heap.size) (i := 0) (by omega) (.slice b1 m1 d1)).low (b := w.heap.size) (i := 1) (by omega) (.slice b2 m2 d2)).mono (base' := w.heap.size) (by omega)
        have HT2 := Lib.hid hT2
        clear hT hT2
        go_wp2_with fail
        refine bodyPost_ret (results_man3 rfl _ _ w.heap.size (.slice b1 m1 d1) (.slice b2 m2 d2) rfl (by go_simp) (by go_simp)) rfl ?_
        exact ⟨_, _, _, by rw [HR4.out]; rfl, HF.out.1, HF.out.2.1, HF.out.2.2, .inr ⟨HR4.out, A, S, rfl, HT2.out⟩⟩
  · have HR2 : Hid (r = c2) := by show _ = _; rw [hR.out, if_pos (by simpa using g1)]
    have hq0 : ∀ i, (w1.alloc (.cells #[.slice b1 m1 d1, .slice b2 m2 d2] 100)).frozen? ⟨w.heap.size, i, none⟩ = false := fun i => (hb2.frozen (p := ⟨w.heap.size, i, none⟩) (by simp <;> omega)).trans (hf0 i)
    have hq1 := (hb2.cell (p := ⟨w.heap.size, 0, none⟩) (by simp <;> omega)).trans hr0
    have hq2 := (hb2.cell (p := ⟨w.heap.size, 1, none⟩) (by simp <;> omega)).trans hr1
    clear hr0 hr1 hf0 hb2 hR hOK HPr
    go_upto_region 3 with fail
    generalize w1.alloc (.cells #[.slice b1 m1 d1, .slice b2 m2 d2] 100) = W2 at *
    go_wp2_with fail
    refine bodyPost_ret (results_man3 rfl _ _ w.heap.size (.slice b1 m1 d1) (.slice b2 m2 d2) rfl (by go_simp) (by go_simp)) rfl ?_
    have hmono : ∀ v l, Own28 W0.heap.size W2 v l → Own28 w.heap.size ((W2.setCell ⟨w.heap.size, 0, none⟩ (.slice b1 m1 d1)).setCell ⟨w.heap.size, 1, none⟩ (.slice b2 m2 d2)) v l := fun v l ho =>
        owns_mono (ownsRow_setCell_below (ownsRow_setCell_below ho (a := ⟨w.heap.size, 0, none⟩) (by simp; omega) _) (a := ⟨w.heap.size, 1, none⟩) (by simp; omega) _) (by omega)
    exact ⟨_, _, _, by rw [HR2.out]; rfl, hmono _ _ hp2, hmono _ _ ht2, (hB2.setCell (p := ⟨w.heap.size, 0, none⟩) (Nat.le_refl _) _).setCell (p := ⟨w.heap.size, 1, none⟩) (Nat.le_refl _) _, .inl ⟨by rw [HR2.out]; simpa using g1, rfl⟩⟩

end Go.Proofs.YtpffpofdceppiaaGreatDoor
