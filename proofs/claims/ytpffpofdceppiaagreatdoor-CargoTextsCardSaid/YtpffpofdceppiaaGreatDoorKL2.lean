/- A part of the proof that laganlaw01.CargoTexts answers true at every input and leaves its arguments as they were; the conditions are those of the given row and card, nothing else. -/
import Derived.Test.YtpffpofdceppiaaGreatDoorKG1
set_option linter.unusedSimpArgs false
set_option linter.unusedVariables false
namespace Go.Proofs.YtpffpofdceppiaaGreatDoor
open Go.RowKit Go.Shelf

/-- What is known of a manifest's lists. -/
structure ManOK (ps ts : List Paper) : Prop where
  asc : ps.Pairwise (fun x y => x.pack < y.pack)
  ascT : ts.Pairwise (fun x y => x.pack < y.pack)
  pack : ∀ x ∈ ps, 1 ≤ x.pack ∧ x.pack ≤ 200
  span : ∀ x ∈ ps, 1 ≤ x.lo ∧ x.lo ≤ x.hi ∧ x.hi ≤ 100000
  packT : ∀ x ∈ ts, 0 ≤ x.pack ∧ x.pack ≤ 200
  spanT : ∀ x ∈ ts, 0 ≤ x.lo ∧ x.lo ≤ x.hi ∧ x.hi ≤ 10000000
  count : ∀ x ∈ ts, 0 ≤ x.count ∧ x.count ≤ 40
  hasT : ∀ x ∈ ts, x.pack = 0 ∨ ∃ y ∈ ps, y.pack = x.pack

theorem asc_inj {ps : List Paper} (h : ps.Pairwise (fun x y => x.pack < y.pack)) {x y : Paper} (hx : x ∈ ps) (hy : y ∈ ps) (he : x.pack = y.pack) : x = y := by
  obtain ⟨i, hi, rfl⟩ := List.getElem_of_mem hx
  obtain ⟨j, hj, rfl⟩ := List.getElem_of_mem hy
  rw [List.pairwise_iff_getElem] at h
  rcases Nat.lt_trichotomy i j with hl | rfl | hl
  · have := h i j hi hj hl; omega
  · rfl
  · have := h j i hj hi hl; omega

theorem mem_ins {ps : List Paper} {p q : Int} : q ∈ ins ps p ↔ ∃ x ∈ ps, x.inn = p ∧ x.pack = q := by
  simp [ins, and_assoc]

theorem ManOK.oneIn {ps ts : List Paper} (h : ManOK ps ts) : OneIn (ins ps) := fun q s t h1 h2 => by
  obtain ⟨x, hx, e1, e2⟩ := mem_ins.1 h1
  obtain ⟨y, hy, e3, e4⟩ := mem_ins.1 h2
  have := asc_inj h.asc hx hy (by rw [e2, e4])
  rw [← e1, ← e3, this]

theorem ins_nodup {ps : List Paper} (h : ps.Pairwise (fun x y => x.pack < y.pack)) (p : Int) : (ins ps p).Nodup := by
  unfold ins List.Nodup
  rw [List.pairwise_map]
  exact (h.sublist List.filter_sublist).imp (fun h => by omega)

theorem ins_pack {ps ts : List Paper} (h : ManOK ps ts) {p q : Int} (hq : q ∈ ins ps p) : 1 ≤ q ∧ q ≤ 200 := by
  obtain ⟨x, hx, _, e⟩ := mem_ins.1 hq
  rw [← e]; exact h.pack x hx

theorem deep_of_lev {K : Int → List Int} : ∀ {n : Nat} {p : Int}, lev K n p = [] → Deep K n p := by
  intro n
  induction n with
  | zero => intro p h; cases h
  | succ n ih =>
    intro p h q hq
    refine ih (List.eq_nil_iff_forall_not_mem.2 fun r hr => ?_)
    have : r ∈ lev K (n + 1) p := lev_head.2 ⟨q, hq, hr⟩
    rw [h] at this; cases this

theorem lev_once {ps ts : List Paper} (h : ManOK ps ts) : ∀ (i j : Nat) (r : Int), r ∈ lev (ins ps) i 0 → r ∈ lev (ins ps) j 0 → i = j := by
  intro i
  induction i with
  | zero =>
    intro j r h1 h2
    cases j with
    | zero => rfl
    | succ j =>
      obtain rfl : r = 0 := by simpa [lev] using h1
      obtain ⟨s, _, hs⟩ := lev_succ.1 h2
      have := (ins_pack h hs).1; omega
  | succ i ih =>
    intro j r h1 h2
    obtain ⟨s, hs, hr⟩ := lev_succ.1 h1
    cases j with
    | zero =>
      obtain rfl : r = 0 := by simpa [lev] using h2
      have := (ins_pack h hr).1; omega
    | succ j =>
      obtain ⟨t, ht, hr'⟩ := lev_succ.1 h2
      have := h.oneIn _ _ _ hr hr'
      subst this
      rw [ih j s hs ht]

theorem lev_chain {ps ts : List Paper} (h : ManOK ps ts) : ∀ (k : Nat) (r : Int), r ∈ lev (ins ps) k 0 → ∃ L : List Int, L.length = k ∧ L.Nodup ∧ (∀ x ∈ L, x ∈ ps.map (·.pack)) ∧ ∀ x ∈ L, ∃ i, i ≤ k ∧ x ∈ lev (ins ps) i 0 := by
  intro k
  induction k with
  | zero => exact fun r _ => ⟨[], rfl, List.nodup_nil, (by simp), (by simp)⟩
  | succ k ih =>
    intro r hr
    obtain ⟨s, hs, hr'⟩ := lev_succ.1 hr
    obtain ⟨L, h1, h2, h3, h4⟩ := ih s hs
    refine ⟨r :: L, by simp [h1], List.nodup_cons.2 ⟨fun hm => ?_, h2⟩, ?_, ?_⟩
    · obtain ⟨i, hi, hm⟩ := h4 r hm
      have := lev_once h _ _ _ hr hm
      omega
    · intro x hx
      cases hx with
      | head => obtain ⟨y, hy, _, e⟩ := mem_ins.1 hr'; exact List.mem_map.2 ⟨y, hy, e⟩
      | tail _ hx => exact h3 x hx
    · intro x hx
      cases hx with
      | head => exact ⟨k + 1, Nat.le_refl _, hr⟩
      | tail _ hx => obtain ⟨i, hi, hx⟩ := h4 x hx; exact ⟨i, by omega, hx⟩

theorem ManOK.deep {ps ts : List Paper} (h : ManOK ps ts) : Deep (ins ps) (ps.length + 1) 0 := by
  refine deep_of_lev (List.eq_nil_iff_forall_not_mem.2 fun r hr => ?_)
  obtain ⟨L, h1, h2, h3, _⟩ := lev_chain h _ r hr
  have := length_le_sub L _ h2 h3
  rw [List.length_map] at this
  omega

def fuel (ps : List Paper) : Nat := ps.length + 1
/-- Whether a manifest is a tree. -/
def treeOK (ps ts : List Paper) : Bool := growOK ps ts (fuel ps) 0 && decide ((sub (ins ps) (fuel ps) 0).length = ps.length + 1)

theorem growOK_all {ps ts : List Paper} : ∀ {n : Nat} {p : Int}, growOK ps ts n p = true → ∀ r ∈ sub (ins ps) n p, 0 ≤ missOf ps ts r := by
  intro n
  induction n with
  | zero => intro p h; cases h
  | succ n ih =>
    intro p h r hr
    rw [growOK, Bool.and_eq_true] at h
    rw [sub] at hr
    cases hr with
    | head => simpa using h.2
    | tail _ hr =>
      obtain ⟨q, hq, hr⟩ := List.mem_flatMap.1 hr
      exact ih (List.all_eq_true.1 h.1 q hq) r hr

theorem ofP_mem {ps : List Paper} {p : Int} {x : Paper} (h : ofP ps p = some x) : x ∈ ps ∧ x.pack = p := by
  refine ⟨List.mem_of_find?_eq_some h, ?_⟩
  have := List.find?_some h
  simpa [fuel] using this

theorem ofP_of_mem {ps : List Paper} (ha : ps.Pairwise (fun x y => x.pack < y.pack)) {x : Paper} (h : x ∈ ps) : ofP ps x.pack = some x := by
  cases hf : ofP ps x.pack with
  | none =>
    have := List.find?_eq_none.1 hf x h
    simp at this
  | some y =>
    obtain ⟨h1, h2⟩ := ofP_mem hf
    rw [asc_inj ha h1 h h2]

/-- A node of a tree holds numbers that cannot overflow. -/
theorem ManOK.bnd {ps ts : List Paper} (h : ManOK ps ts) {ids : List Int} {all : Bool} {n : Nat} {r : Int} {d : Nd} (hr : r ∈ sub (ins ps) n 0) (hg : Grown' ps ts ids all r d) (hm : 0 ≤ missOf ps ts r)
    (ho : (r ≠ 0 → (d.own0, d.own1) = ownOf ps ids all r) ∧ (r = 0 → d.own0 = 0 ∧ d.own1 = 1099511627776)) : BndN d := by
  have hsum : 0 ≤ d.sum0 ∧ d.sum0 ≤ 1099511627776 ∧ 0 ≤ d.sum1 ∧ d.sum1 ≤ 1099511627776 := by
    rw [hg.sum0, hg.sum1, sumsOf]
    cases ht : ofP ts r with
    | none => simp [most]
    | some t =>
      have := h.spanT t (ofP_mem ht).1
      simp only
      split <;> simp <;> omega
  have hmis : d.missing ≤ 40 := by
    rw [hg.missing, missOf]
    cases ht : ofP ts r with
    | none => simp
    | some t =>
      have := h.count t (ofP_mem ht).1
      simp only
      omega
  have hown : 0 ≤ d.own0 ∧ d.own0 ≤ 1099511627776 ∧ 0 ≤ d.own1 ∧ d.own1 ≤ 1099511627776 := by
    by_cases e : r = 0
    · obtain ⟨h1, h2⟩ := ho.2 e
      rw [h1, h2]; omega
    · have h1 := ho.1 e
      have hx : ∃ x ∈ ps, x.pack = r := by
        obtain ⟨k, _, hk⟩ := mem_sub.1 hr
        cases k with
        | zero => exact absurd (by simpa [lev] using hk) e
        | succ k =>
          obtain ⟨s, _, hs⟩ := lev_succ.1 hk
          obtain ⟨x, hx, _, e⟩ := mem_ins.1 hs
          exact ⟨x, hx, e⟩
      obtain ⟨x, hx, e2⟩ := hx
      have hov : ofV ps r = x := by rw [ofV, ← e2, ofP_of_mem h.asc hx]; rfl
      have hsp := h.span x hx
      rw [ownOf, hov] at h1
      split at h1
      · simp only [Prod.mk.injEq] at h1; omega
      · simp only [Prod.mk.injEq] at h1; omega
  exact ⟨⟨hown.1, hown.2.1⟩, ⟨hown.2.2.1, hown.2.2.2⟩, ⟨hsum.1, hsum.2.1⟩, ⟨hsum.2.2.1, hsum.2.2.2⟩, ⟨by rw [hg.missing]; exact hm, hmis⟩, by rw [hg.low]; omega⟩

theorem sub_nodup {K : Int → List Int} (hU : OneIn K) (hK : ∀ p, (K p).Nodup) : ∀ {n : Nat} {p : Int}, Deep K n p → (sub K n p).Nodup := by
  intro n
  induction n with
  | zero => intro p h; exact h.elim
  | succ n ih =>
    intro p h
    rw [sub, List.nodup_cons]
    refine ⟨fun hp => ?_, ?_⟩
    · obtain ⟨q, hq, hp⟩ := List.mem_flatMap.1 hp
      exact sub_above h hq hp
    · unfold List.Nodup
      rw [List.pairwise_flatMap]
      refine ⟨fun q hq => ih (h q hq), ?_⟩
      have hk : (K p).Pairwise (· ≠ ·) := hK p
      rw [List.pairwise_iff_getElem] at hk ⊢
      intro i j hi hj hij x hx y hy he
      subst he
      exact hk i j hi hj hij (subs_apart hU h (List.getElem_mem hi) (List.getElem_mem hj) hx hy)

theorem sub_pack {ps ts : List Paper} (h : ManOK ps ts) {n : Nat} {r : Int} (hr : r ∈ sub (ins ps) n 0) : r = 0 ∨ ∃ x ∈ ps, x.pack = r := by
  obtain ⟨k, _, hk⟩ := mem_sub.1 hr
  cases k with
  | zero => exact .inl (by simpa [lev] using hk)
  | succ k =>
    obtain ⟨s, _, hs⟩ := lev_succ.1 hk
    obtain ⟨x, hx, _, e⟩ := mem_ins.1 hs
    exact .inr ⟨x, hx, e⟩

theorem sub_len {ps ts : List Paper} (h : ManOK ps ts) : (sub (ins ps) (fuel ps) 0).length ≤ ps.length + 1 := by
  have := length_le_sub _ (0 :: ps.map (·.pack)) (sub_nodup h.oneIn (ins_nodup h.asc) h.deep) (fun r hr => by
    rcases sub_pack h hr with e | ⟨x, hx, e⟩
    · rw [e]; exact .head _
    · exact .tail _ (List.mem_map.2 ⟨x, hx, e⟩))
  simpa [fuel] using this

end Go.Proofs.YtpffpofdceppiaaGreatDoor
