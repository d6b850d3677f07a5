/- A part of the proof that laganlaw01.CargoMarks answers true at every input and leaves its arguments as they were; the conditions are those of the given row and card, nothing else. -/
import Derived.Test.YtpffpofdceppiaaGreatDoorKL2
import Derived.Test.YtpffpofdceppiaaGreatDoorKT4
set_option linter.unusedSimpArgs false
set_option linter.unusedVariables false
namespace Go.Proofs.YtpffpofdceppiaaGreatDoor
open Go.RowKit Go.Shelf

/-- The numbers of a node. -/
def Nd.nums (d : Nd) : Int × Int × Int × Int × Int × Int × Int × Int := (d.own0, d.own1, d.sum0, d.sum1, d.missing, d.low, d.end0, d.end1)

/-- The same numbers at all packages of a list. -/
def Eqv (D : List Int) (S T : Int → Nd) : Prop := ∀ r ∈ D, (S r).nums = (T r).nums

theorem nums_iff {d e : Nd} : d.nums = e.nums ↔ d.own0 = e.own0 ∧ d.own1 = e.own1 ∧ d.sum0 = e.sum0 ∧ d.sum1 = e.sum1 ∧ d.missing = e.missing ∧ d.low = e.low ∧ d.end0 = e.end0 ∧ d.end1 = e.end1 := by
  simp [Nd.nums]

/-- Two answers alike. -/
def EqvO (D : List Int) : Option (Int → Nd) → Option (Int → Nd) → Prop
  | none, none => True
  | some S, some T => Eqv D S T
  | _, _ => False

theorem kidsFold_eqv {D : List Int} {f : Int → (Int → Nd) → Option (Int → Nd)} (hf : ∀ q ∈ D, ∀ S T, Eqv D S T → EqvO D (f q S) (f q T)) : ∀ (l : List Int), (∀ q ∈ l, q ∈ D) → ∀ (S T : Int → Nd) (lo hi : Int), Eqv D S T →
    (kidsFold f l (S, lo, hi) = none ∧ kidsFold f l (T, lo, hi) = none) ∨ ∃ S' T' lo' hi', kidsFold f l (S, lo, hi) = some (S', lo', hi') ∧ kidsFold f l (T, lo, hi) = some (T', lo', hi') ∧ Eqv D S' T' := by
  intro l
  induction l with
  | nil => exact fun _ S T lo hi h => .inr ⟨S, T, lo, hi, rfl, rfl, h⟩
  | cons q l ih =>
    intro hl S T lo hi h
    have hq := hf q (hl q (.head _)) S T h
    simp only [kidsFold]
    cases h1 : f q S with
    | none =>
      cases h2 : f q T with
      | none => exact .inl ⟨rfl, rfl⟩
      | some T' => rw [h1, h2] at hq; exact hq.elim
    | some S' =>
      cases h2 : f q T with
      | none => rw [h1, h2] at hq; exact hq.elim
      | some T' =>
        rw [h1, h2] at hq
        have he := nums_iff.1 (hq q (hl q (.head _)))
        simp only [he.2.1, he.2.2.2.2.2.1]
        exact ih (fun r hr => hl r (.tail _ hr)) S' T' _ _ hq

theorem Eqv.upd {D : List Int} {S T : Int → Nd} (h : Eqv D S T) (p : Int) {d e : Nd} (hd : d.nums = e.nums) : Eqv D (upd S p d) (upd T p e) := fun r hr => by
  by_cases he : r = p
  · subst he; rw [upd_same, upd_same]; exact hd
  · rw [upd_other _ _ _ _ he, upd_other _ _ _ _ he]; exact h r hr

theorem riseS_eqv {K : Int → List Int} {D : List Int} (hc : ∀ p ∈ D, ∀ q ∈ K p, q ∈ D) : ∀ (n : Nat) (p : Int), p ∈ D → ∀ S T, Eqv D S T → EqvO D (riseS K n p S) (riseS K n p T) := by
  intro n
  induction n with
  | zero => exact fun _ _ _ _ _ => trivial
  | succ n ih =>
    intro p hp S T h
    have hpn := nums_iff.1 (h p hp)
    simp only [riseS]
    rw [hpn.2.2.2.2.1]
    rcases kidsFold_eqv (f := riseS K n) (fun q hq S T h => ih q hq S T h) (K p) (hc p hp) S T (T p).missing ((T p).missing * 100000) h with ⟨h1, h2⟩ | ⟨S', T', lo', hi', h1, h2, h3⟩
    · rw [h1, h2]; trivial
    · rw [h1, h2]
      have hp' := nums_iff.1 (h3 p hp)
      simp only [hp'.1, hp'.2.1, hp'.2.2.1, hp'.2.2.2.1]
      split
      · trivial
      · exact h3.upd p (nums_iff.2 ⟨rfl, rfl, rfl, rfl, hp'.2.2.2.2.1, rfl, hp'.2.2.2.2.2.2.1, hp'.2.2.2.2.2.2.2⟩)

theorem lows_eqv {D : List Int} {S T : Int → Nd} (h : Eqv D S T) : ∀ (l : List Int), (∀ q ∈ l, q ∈ D) → ∀ m, lows S m l = lows T m l ∧ highs S m l = highs T m l := by
  intro l
  induction l with
  | nil => exact fun _ _ => ⟨rfl, rfl⟩
  | cons q l ih =>
    intro hl m
    have hq := nums_iff.1 (h q (hl q (.head _)))
    simp only [lows, highs, List.foldl_cons]
    rw [hq.2.2.2.2.2.1, hq.2.1]
    exact ⟨(ih (fun r hr => hl r (.tail _ hr)) _).1, (ih (fun r hr => hl r (.tail _ hr)) _).2⟩

theorem sinkFold_eqv {D : List Int} {f : Int → (Int → Nd) → (Int → Nd)} (hf : ∀ q ∈ D, ∀ S T, Eqv D S T → Eqv D (f q S) (f q T)) (top lo hi s0 : Int) : ∀ (l : List Int), (∀ q ∈ l, q ∈ D) → ∀ S T, Eqv D S T → Eqv D (l.foldl (sinkStep f top lo hi s0) S) (l.foldl (sinkStep f top lo hi s0) T) := by
  intro l
  induction l with
  | nil => exact fun _ S T h => h
  | cons q l ih =>
    intro hl S T h
    have hq := nums_iff.1 (h q (hl q (.head _)))
    refine ih (fun r hr => hl r (.tail _ hr)) _ _ ?_
    unfold sinkStep
    refine hf q (hl q (.head _)) _ _ (h.upd q (nums_iff.2 ⟨hq.1, hq.2.1, hq.2.2.1, hq.2.2.2.1, hq.2.2.2.2.1, hq.2.2.2.2.2.1, ?_, ?_⟩))
    · simp only [hq.2.1, hq.2.2.2.2.2.1]
    · simp only [hq.2.1, hq.2.2.2.2.2.1]

theorem sinkS_eqv {K : Int → List Int} {D : List Int} (hc : ∀ p ∈ D, ∀ q ∈ K p, q ∈ D) : ∀ (n : Nat) (p : Int), p ∈ D → ∀ S T, Eqv D S T → Eqv D (sinkS K n p S) (sinkS K n p T) := by
  intro n
  induction n with
  | zero => exact fun _ _ S T h => h
  | succ n ih =>
    intro p hp S T h
    have hpn := nums_iff.1 (h p hp)
    simp only [sinkS]
    rw [hpn.2.2.2.1, hpn.2.2.2.2.2.2.2, hpn.2.2.2.2.1, hpn.2.2.1, (lows_eqv h (K p) (hc p hp) _).1, (lows_eqv h (K p) (hc p hp) _).2]
    exact sinkFold_eqv (fun q hq S T h => ih q hq S T h) _ _ _ _ (K p) (hc p hp) S T h

theorem solvedS_eqv {K : Int → List Int} {D : List Int} (hc : ∀ p ∈ D, ∀ q ∈ K p, q ∈ D) (n : Nat) (p : Int) (hp : p ∈ D) (S T : Int → Nd) (h : Eqv D S T) : EqvO D (solvedS K n p S) (solvedS K n p T) := by
  have hr := riseS_eqv hc n p hp S T h
  unfold solvedS
  cases h1 : riseS K n p S with
  | none =>
    cases h2 : riseS K n p T with
    | none => trivial
    | some T' => rw [h1, h2] at hr; exact hr.elim
  | some S' =>
    cases h2 : riseS K n p T with
    | none => rw [h1, h2] at hr; exact hr.elim
    | some T' =>
      rw [h1, h2] at hr
      have hp' := nums_iff.1 (hr p hp)
      exact sinkS_eqv hc n p hp _ _ (Eqv.upd hr p (nums_iff.2 ⟨hp'.1, hp'.2.1, hp'.2.2.1, hp'.2.2.2.1, hp'.2.2.2.2.1, hp'.2.2.2.2.2.1, hp'.1, hp'.2.1⟩))

/-- The numbers of a manifest's nodes, before they are solved. -/
def manNd (ps ts : List Paper) (ids : List Int) (all : Bool) (r : Int) : Nd :=
  let o := if r = 0 then (0, most) else ownOf ps ids all r
  let s := sumsOf ts ids all r
  ⟨Paper.zero, .pointer none, .slice none 0 0, o.1, o.2, s.1, s.2, missOf ps ts r, 0, 0, 0⟩

/-- The ends of a manifest by the weights of some Ids; none: there is no completion. -/
def solved (ps ts : List Paper) (ids : List Int) (all : Bool) : Option (Int → Nd) := solvedS (ins ps) (fuel ps) 0 (manNd ps ts ids all)

end Go.Proofs.YtpffpofdceppiaaGreatDoor
