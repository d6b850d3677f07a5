/- A part of the proof that laganlaw01.CargoTexts answers true at every input and leaves its arguments as they were; the conditions are those of the given row and card, nothing else. -/
import Derived.Shelf.Strings.OnBuilder
import Derived.Test.YtpffpofdceppiaaGreatDoorProg
import Derived.Test.YtpffpofdceppiaaGreatDoorKL2
import Derived.Test.YtpffpofdceppiaaGreatDoorKT4
import Derived.Test.YtpffpofdceppiaaGreatDoorKT1
import Derived.Shelf.SlGeneric
import Derived.Shelf.Spec.SlicesGrow
namespace Go.Proofs
open Go.Shelf

def Tryz.lays156_ren : Go.Shelf.Ren := ⟨fun | 156 => 82 | 165 => 149 | 166 => 150 | 169 => 151 | 240 => 185 | 241 => 186 | 276 => 204 | 277 => 205 | n => n, fun | 31 => 85 | 9 => 9 | 3 => 3 | 4 => 4 | 0 => 0 | 20 => 20 | 72 => 155 | 76 => 159 | 70 => 152 | 37 => 153 | 75 => 158 | 127 => 185 | 164 => 203 | 5 => 5 | 80 => 161 | n => n, fun | n => n⟩
theorem Tryz.lays156 : Go.Proofs.Lays.n156 Tryz.prog Tryz.lays156_ren := {
  mixed := by kernel_rfl
  f156 := Tryz.func82.trans (congrArg some (by kernel_rfl))
  f165 := Tryz.func149.trans (congrArg some (by kernel_rfl))
  f166 := Tryz.func150.trans (congrArg some (by kernel_rfl))
  f169 := Tryz.func151.trans (congrArg some (by kernel_rfl))
  f240 := Tryz.func185.trans (congrArg some (by kernel_rfl))
  f241 := Tryz.func186.trans (congrArg some (by kernel_rfl))
  f276 := Tryz.func204.trans (congrArg some (by kernel_rfl))
  f277 := Tryz.func205.trans (congrArg some (by kernel_rfl))
  t0 := Tryz.underlying0
  a0 := Tryz.isAgg0
  z0 := Tryz.sizeOf0
  v0 := Tryz.zeroValue0
  t3 := Tryz.underlying3
  a3 := Tryz.isAgg3
  z3 := Tryz.sizeOf3
  v3 := Tryz.zeroValue3
  t4 := Tryz.underlying4
  a4 := Tryz.isAgg4
  z4 := Tryz.sizeOf4
  v4 := Tryz.zeroValue4
  t9 := Tryz.underlying9
  a9 := Tryz.isAgg9
  z9 := Tryz.sizeOf9
  v9 := Tryz.zeroValue9
  t20 := Tryz.underlying20
  a20 := Tryz.isAgg20
  z20 := Tryz.sizeOf20
  v20 := Tryz.zeroValue20
  t31 := Tryz.underlying85
  a31 := Tryz.isAgg85
  z31 := Tryz.sizeOf85
  v31 := Tryz.zeroValue85
  t37 := Tryz.underlying153
  a37 := Tryz.isAgg153
  z37 := Tryz.sizeOf153
  v37 := Tryz.zeroValue153
  t70 := Tryz.underlying152
  a70 := Tryz.isAgg152
  z70 := Tryz.sizeOf152
  v70 := Tryz.zeroValue152
  t72 := Tryz.underlying155
  a72 := Tryz.isAgg155
  z72 := Tryz.sizeOf155
  v72 := Tryz.zeroValue155
  t75 := Tryz.underlying158
  a75 := Tryz.isAgg158
  z75 := Tryz.sizeOf158
  v75 := Tryz.zeroValue158
  t76 := Tryz.underlying159
  a76 := Tryz.isAgg159
  z76 := Tryz.sizeOf159
  v76 := Tryz.zeroValue159
  t127 := Tryz.underlying185
  a127 := Tryz.isAgg185
  z127 := Tryz.sizeOf185
  v127 := Tryz.zeroValue185
  t164 := Tryz.underlying203
  a164 := Tryz.isAgg203
  z164 := Tryz.sizeOf203
  v164 := Tryz.zeroValue203 }
theorem Tryz.Builder_Extra_156 : Builder.Extra Tryz.prog Tryz.lays156_ren := {
  sizeBuilder := by kernel_rfl
  liesBuilder := by kernel_rfl
  t5 := Tryz.underlying5
  a5 := Tryz.isAgg5
  z5 := Tryz.sizeOf5
  v5 := Tryz.zeroValue5
  infoByte := by kernel_rfl
  cellsByte := by kernel_rfl
  sizeByte := by kernel_rfl
  neB5 := by decide }
open Go.RowKit in
/-- strings.Join: "Join concatenates the elements of its first argument to create a single string. The separator string sep is placed between elements in the resulting string.": HOWEVER MANY ELEMENTS. Below the heap's end the world is as it was. (LAID: no walk: one application.) -/
theorem Tryz.strings_Join (bk o c : Nat) (xs : List ByteArray) (sep : ByteArray) (w : World) (hcells : ∀ (j : Nat) x, xs[j]? = some x → w.cell? ⟨bk, o + j, none⟩ = some (.string x)) (hbk : bk < w.heap.size) (hN : xs.length ≤ 140737488355328) (hcap : xs.length ≤ c) (hlen : (Lib.join (xs.map (·.data.toList)) sep.data.toList).length ≤ 140737488355328) :
    Calls Tryz.prog 82 #[.slice (some ⟨bk, o, none⟩) xs.length c, .string sep] w fun e w' => e = .returned (.string ⟨(Lib.join (xs.map (·.data.toList)) sep.data.toList).toArray⟩) ∧ Below w.heap.size w w' := Any.strings_Join Tryz.lays156 Tryz.Builder_Extra_156 bk o c xs sep w hcells hbk hN hcap hlen
end Go.Proofs

set_option linter.unusedSimpArgs false
set_option linter.unusedVariables false
namespace Go.Proofs.YtpffpofdceppiaaGreatDoor
open Go.RowKit Go.Shelf

/-- The numbers of a node. -/
def Nd.nums (d : Nd) : Int × Int × Int × Int × Int × Int × Int × Int := (d.own0, d.own1, d.sum0, d.sum1, d.missing, d.low, d.end0, d.end1)

/-- The same numbers at all packages of a list. -/
def Eqv (D : List Int) (S T : Int → Nd) : Prop := ∀ r ∈ D, (S r).nums = (T r).nums

theorem nums_iff {d e : Nd} : d.nums = e.nums ↔ d.own0 = e.own0 ∧ d.own1 = e.own1 ∧ d.sum0 = e.sum0 ∧ d.sum1 = e.sum1 ∧ d.missing = e.missing ∧ d.low = e.low ∧ d.end0 = e.end0 ∧ d.end1 = e.end1 := by
  simp [Nd.nums]

/-- Two answers alike. -/
def EqvO (D : List Int) : Option (Int → Nd) → Option (Int → Nd) → Prop
  | none, none => True
  | some S, some T => Eqv D S T
  | _, _ => False

theorem kidsFold_eqv {D : List Int} {f : Int → (Int → Nd) → Option (Int → Nd)} (hf : ∀ q ∈ D, ∀ S T, Eqv D S T → EqvO D (f q S) (f q T)) : ∀ (l : List Int), (∀ q ∈ l, q ∈ D) → ∀ (S T : Int → Nd) (lo hi : Int), Eqv D S T →
    (kidsFold f l (S, lo, hi) = none ∧ kidsFold f l (T, lo, hi) = none) ∨ ∃ S' T' lo' hi', kidsFold f l (S, lo, hi) = some (S', lo', hi') ∧ kidsFold f l (T, lo, hi) = some (T', lo', hi') ∧ Eqv D S' T' := by
  intro l
  induction l with
  | nil => exact fun _ S T lo hi h => .inr ⟨S, T, lo, hi, rfl, rfl, h⟩
  | cons q l ih =>
    intro hl S T lo hi h
    have hq := hf q (hl q (.head _)) S T h
    simp only [kidsFold]
    cases h1 : f q S with
    | none =>
      cases h2 : f q T with
      | none => exact .inl ⟨rfl, rfl⟩
      | some T' => rw [h1, h2] at hq; exact hq.elim
    | some S' =>
      cases h2 : f q T with
      | none => rw [h1, h2] at hq; exact hq.elim
      | some T' =>
        rw [h1, h2] at hq
        have he := nums_iff.1 (hq q (hl q (.head _)))
        simp only [he.2.1, he.2.2.2.2.2.1]
        exact ih (fun r hr => hl r (.tail _ hr)) S' T' _ _ hq

theorem Eqv.upd {D : List Int} {S T : Int → Nd} (h : Eqv D S T) (p : Int) {d e : Nd} (hd : d.nums = e.nums) : Eqv D (upd S p d) (upd T p e) := fun r hr => by
  by_cases he : r = p
  · subst he; rw [upd_same, upd_same]; exact hd
  · rw [upd_other _ _ _ _ he, upd_other _ _ _ _ he]; exact h r hr

theorem riseS_eqv {K : Int → List Int} {D : List Int} (hc : ∀ p ∈ D, ∀ q ∈ K p, q ∈ D) : ∀ (n : Nat) (p : Int), p ∈ D → ∀ S T, Eqv D S T → EqvO D (riseS K n p S) (riseS K n p T) := by
  intro n
  induction n with
  | zero => exact fun _ _ _ _ _ => trivial
  | succ n ih =>
    intro p hp S T h
    have hpn := nums_iff.1 (h p hp)
    simp only [riseS]
    rw [hpn.2.2.2.2.1]
    rcases kidsFold_eqv (f := riseS K n) (fun q hq S T h => ih q hq S T h) (K p) (hc p hp) S T (T p).missing ((T p).missing * 100000) h with ⟨h1, h2⟩ | ⟨S', T', lo', hi', h1, h2, h3⟩
    · rw [h1, h2]; trivial
    · rw [h1, h2]
      have hp' := nums_iff.1 (h3 p hp)
      simp only [hp'.1, hp'.2.1, hp'.2.2.1, hp'.2.2.2.1]
      split
      · trivial
      · exact h3.upd p (nums_iff.2 ⟨rfl, rfl, rfl, rfl, hp'.2.2.2.2.1, rfl, hp'.2.2.2.2.2.2.1, hp'.2.2.2.2.2.2.2⟩)

theorem lows_eqv {D : List Int} {S T : Int → Nd} (h : Eqv D S T) : ∀ (l : List Int), (∀ q ∈ l, q ∈ D) → ∀ m, lows S m l = lows T m l ∧ highs S m l = highs T m l := by
  intro l
  induction l with
  | nil => exact fun _ _ => ⟨rfl, rfl⟩
  | cons q l ih =>
    intro hl m
    have hq := nums_iff.1 (h q (hl q (.head _)))
    simp only [lows, highs, List.foldl_cons]
    rw [hq.2.2.2.2.2.1, hq.2.1]
    exact ⟨(ih (fun r hr => hl r (.tail _ hr)) _).1, (ih (fun r hr => hl r (.tail _ hr)) _).2⟩

theorem sinkFold_eqv {D : List Int} {f : Int → (Int → Nd) → (Int → Nd)} (hf : ∀ q ∈ D, ∀ S T, Eqv D S T → Eqv D (f q S) (f q T)) (top lo hi s0 : Int) : ∀ (l : List Int), (∀ q ∈ l, q ∈ D) → ∀ S T, Eqv D S T → Eqv D (l.foldl (sinkStep f top lo hi s0) S) (l.foldl (sinkStep f top lo hi s0) T) := by
  intro l
  induction l with
  | nil => exact fun _ S T h => h
  | cons q l ih =>
    intro hl S T h
    have hq := nums_iff.1 (h q (hl q (.head _)))
    refine ih (fun r hr => hl r (.tail _ hr)) _ _ ?_
    unfold sinkStep
    refine hf q (hl q (.head _)) _ _ (h.upd q (nums_iff.2 ⟨hq.1, hq.2.1, hq.2.2.1, hq.2.2.2.1, hq.2.2.2.2.1, hq.2.2.2.2.2.1, ?_, ?_⟩))
    · simp only [hq.2.1, hq.2.2.2.2.2.1]
    · simp only [hq.2.1, hq.2.2.2.2.2.1]

theorem sinkS_eqv {K : Int → List Int} {D : List Int} (hc : ∀ p ∈ D, ∀ q ∈ K p, q ∈ D) : ∀ (n : Nat) (p : Int), p ∈ D → ∀ S T, Eqv D S T → Eqv D (sinkS K n p S) (sinkS K n p T) := by
  intro n
  induction n with
  | zero => exact fun _ _ S T h => h
  | succ n ih =>
    intro p hp S T h
    have hpn := nums_iff.1 (h p hp)
    simp only [sinkS]
    rw [hpn.2.2.2.1, hpn.2.2.2.2.2.2.2, hpn.2.2.2.2.1, hpn.2.2.1, (lows_eqv h (K p) (hc p hp) _).1, (lows_eqv h (K p) (hc p hp) _).2]
    exact sinkFold_eqv (fun q hq S T h => ih q hq S T h) _ _ _ _ (K p) (hc p hp) S T h

theorem solvedS_eqv {K : Int → List Int} {D : List Int} (hc : ∀ p ∈ D, ∀ q ∈ K p, q ∈ D) (n : Nat) (p : Int) (hp : p ∈ D) (S T : Int → Nd) (h : Eqv D S T) : EqvO D (solvedS K n p S) (solvedS K n p T) := by
  have hr := riseS_eqv hc n p hp S T h
  unfold solvedS
  cases h1 : riseS K n p S with
  | none =>
    cases h2 : riseS K n p T with
    | none => trivial
    | some T' => rw [h1, h2] at hr; exact hr.elim
  | some S' =>
    cases h2 : riseS K n p T with
    | none => rw [h1, h2] at hr; exact hr.elim
    | some T' =>
      rw [h1, h2] at hr
      have hp' := nums_iff.1 (hr p hp)
      exact sinkS_eqv hc n p hp _ _ (Eqv.upd hr p (nums_iff.2 ⟨hp'.1, hp'.2.1, hp'.2.2.1, hp'.2.2.2.1, hp'.2.2.2.2.1, hp'.2.2.2.2.2.1, hp'.1, hp'.2.1⟩))

/-- The numbers of a manifest's nodes, before they are solved. -/
def manNd (ps ts : List Paper) (ids : List Int) (all : Bool) (r : Int) : Nd :=
  let o := if r = 0 then (0, most) else ownOf ps ids all r
  let s := sumsOf ts ids all r
  ⟨Paper.zero, .pointer none, .slice none 0 0, o.1, o.2, s.1, s.2, missOf ps ts r, 0, 0, 0⟩

/-- The ends of a manifest by the weights of some Ids; none: there is no completion. -/
def solved (ps ts : List Paper) (ids : List Int) (all : Bool) : Option (Int → Nd) := solvedS (ins ps) (fuel ps) 0 (manNd ps ts ids all)

end Go.Proofs.YtpffpofdceppiaaGreatDoor

set_option linter.unusedSimpArgs false
set_option linter.unusedVariables false
namespace Go.Proofs.YtpffpofdceppiaaGreatDoor
open Go.RowKit Go.Shelf

theorem seek_of_sub {K : Int → List Int} : ∀ {n : Nat} {p t : Int}, t ∈ sub K n p → t ≠ p → seek K n p t = true := by
  intro n
  induction n with
  | zero => intro p t h; cases h
  | succ n ih =>
    intro p t h hne
    rw [sub] at h
    obtain ⟨q, hq, h⟩ := List.mem_flatMap.1 ((List.mem_cons.1 h).resolve_left hne)
    rw [seek, List.any_eq_true]
    refine ⟨q, hq, ?_⟩
    by_cases e : q = t
    · simp [e]
    · rw [ih h (Ne.symm e)]; simp

/-- A list without doubles in another of the same length has all of it. -/
theorem all_of_len {a b : List Int} (hn : a.Nodup) (hs : ∀ x ∈ a, x ∈ b) (hl : b.length ≤ a.length) (x : Int) (hx : x ∈ b) : x ∈ a := by
  by_cases h : x ∈ a
  · exact h
  · have := length_le_sub (x :: a) b (List.nodup_cons.2 ⟨h, hn⟩) (fun y hy => by
      cases hy with
      | head => exact hx
      | tail _ hy => exact hs y hy)
    simp at this
    omega

theorem tree_full {ps ts : List Paper} (h : ManOK ps ts) (ht : treeOK ps ts = true) {x : Paper} (hx : x ∈ ps) : x.pack ∈ sub (ins ps) (fuel ps) 0 := by
  rw [treeOK, Bool.and_eq_true] at ht
  have hl : (sub (ins ps) (fuel ps) 0).length = ps.length + 1 := by simpa using ht.2
  refine all_of_len (b := 0 :: ps.map (·.pack)) (sub_nodup h.oneIn (ins_nodup h.asc) h.deep) (fun r hr => ?_) (by have h9 := hl; unfold fuel at h9; rw [h9]; simp) _ (.tail _ (List.mem_map.2 ⟨x, hx, rfl⟩))
  rcases sub_pack h hr with e | ⟨y, hy, e⟩
  · rw [e]; exact .head _
  · exact .tail _ (List.mem_map.2 ⟨y, hy, e⟩)

theorem seek_pack {ps ts : List Paper} (h : ManOK ps ts) (ht : treeOK ps ts = true) {p : Int} (hp : (ofP ps p).isSome = true) : p ∈ sub (ins ps) (fuel ps) 0 ∧ seek (ins ps) (fuel ps) 0 p = true := by
  obtain ⟨x, hx⟩ := Option.isSome_iff_exists.1 hp
  obtain ⟨h1, h2⟩ := ofP_mem hx
  have hm := tree_full h ht h1
  rw [h2] at hm
  refine ⟨hm, seek_of_sub hm ?_⟩
  have := (h.pack x h1).1
  omega

end Go.Proofs.YtpffpofdceppiaaGreatDoor

namespace Go.Proofs
open Go.Shelf
def Tryz.growP_ren : Go.Shelf.Ren := ⟨fun | 4 => 195 | n => n, fun | 22 => 30 | 25 => 28 | 3 => 3 | 4 => 4 | 9 => 9 | 20 => 20 | 0 => 0 | n => n, fun | n => n⟩
theorem Tryz.growP : Go.Proofs.Lays8.n4 Tryz.prog Tryz.growP_ren := {
  mixed := by kernel_rfl
  f4 := ⟨Tryz.f195.name, by decide, Tryz.func195.trans (congrArg some (by kernel_rfl))⟩
  t0 := Tryz.underlying0
  a0 := Tryz.isAgg0
  z0 := Tryz.sizeOf0
  v0 := Tryz.zeroValue0
  t3 := Tryz.underlying3
  a3 := Tryz.isAgg3
  z3 := Tryz.sizeOf3
  v3 := Tryz.zeroValue3
  t4 := Tryz.underlying4
  a4 := Tryz.isAgg4
  z4 := Tryz.sizeOf4
  v4 := Tryz.zeroValue4
  t9 := Tryz.underlying9
  a9 := Tryz.isAgg9
  z9 := Tryz.sizeOf9
  v9 := Tryz.zeroValue9
  t20 := Tryz.underlying20
  a20 := Tryz.isAgg20
  z20 := Tryz.sizeOf20
  v20 := Tryz.zeroValue20
  t22 := Tryz.underlying30
  a22 := Tryz.isAgg30
  z22 := Tryz.sizeOf30
  v22 := Tryz.zeroValue30 }
end Go.Proofs
