/- A part of the proof that laganlaw01.CargoMarks answers true at every input and leaves its arguments as they were; the conditions are those of the given row and card, nothing else. -/
import Derived.Test.YtpffpofdceppiaaGreatDoorKL2
import Derived.Test.YtpffpofdceppiaaGreatDoorKT1
set_option linter.unusedSimpArgs false
set_option linter.unusedVariables false
namespace Go.Proofs.YtpffpofdceppiaaGreatDoor
open Go.RowKit Go.Shelf

theorem seek_of_sub {K : Int → List Int} : ∀ {n : Nat} {p t : Int}, t ∈ sub K n p → t ≠ p → seek K n p t = true := by
  intro n
  induction n with
  | zero => intro p t h; cases h
  | succ n ih =>
    intro p t h hne
    rw [sub] at h
    obtain ⟨q, hq, h⟩ := List.mem_flatMap.1 ((List.mem_cons.1 h).resolve_left hne)
    rw [seek, List.any_eq_true]
    refine ⟨q, hq, ?_⟩
    by_cases e : q = t
    · simp [e]
    · rw [ih h (Ne.symm e)]; simp

/-- A list without doubles in another of the same length has all of it. -/
theorem all_of_len {a b : List Int} (hn : a.Nodup) (hs : ∀ x ∈ a, x ∈ b) (hl : b.length ≤ a.length) (x : Int) (hx : x ∈ b) : x ∈ a := by
  by_cases h : x ∈ a
  · exact h
  · have := length_le_sub (x :: a) b (List.nodup_cons.2 ⟨h, hn⟩) (fun y hy => by
      cases hy with
      | head => exact hx
      | tail _ hy => exact hs y hy)
    simp at this
    omega

theorem tree_full {ps ts : List Paper} (h : ManOK ps ts) (ht : treeOK ps ts = true) {x : Paper} (hx : x ∈ ps) : x.pack ∈ sub (ins ps) (fuel ps) 0 := by
  rw [treeOK, Bool.and_eq_true] at ht
  have hl : (sub (ins ps) (fuel ps) 0).length = ps.length + 1 := by simpa using ht.2
  refine all_of_len (b := 0 :: ps.map (·.pack)) (sub_nodup h.oneIn (ins_nodup h.asc) h.deep) (fun r hr => ?_) (by have h9 := hl; unfold fuel at h9; rw [h9]; simp) _ (.tail _ (List.mem_map.2 ⟨x, hx, rfl⟩))
  rcases sub_pack h hr with e | ⟨y, hy, e⟩
  · rw [e]; exact .head _
  · exact .tail _ (List.mem_map.2 ⟨y, hy, e⟩)

theorem seek_pack {ps ts : List Paper} (h : ManOK ps ts) (ht : treeOK ps ts = true) {p : Int} (hp : (ofP ps p).isSome = true) : p ∈ sub (ins ps) (fuel ps) 0 ∧ seek (ins ps) (fuel ps) 0 p = true := by
  obtain ⟨x, hx⟩ := Option.isSome_iff_exists.1 hp
  obtain ⟨h1, h2⟩ := ofP_mem hx
  have hm := tree_full h ht h1
  rw [h2] at hm
  refine ⟨hm, seek_of_sub hm ?_⟩
  have := (h.pack x h1).1
  omega

end Go.Proofs.YtpffpofdceppiaaGreatDoor
