/- A part of the proof that laganlaw01.CargoMarks answers true at every input and leaves its arguments as they were; the conditions are those of the given row and card, nothing else. -/
import Derived.Test.YtpffpofdceppiaaGreatDoorKP1
import Derived.Laws.Pointers
set_option linter.unusedSimpArgs false
set_option linter.unusedVariables false
namespace Go.Proofs.YtpffpofdceppiaaGreatDoor
open Go.RowKit Go.Shelf

/-- A reader: words in block g, k of them taken. -/
structure RdAt (w : World) (b g : Nat) (ws : List ByteArray) (k : Nat) : Prop where
  cell : ∃ a : Addr, w.cell? ⟨b, 0, none⟩ = some (.slice (some a) (ws.length - k) (ws.length - k)) ∧ (k < ws.length → a = ⟨g, k, none⟩)
  free : w.frozen? ⟨b, 0, none⟩ = false
  len : ws.length ≤ 100000
  words : ∀ j (h : j < ws.length), w.cell? ⟨g, j, none⟩ = some (.string ws[j])
  ne : g ≠ b

theorem cell_lt {w : World} {a : Addr} {v : Value} (h : w.cell? a = some v) : a.block < w.heap.size := by
  rcases Nat.lt_or_ge a.block w.heap.size with h' | h'
  · exact h'
  · simp [World.cell?, Array.getElem?_eq_none h'] at h

theorem RdAt.below {w w' : World} {b g : Nat} {ws : List ByteArray} {k : Nat} (h : RdAt w b g ws k) (hg : g < w.heap.size) (hb : Below w.heap.size w w') : RdAt w' b g ws k := by
  obtain ⟨⟨a, h1, h1'⟩, h2, h3, h4, h5⟩ := h
  have hbb : b < w.heap.size := by
    exact cell_lt h1
  exact ⟨⟨a, (hb.cell (p := ⟨b, 0, none⟩) hbb).trans h1, h1'⟩, (hb.frozen (p := ⟨b, 0, none⟩) hbb).trans h2, h3, fun j hj => (hb.cell (p := ⟨g, j, none⟩) hg).trans (h4 j hj), h5⟩

def formlessV : Value := .iface 93 (.agg #[])

theorem RdAt.step {w : World} {b g : Nat} {ws : List ByteArray} {k : Nat} (h : RdAt w b g ws k) (a : Addr) (ha : k + 1 < ws.length → a = ⟨g, k + 1, none⟩) (m : Nat) (hm : m = ws.length - (k + 1)) : RdAt (w.setCell ⟨b, 0, none⟩ (.slice (some a) m m)) b g ws (k + 1) := by
  obtain ⟨⟨a0, h1, h1'⟩, h2, h3, h4, h5⟩ := h
  subst hm
  exact ⟨⟨a, by go_simp, ha⟩, by go_simp, h3, fun j hj => by have := h4 j hj; go_simp, h5⟩

set_option maxRecDepth 100000 in
set_option maxHeartbeats 4000000 in
theorem next_any (b g : Nat) (ws : List ByteArray) (k : Nat) (w : World) (h : RdAt w b g ws k) :
    Calls Tryz.prog 156 #[.pointer (some ⟨b, 0, none⟩)] w fun e w' =>
      (∃ s, ws[k]? = some s ∧ e = .returned (.string s) ∧ ∃ v, w' = w.setCell ⟨b, 0, none⟩ v ∧ RdAt w' b g ws (k + 1)) ∨
      (ws[k]? = none ∧ e = .panicked [{ v := formlessV, recovered := false }] ∧ w' = w) := by
  have hst := Lib.hid (h.step)
  obtain ⟨⟨a, h1, h1'⟩, h2, h4, h5, h6⟩ := h
  by_cases hk : k < ws.length
  · have h7 := h5 k hk
    obtain rfl := h1' hk
    have hs : Hid (ws[k]? = some ws[k]) := by show _ = _; exact List.getElem?_eq_getElem hk
    generalize ws[k] = s at *
    have hst2 := Lib.hid (fun a ha => hst.out a ha (ws.length - k - 1) (by omega))
    have hlk : Hid (k + 1 < ws.length → ws.length - k ≠ 1) := fun h => by omega
    clear h5 h1' hst
    generalize hm : ws.length - k = m at *
    have hm1 : 1 ≤ m := by omega
    have hm2 : m ≤ 100000 := by omega
    have hm0 : (((m : Nat) : Int) == 0) = false := by simp; omega
    clear hm
    by_cases h11 : m = 1
    · subst h11
      go_enter Tryz.func156, Tryz.ntmps156
      go_wp2
      go_ret
      exact .inl ⟨_, hs.out, rfl, _, rfl, hst2.out _ (fun h => absurd rfl (hlk.out h))⟩
    · go_enter Tryz.func156, Tryz.ntmps156
      go_wp2
      go_ret
      exact .inl ⟨_, hs.out, rfl, _, rfl, hst2.out _ (fun h => rfl)⟩
  · have hs : Hid (ws[k]? = none) := by show _ = _; exact List.getElem?_eq_none (by omega)
    have hm : ws.length - k = 0 := by omega
    rw [hm] at h1
    clear h5 h1' hst hm
    go_enter Tryz.func156, Tryz.ntmps156
    go_wp2
    exact ⟨rfl, .inr ⟨hs.out, rfl, rfl⟩⟩

end Go.Proofs.YtpffpofdceppiaaGreatDoor
