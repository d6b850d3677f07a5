/- A part of the proof that laganlaw01.CargoMarks answers true at every input and leaves its arguments as they were; the conditions are those of the given row and card, nothing else. -/
import Derived.Test.YtpffpofdceppiaaGreatDoorKO3
set_option linter.unusedSimpArgs false
set_option linter.unusedVariables false
namespace Go.Proofs.YtpffpofdceppiaaGreatDoor
open Go.RowKit Go.Shelf

set_option maxRecDepth 100000 in
set_option maxHeartbeats 2000000 in
theorem Index_any (v : Value) (l : List Int) (n : Int) (w : World) (hv : IntsAt w v l) (hn : l.length ≤ 100000) :
    Calls Tryz.prog 111 #[v, .int .i64 n] w fun e w' => e = .returned (.int .i64 (hav (fun y => n == y) l)) ∧ Below w.heap.size w w' := by
  obtain ⟨a, c, rfl, h1, h2, h3⟩ := hv
  go_enter Tryz.func111, Tryz.ntmps111
  go_wp2_with fail
  go_loopw [8] (fun s8 wr => ∃ k : Nat, k ≤ l.length ∧ s8 = .int .i64 k ∧ Hid (∀ j (h : j < l.length), j < k → (n == l[j]) = false) ∧ Below w.heap.size w wr) (fun s8 _ => l.length - (intOf s8).toNat)
  case atStart => exact ⟨0, Nat.zero_le _, rfl, fun j _ hj => absurd hj (Nat.not_lt_zero _), Below.refl _ _⟩
  case round =>
    obtain ⟨k, hk, rfl, hno, hb⟩ := hrel
    by_cases hlt : k < l.length
    · obtain ⟨b, off, rfl, hbs, hcell⟩ := h3 (by omega)
      have hc := hcell k hlt 0 _ rfl
      have hc : w.cell? ⟨b, off + k, none⟩ = some (.int .i64 l[k]) := by simpa [encI] using hc
      have hc1 := (hb.cell (p := ⟨b, off + k, none⟩) hbs).trans hc
      have hno2 : Hid ((n == l[k]) = false → ∀ j (hj : j < l.length), j < k + 1 → (n == l[j]) = false) := fun h0 j hj hjk => by
        by_cases e : j = k
        · subst e; exact h0
        · exact hno.out j hj (by omega)
      have hhit : Hid ((n == l[k]) = true → hav (fun y => n == y) l = k) := fun h0 => hav_hit (fun y => n == y) l k hlt h0 (fun j hj => hno.out j (by omega) hj)
      clear hc hcell h3
      generalize l[k] = x at *
      cases g : (n == x)
      · have h9 := hno2.out g
        have H9 := Lib.hid h9
        clear h9 hno2 hno hhit
        go_wp2_with fail
        go_roundw
        case rel => exact ⟨k + 1, by omega, by go_num, H9.out, by first | exact hb | exact hb.drew | exact below_drewN hb _⟩
        case measure => simp [intOf]; omega
      · have h9 := hhit.out g
        have H9 := Lib.hid h9
        clear h9 hno2 hno hhit
        go_wp2_with fail
        go_ret
        exact ⟨by rw [H9.out]; rfl, by first | exact hb | exact hb.drew | exact below_drewN hb _⟩
    · obtain rfl : k = l.length := by omega
      have H9 : Hid (hav (fun y => n == y) l = -1) := hav_miss _ _ (fun j hj => hno.out j hj hj)
      clear hno
      go_wp2_with fail
      go_ret
      exact ⟨by rw [H9.out]; rfl, by first | exact hb | exact hb.drew | exact below_drewN hb _⟩

set_option maxHeartbeats 1000000 in
theorem Contains_any (v : Value) (l : List Int) (n : Int) (w : World) (hv : IntsAt w v l) (hn : l.length ≤ 100000) :
    Calls Tryz.prog 46 #[v, .int .i64 n] w fun e w' => e = .returned (.bool (l.contains n)) ∧ Below w.heap.size w w' := by
  have hc := Lib.hid (Index_any v l n w hv hn)
  have hh := hav_nonneg (fun y => n == y) l
  obtain ⟨a, c, rfl, h1, h2, h3⟩ := hv
  have he : l.any (fun y => n == y) = l.contains n := by rw [List.contains_eq_any_beq]
  rw [he] at hh
  generalize hav (fun y => n == y) l = q at *
  have HH := Lib.hid hh
  clear hh h3 he
  go_enter Tryz.func46, Tryz.ntmps46
  go_wp2_with fail
  refine hc.out.mono ?_
  rintro e w' ⟨rfl, hb⟩
  go_wp2_with fail
  go_ret
  exact ⟨by rw [← HH.out]; rfl, hb⟩

end Go.Proofs.YtpffpofdceppiaaGreatDoor
