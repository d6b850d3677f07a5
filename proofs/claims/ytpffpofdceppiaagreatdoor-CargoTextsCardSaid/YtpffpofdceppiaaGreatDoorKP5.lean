/- A part of the proof that laganlaw01.CargoTexts answers true at every input and leaves its arguments as they were; the conditions are those of the given row and card, nothing else. -/
import Derived.Test.YtpffpofdceppiaaGreatDoorKP4
import Derived.Test.YtpffpofdceppiaaGreatDoorKH3
import Derived.Test.YtpffpofdceppiaaGreatDoorKH4
import Derived.Test.YtpffpofdceppiaaGreatDoorKH5
import Derived.Test.YtpffpofdceppiaaGreatDoorKR1
set_option linter.unusedSimpArgs false
set_option linter.unusedVariables false
namespace Go.Proofs.YtpffpofdceppiaaGreatDoor
open Go.RowKit Go.Shelf

/-- The number that a word is read as. -/
def numW : Option ByteArray → Option Int
  | none => none
  | some s => match Lib.atoiAll s.data.toList with
    | .ok v => some v
    | _ => none

theorem below_bytes (w : World) (t : TypeId) (s : ByteArray) : Below w.heap.size w (Lib.bytesWorld w t s) := ⟨rfl, rfl, rfl, by rw [Lib.bytesWorld_size]; omega, fun k hk => Lib.bytesWorld_at_old w t s k hk⟩

theorem Atoi_any (s : ByteArray) (w : World) (hs : s.size ≤ 100000) (hG : Gl w) :
    Calls Tryz.prog 188 #[.string s] w fun e w' => (∃ v, numW (some s) = some v ∧ e = .returned (.tuple #[.int .i64 v, .nilIface]) ∧ Below w.heap.size w w') ∨
      (numW (some s) = none ∧ (∃ v t p, e = .returned (.tuple #[.int .i64 v, .iface t p])) ∧ Below w.heap.size w w') := by
  obtain ⟨t3, p3, h3⟩ := hG.syn
  obtain ⟨t4, p4, h4⟩ := hG.rng
  cases h : Lib.atoiAll s.data.toList with
  | ok v =>
    refine (Tryz.strconv_Atoi_ok s (by omega) v h w).mono ?_
    rintro e w' ⟨rfl, hw⟩
    refine .inl ⟨v, by rw [numW, h], rfl, ?_⟩
    rcases hw with rfl | ⟨t, rfl⟩
    · exact Below.refl _ _
    · exact below_bytes _ _ _
  | range =>
    refine (Tryz.strconv_Atoi_range_var s (by omega) h t4 p4 w h4).mono ?_
    rintro e w' ⟨N, rfl, _, _, hb⟩
    exact .inr ⟨by rw [numW, h], ⟨_, _, _, rfl⟩, hb⟩
  | _ =>
    refine (Tryz.strconv_Atoi_syntax_var s (by omega) (fun v e => by rw [h] at e; cases e) (fun e => by rw [h] at e; cases e) t3 p3 w h3).mono ?_
    rintro e w' ⟨N, rfl, _, _, hb⟩
    exact .inr ⟨by rw [numW, h], ⟨_, _, _, rfl⟩, hb⟩

/-- A reader of a call that began at w0. -/
structure RdI (w0 : World) (b g : Nat) (ws : List ByteArray) (k : Nat) (w : World) : Prop where
  rd : RdAt w b g ws k
  lo : w0.heap.size ≤ b
  lt : g < w.heap.size
  below : Below w0.heap.size w0 w

theorem RdI.blt {w0 : World} {b g : Nat} {ws : List ByteArray} {k : Nat} {w : World} (h : RdI w0 b g ws k w) : b < w.heap.size := by
  obtain ⟨a, h1, _⟩ := h.rd.cell
  exact cell_lt h1

theorem RdI.later {w0 : World} {b g : Nat} {ws : List ByteArray} {k : Nat} {w w' : World} (h : RdI w0 b g ws k w) (hb : Below w.heap.size w w') : RdI w0 b g ws k w' :=
  ⟨h.rd.below h.lt hb, h.lo, Nat.lt_of_lt_of_le h.lt hb.size, h.below.trans (hb.mono h.below.size)⟩

theorem grown_set (w : World) (b i : Nat) (v : Value) : w.grownBy (w.setCell ⟨b, i, none⟩ v) (some b) := ⟨rfl, rfl, rfl, by rw [World.size_setCell]; exact Nat.le_refl _, fun k hk hne => Below.heap_setCell _ _ _ _ (fun e => hne (by rw [e]))⟩
theorem grown_of_below {w w' : World} (h : Below w.heap.size w w') (r : Option Nat) : w.grownBy w' r := ⟨h.os, h.tape, h.output, h.size, fun k hk _ => h.block k hk⟩
theorem grown_trans {a b c : World} {r : Option Nat} (h : a.grownBy b r) (k : b.grownBy c r) : a.grownBy c r := ⟨k.os.trans h.os, k.tape.trans h.tape, k.output.trans h.output, Nat.le_trans h.size k.size, fun j hj hn => (k.block j (Nat.lt_of_lt_of_le hj h.size) hn).trans (h.block j hj hn)⟩

/-- next, of a call that began at w0. -/
theorem next_call (w0 : World) (b g : Nat) (ws : List ByteArray) (k : Nat) (w : World) (h : RdI w0 b g ws k w) :
    Calls Tryz.prog 156 #[.pointer (some ⟨b, 0, none⟩)] w fun e w' =>
      (∃ s, ws[k]? = some s ∧ e = .returned (.string s) ∧ RdI w0 b g ws (k + 1) w' ∧ w.grownBy w' (some b)) ∨
      (ws[k]? = none ∧ e = .panicked [{ v := formlessV, recovered := false }] ∧ w' = w) := by
  refine (next_any b g ws k w h.rd).mono ?_
  rintro e w' (⟨s, h1, rfl, v, rfl, h2⟩ | ⟨h1, rfl, rfl⟩)
  · exact .inl ⟨s, h1, rfl, ⟨h2, h.lo, by rw [World.size_setCell]; exact h.lt, h.below.setCell (p := ⟨b, 0, none⟩) h.lo _⟩, grown_set _ _ _ _⟩
  · exact .inr ⟨h1, rfl, rfl⟩

set_option maxRecDepth 100000 in
set_option maxHeartbeats 4000000 in
theorem number_call (w0 : World) (b g : Nat) (ws : List ByteArray) (k : Nat) (w : World) (h : RdI w0 b g ws k w) (hz : ∀ s ∈ ws, s.size ≤ 100000) (hG : Gl w0) :
    Calls Tryz.prog 155 #[.pointer (some ⟨b, 0, none⟩)] w fun e w' =>
      (∃ v, numW ws[k]? = some v ∧ e = .returned (.int .i64 v) ∧ RdI w0 b g ws (k + 1) w' ∧ w.grownBy w' (some b)) ∨
      (numW ws[k]? = none ∧ e = .panicked [{ v := formlessV, recovered := false }] ∧ Below w0.heap.size w0 w') := by
  have HN := Lib.hid (next_call w0 b g ws k w h)
  have HW := Lib.hid h
  clear h
  go_enter Tryz.func155, Tryz.ntmps155
  go_wp2_with fail
  refine HN.out.mono ?_
  rintro e w1 (⟨s, h1, rfl, h2, h3⟩ | ⟨h1, rfl, rfl⟩)
  · have hss : s.size ≤ 100000 := hz s (List.mem_of_getElem? h1)
    have HA := Lib.hid (Atoi_any s w1 hss (hG.below h2.below))
    have H1 := Lib.hid h1
    have H2 := Lib.hid (And.intro h2 h3)
    clear h1 h2 h3 HN
    go_wp2_with fail
    refine HA.out.mono ?_
    rintro e w2 (⟨v, h4, rfl, h5⟩ | ⟨h4, ⟨v, t, p, rfl⟩, h5⟩)
    · have H4 := Lib.hid h4
      have H5 := Lib.hid h5
      clear h4 h5
      go_wp2_with fail
      go_ret
      exact .inl ⟨v, by rw [H1.out]; exact H4.out, rfl, H2.out.1.later H5.out, grown_trans H2.out.2 (grown_of_below H5.out _)⟩
    · have H4 := Lib.hid h4
      have H5 := Lib.hid h5
      clear h4 h5
      go_wp2_with fail
      exact ⟨rfl, .inr ⟨by rw [H1.out]; exact H4.out, rfl, H2.out.1.below.trans (H5.out.mono H2.out.1.below.size)⟩⟩
  · have H1 := Lib.hid h1
    clear h1 HN
    go_wp2_with fail
    exact ⟨rfl, .inr ⟨by rw [H1.out]; rfl, rfl, HW.out.below⟩⟩

end Go.Proofs.YtpffpofdceppiaaGreatDoor

set_option linter.unusedSimpArgs false
set_option linter.unusedVariables false
namespace Go.Proofs.YtpffpofdceppiaaGreatDoor
open Go.RowKit Go.Shelf

theorem withinR_any (n a b : Int) (w : World) :
    Calls Tryz.prog 136 #[.int .i64 n, .int .i64 a, .int .i64 b] w fun e w' => e = .returned (.bool (within n a b)) ∧ w = w' := by
  by_cases h1 : a ≤ n <;> by_cases h2 : n ≤ b
  all_goals
    go_enter Tryz.func136, Tryz.ntmps136
    go_wp2
    go_ret
    exact ⟨by simp [within, h1, h2] <;> omega, rfl⟩

def nameTo (s : ByteArray) (k : Nat) : Bool := within s.size 1 24 && (s.data.toList.take k).all okName && (decide (k = 0) || (match s.data.toList with | [] => false | c :: _ => decide (97 ≤ c.toNat)))
theorem nameTo_zero (s : ByteArray) : nameTo s 0 = within s.size 1 24 := by unfold nameTo; simp
theorem nameTo_succ (s : ByteArray) (k : Nat) (h : k < s.size) : nameTo s (k + 1) = (nameTo s k && (small s[k].toNat || (((s[k].toNat : Nat) : Int) == 45)) && (decide (0 < k) || decide (97 ≤ ((s[k].toNat : Nat) : Int)))) := by
  unfold nameTo
  rw [take_snoc s k h, List.all_append]
  have hz : (match s.data.toList with | [] => false | c :: _ => decide (97 ≤ c.toNat)) = decide (97 ≤ ((s[0].toNat : Nat) : Int)) := by
    rw [list_of_pos s (by omega)]
    rw [Bool.eq_iff_iff, decide_eq_true_iff, decide_eq_true_iff]
    omega
  rw [hz]
  have e : [s[k]].all okName = (small s[k].toNat || (((s[k].toNat : Nat) : Int) == 45)) := by simp [okName]
  rw [e]
  generalize (small s[k].toNat || (((s[k].toNat : Nat) : Int) == 45)) = p
  rcases Nat.eq_zero_or_pos k with rfl | hp
  · cases p <;> simp
  · have h1 : decide (0 < k) = true := decide_eq_true hp
    have h2 : decide (k = 0) = false := decide_eq_false (by omega)
    have h3 : decide (k + 1 = 0) = false := decide_eq_false (by omega)
    rw [h1, h2, h3]
    cases p <;> simp
theorem nameTo_all (s : ByteArray) : nameTo s s.size = isName s := by
  unfold nameTo isName
  rw [List.take_of_length_le (by simp)]
  rcases Nat.eq_zero_or_pos s.size with h0 | hp
  · have : within s.size 1 24 = false := by unfold within; rw [h0]; rfl
    rw [this]; rfl
  · have h2 : decide (s.size = 0) = false := decide_eq_false (by omega)
    rw [h2, list_of_pos s hp]
    simp only [Bool.false_or, List.all_cons]
    cases within s.size 1 24
    · rfl
    · cases h1 : okName s[0]
      · simp
      · cases List.all s.data.toList.tail okName
        · simp
        · simp only [okName, small, Bool.or_eq_true, Bool.and_eq_true, decide_eq_true_eq, beq_iff_eq] at h1
          rw [Bool.eq_iff_iff]
          simp
          omega

set_option maxHeartbeats 2000000 in
theorem NameR_any (s : ByteArray) (w : World) (hs : s.size ≤ maxLen) :
    Calls Tryz.prog 153 #[.string s] w fun e w' => e = .returned (.bool (isName s)) ∧ w = w' := by
  unfold maxLen at hs
  have HA := Lib.hid (nameTo_all s)
  have HZ := Lib.hid (nameTo_zero s)
  have hs1 : (0 : Int) ≤ (s.size : Int) := by omega
  by_cases w1 : 0 < (s.size : Int) <;> by_cases w2 : (s.size : Int) ≤ 24
  all_goals first | (exfalso; omega) | skip
  all_goals
    have HW : Hid (within s.size 1 24 = (decide (0 < (s.size : Int)) && decide ((s.size : Int) ≤ 24))) := by show _ = _; rfl
    go_enter Tryz.func153, Tryz.ntmps153
    go_wp2_with fail
    go_loop [3, 4] (fun v i => ∃ k : Nat, k ≤ s.size ∧ i = .int .i64 k ∧ v = .bool (nameTo s k)) (fun _ i => s.size - (intOf i).toNat)
    case atStart => exact ⟨0, Nat.zero_le _, rfl, by rw [HZ.out, HW.out]; first | (rw [decide_eq_true (show (s.size : Int) ≤ 24 by omega), decide_eq_true (show 0 < (s.size : Int) by omega)]; rfl) | (rw [decide_eq_true (show (s.size : Int) ≤ 24 by omega), decide_eq_false (show ¬ 0 < (s.size : Int) by omega)]; rfl) | (rw [decide_eq_false (show ¬ (s.size : Int) ≤ 24 by omega), decide_eq_true (show 0 < (s.size : Int) by omega)]; rfl)⟩
    case round =>
      obtain ⟨k, hk, rfl, rfl⟩ := hrel
      by_cases hlt : k < s.size
      · have HT := Lib.hid (nameTo_succ s k hlt)
        have hi1 : (k : Int) < (s.size : Int) := by omega
        generalize nameTo s k = m0 at *
        generalize hm1 : nameTo s (k + 1) = m1 at *
        have HM1 := Lib.hid hm1
        clear hm1 HA HZ HW
        cases m0 <;> cases h1 : small s[k].toNat <;> cases h2 : (((s[k].toNat : Nat) : Int) == 45)
        all_goals
          rw [h1, h2] at HT
          by_cases hp : 0 < k
          · have hp1 : (0 : Int) < (k : Int) := by omega
            rw [decide_eq_true hp] at HT
            go_wp2_with fail
            refine (letter_any _ _).mono ?_
            rintro e w' ⟨rfl, rfl⟩
            go_wp2_with fail
            go_round
            case measure => simp [intOf]; omega
            case rel => exact ⟨k + 1, by omega, by go_num, by rw [HM1.out, HT.out]; first | rfl | (rw [decide_eq_false (by omega)]; rfl)⟩
          · have hp1 : ¬ (0 : Int) < (k : Int) := by omega
            rw [decide_eq_false hp] at HT
            by_cases h9 : 97 ≤ ((s[k].toNat : Nat) : Int)
            all_goals
              first | rw [decide_eq_true h9] at HT | rw [decide_eq_false h9] at HT
              go_wp2_with fail
              refine (letter_any _ _).mono ?_
              rintro e w' ⟨rfl, rfl⟩
              go_wp2_with fail
              go_round
              case measure => simp [intOf]; omega
              case rel => exact ⟨k + 1, by omega, by go_num, by rw [HM1.out, HT.out]; first | rfl | (rw [decide_eq_false (by omega)]; rfl)⟩
      · obtain rfl : k = s.size := by omega
        go_wp2_with fail
        go_ret
        exact ⟨by rw [HA.out]; rfl, rfl⟩

end Go.Proofs.YtpffpofdceppiaaGreatDoor
