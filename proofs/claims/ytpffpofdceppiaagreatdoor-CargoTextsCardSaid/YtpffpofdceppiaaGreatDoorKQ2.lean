/- A part of the proof that laganlaw01.CargoTexts answers true at every input and leaves its arguments as they were; the conditions are those of the given row and card, nothing else. -/
import Derived.Test.YtpffpofdceppiaaGreatDoorKV8
import Derived.Test.YtpffpofdceppiaaGreatDoorKR1
import Derived.Test.YtpffpofdceppiaaGreatDoorTie
import Derived.Test.YtpffpofdceppiaaGreatDoorCards
import Derived.ProofKit
import Derived.OpenShut
import Derived.LaidMore
import Derived.Lay
import Derived.SevenTiedAt
import Derived.Stop.Joined
import Derived.Stop.LaidErr
import Derived.HandedShaped
import Derived.Shelf.Vars
set_option linter.unusedSimpArgs false
set_option linter.unusedVariables false
namespace Go.Proofs.YtpffpofdceppiaaGreatDoor
open Go.RowKit Go.Shelf

theorem meetB_comm (p : UInt8 × UInt8) : meetB (p.2, p.1) = meetB p := by
  obtain ⟨x, y⟩ := p
  unfold meetB
  simp only
  rw [Bool.or_assoc, Bool.or_assoc, Bool.or_comm (((y.toNat : Nat) : Int) == 63)]
  congr 1
  rw [Bool.eq_iff_iff, beq_iff_eq, beq_iff_eq]
  exact ⟨fun h => h.symm, fun h => h.symm⟩

theorem zip_comm_all (l r : List UInt8) : (l.zip r).all meetB = (r.zip l).all meetB := by
  induction l generalizing r with
  | nil => cases r <;> rfl
  | cons x l ih =>
    cases r with
    | nil => rfl
    | cons y r =>
      rw [List.zip_cons_cons, List.zip_cons_cons, List.all_cons, List.all_cons, ih r]
      congr 1
      exact meetB_comm (y, x)

theorem meetP_comm (a b : ByteArray) : meetP a b = meetP b a := by
  unfold meetP zipped
  rw [zip_comm_all, Bool.and_comm (isMark a)]
  congr 2
  rw [Bool.eq_iff_iff, beq_iff_eq, beq_iff_eq]
  exact ⟨fun h => h.symm, fun h => h.symm⟩

theorem zip_self_all (l : List UInt8) : (l.zip l).all meetB = true := by
  induction l with
  | nil => rfl
  | cons x l ih =>
    rw [List.zip_cons_cons, List.all_cons, ih]
    simp [meetB]

theorem meetP_self (a : ByteArray) : meetP a a = isMark a := by
  unfold meetP zipped
  rw [zip_self_all]
  simp

theorem meetP_marks {a b : ByteArray} (h : meetP a b = true) : isMark a = true ∧ isMark b = true ∧ a.size = b.size := by
  unfold meetP at h
  simp only [Bool.and_eq_true, beq_iff_eq] at h
  exact ⟨h.1.1.1, h.1.1.2, by omega⟩

theorem signsP_le (a : ByteArray) : 0 ≤ signsP a ∧ signsP a ≤ (a.size : Int) := by
  have := count_le a
  unfold signsP
  split <;> omega

theorem signsP_none {a : ByteArray} (h : isMark a = false) : signsP a = 0 := by unfold signsP; rw [h]; rfl

set_option maxRecDepth 100000 in
set_option maxHeartbeats 4000000 in
theorem CargoMarks_any (a b : ByteArray) (w : World) (hG : Gl w) (hla : a.size ≤ maxLen) (hlb : b.size ≤ maxLen) :
    Calls Tryz.prog 3 #[.string a, .string b] w fun e w' => e = .returned (.bool true) ∧ Below w.heap.size w w' := by
  unfold maxLen at hla hlb
  have HAl := Lib.hid (fun (W : World) (h : Below w.heap.size w W) => alive_any W (hG.below h))
  clear hG
  by_cases hbig : 100 < (a.size : Int) ∨ 100 < (b.size : Int)
  · by_cases h1 : 100 < (a.size : Int)
    · clear hbig
      go_enter Tryz.func3, Tryz.ntmps3
      go_wp2_with fail
      refine (HAl.out w (Below.refl _ _)).mono ?_
      rintro e w1 ⟨rfl, hb⟩
      go_wp2_with fail
      go_ret
      exact ⟨rfl, hb⟩
    · have h2 : 100 < (b.size : Int) := by omega
      clear hbig
      go_enter Tryz.func3, Tryz.ntmps3
      go_wp2_with fail
      refine (HAl.out w (Below.refl _ _)).mono ?_
      rintro e w1 ⟨rfl, hb⟩
      go_wp2_with fail
      go_ret
      exact ⟨rfl, hb⟩
  have h1 : ¬ 100 < (a.size : Int) := fun h => hbig (.inl h)
  have h2 : ¬ 100 < (b.size : Int) := fun h => hbig (.inr h)
  clear hbig
  have HM := Lib.hid (fun W => Meet_any a b W (by unfold maxLen; omega) (by unfold maxLen; omega))
  have HMR := Lib.hid (fun W => MeetR_any a b W (by unfold maxLen; omega) (by unfold maxLen; omega))
  have HMB := Lib.hid (fun W => Meet_any b a W (by unfold maxLen; omega) (by unfold maxLen; omega))
  have HMA := Lib.hid (fun W => Meet_any a a W (by unfold maxLen; omega) (by unfold maxLen; omega))
  have HSA := Lib.hid (fun W => Signs_any a W (by unfold maxLen; omega))
  have HSB := Lib.hid (fun W => Signs_any b W (by unfold maxLen; omega))
  have HSR := Lib.hid (fun W => SignsR_any a W (by unfold maxLen; omega))
  rw [meetP_comm b a] at HMB
  rw [meetP_self a] at HMA
  have hma := fun h => meetP_marks (a := a) (b := b) h
  have hsa := signsP_le a
  have hsb := signsP_le b
  have hsn := fun h => signsP_none (a := a) h
  generalize signsP a = sa at *
  generalize signsP b = sb at *
  generalize meetP a b = r at *
  generalize isMark a = p at *
  cases r
  · have hsl : sa ≤ (a.size : Int) := hsa.2
    by_cases hz : sa = 0
    · subst hz
      go_enter Tryz.func3, Tryz.ntmps3
      have hc0 : Below w.heap.size w w := Below.refl _ _
      go_wp2_with fail
      refine (HM.out _).mono ?_
      rintro e w1 ⟨rfl, hb1⟩
      have hc1 : Below w.heap.size w w1 := hc0.trans (hb1.mono hc0.size)
      clear hb1 hc0
      go_wp2_with fail
      refine (HMR.out _).mono ?_
      rintro e w2 ⟨rfl, hb2⟩
      have hc2 : Below w.heap.size w w2 := hc1.trans (hb2.mono hc1.size)
      clear hb2 hc1
      go_wp2_with fail
      refine (HSA.out _).mono ?_
      rintro e w' ⟨rfl, rfl⟩
      go_wp2_with fail
      refine (HSR.out _).mono ?_
      rintro e w' ⟨rfl, rfl⟩
      go_wp2_with fail
      refine (HMB.out _).mono ?_
      rintro e w3 ⟨rfl, hb3⟩
      have hc3 : Below w.heap.size w w3 := hc2.trans (hb3.mono hc2.size)
      clear hb3 hc2
      go_wp2_with fail
      refine (HAl.out w3 hc3).mono ?_
      rintro e w4 ⟨rfl, hb4⟩
      have hc4 : Below w.heap.size w w4 := hc3.trans (hb4.mono hc3.size)
      clear hb4 hc3
      go_wp2_with fail
      refine (HSA.out _).mono ?_
      rintro e w' ⟨rfl, rfl⟩
      go_wp2_with fail
      refine (HSA.out _).mono ?_
      rintro e w' ⟨rfl, rfl⟩
      go_wp2_with fail
      go_ret
      exact ⟨rfl, hc4⟩
    · have hp : p = true := by cases p; exact absurd (hsn rfl) hz; rfl
      subst hp
      go_enter Tryz.func3, Tryz.ntmps3
      have hc0 : Below w.heap.size w w := Below.refl _ _
      go_wp2_with fail
      refine (HM.out _).mono ?_
      rintro e w1 ⟨rfl, hb1⟩
      have hc1 : Below w.heap.size w w1 := hc0.trans (hb1.mono hc0.size)
      clear hb1 hc0
      go_wp2_with fail
      refine (HMR.out _).mono ?_
      rintro e w2 ⟨rfl, hb2⟩
      have hc2 : Below w.heap.size w w2 := hc1.trans (hb2.mono hc1.size)
      clear hb2 hc1
      go_wp2_with fail
      refine (HSA.out _).mono ?_
      rintro e w' ⟨rfl, rfl⟩
      go_wp2_with fail
      refine (HSR.out _).mono ?_
      rintro e w' ⟨rfl, rfl⟩
      go_wp2_with fail
      refine (HMB.out _).mono ?_
      rintro e w3 ⟨rfl, hb3⟩
      have hc3 : Below w.heap.size w w3 := hc2.trans (hb3.mono hc2.size)
      clear hb3 hc2
      go_wp2_with fail
      refine (HAl.out w3 hc3).mono ?_
      rintro e w4 ⟨rfl, hb4⟩
      have hc4 : Below w.heap.size w w4 := hc3.trans (hb4.mono hc3.size)
      clear hb4 hc3
      go_wp2_with fail
      refine (HSA.out _).mono ?_
      rintro e w' ⟨rfl, rfl⟩
      go_wp2_with fail
      refine (HSA.out _).mono ?_
      rintro e w' ⟨rfl, rfl⟩
      go_wp2_with fail
      refine (HMA.out _).mono ?_
      rintro e w5 ⟨rfl, hb5⟩
      have hc5 : Below w.heap.size w w5 := hc4.trans (hb5.mono hc4.size)
      clear hb5 hc4
      go_wp2_with fail
      go_ret
      exact ⟨rfl, hc5⟩
  · obtain ⟨rfl, -, hab⟩ := hma rfl
    have hsl : sa ≤ (a.size : Int) := hsa.2
    by_cases he : sa = (a.size : Int)
    · have hle : ¬ sa < sb := by omega
      by_cases hz : sa = 0
      · have hz0 : (a.size : Int) = 0 := by omega
        subst hz
        have he0 : ((0 : Int) == (a.size : Int)) = true := by rw [hz0]; rfl
        go_enter Tryz.func3, Tryz.ntmps3
        have hc0 : Below w.heap.size w w := Below.refl _ _
        go_wp2_with fail
        refine (HM.out _).mono ?_
        rintro e w1 ⟨rfl, hb1⟩
        have hc1 : Below w.heap.size w w1 := hc0.trans (hb1.mono hc0.size)
        clear hb1 hc0
        go_wp2_with fail
        refine (HMR.out _).mono ?_
        rintro e w2 ⟨rfl, hb2⟩
        have hc2 : Below w.heap.size w w2 := hc1.trans (hb2.mono hc1.size)
        clear hb2 hc1
        go_wp2_with fail
        refine (HSA.out _).mono ?_
        rintro e w' ⟨rfl, rfl⟩
        go_wp2_with fail
        refine (HSR.out _).mono ?_
        rintro e w' ⟨rfl, rfl⟩
        go_wp2_with fail
        refine (HMB.out _).mono ?_
        rintro e w3 ⟨rfl, hb3⟩
        have hc3 : Below w.heap.size w w3 := hc2.trans (hb3.mono hc2.size)
        clear hb3 hc2
        go_wp2_with fail
        refine (HMA.out _).mono ?_
        rintro e w4 ⟨rfl, hb4⟩
        have hc4 : Below w.heap.size w w4 := hc3.trans (hb4.mono hc3.size)
        clear hb4 hc3
        go_wp2_with fail
        refine (HSA.out _).mono ?_
        rintro e w' ⟨rfl, rfl⟩
        go_wp2_with fail
        refine (HSB.out _).mono ?_
        rintro e w' ⟨rfl, rfl⟩
        go_wp2_with fail
        refine (HSA.out _).mono ?_
        rintro e w' ⟨rfl, rfl⟩
        go_wp2_with fail
        refine (HAl.out w4 hc4).mono ?_
        rintro e w5 ⟨rfl, hb5⟩
        have hc5 : Below w.heap.size w w5 := hc4.trans (hb5.mono hc4.size)
        clear hb5 hc4
        go_wp2_with fail
        refine (HSA.out _).mono ?_
        rintro e w' ⟨rfl, rfl⟩
        go_wp2_with fail
        refine (HSA.out _).mono ?_
        rintro e w' ⟨rfl, rfl⟩
        go_wp2_with fail
        go_ret
        exact ⟨rfl, hc5⟩
      · have hz1 : ¬ a = ByteArray.empty := fun h => hz (by rw [he, h]; rfl)
        have hz2 : ¬ b = ByteArray.empty := fun h => hz (by rw [he, hab, h]; rfl)
        subst he
        go_enter Tryz.func3, Tryz.ntmps3
        have hc0 : Below w.heap.size w w := Below.refl _ _
        go_wp2_with fail
        refine (HM.out _).mono ?_
        rintro e w1 ⟨rfl, hb1⟩
        have hc1 : Below w.heap.size w w1 := hc0.trans (hb1.mono hc0.size)
        clear hb1 hc0
        go_wp2_with fail
        refine (HMR.out _).mono ?_
        rintro e w2 ⟨rfl, hb2⟩
        have hc2 : Below w.heap.size w w2 := hc1.trans (hb2.mono hc1.size)
        clear hb2 hc1
        go_wp2_with fail
        refine (HSA.out _).mono ?_
        rintro e w' ⟨rfl, rfl⟩
        go_wp2_with fail
        refine (HSR.out _).mono ?_
        rintro e w' ⟨rfl, rfl⟩
        go_wp2_with fail
        refine (HMB.out _).mono ?_
        rintro e w3 ⟨rfl, hb3⟩
        have hc3 : Below w.heap.size w w3 := hc2.trans (hb3.mono hc2.size)
        clear hb3 hc2
        go_wp2_with fail
        refine (HMA.out _).mono ?_
        rintro e w4 ⟨rfl, hb4⟩
        have hc4 : Below w.heap.size w w4 := hc3.trans (hb4.mono hc3.size)
        clear hb4 hc3
        go_wp2_with fail
        refine (HSA.out _).mono ?_
        rintro e w' ⟨rfl, rfl⟩
        go_wp2_with fail
        refine (HSB.out _).mono ?_
        rintro e w' ⟨rfl, rfl⟩
        go_wp2_with fail
        refine (HSA.out _).mono ?_
        rintro e w' ⟨rfl, rfl⟩
        go_wp2_with fail
        refine (HAl.out w4 hc4).mono ?_
        rintro e w5 ⟨rfl, hb5⟩
        have hc5 : Below w.heap.size w w5 := hc4.trans (hb5.mono hc4.size)
        clear hb5 hc4
        go_wp2_with fail
        refine (HSA.out _).mono ?_
        rintro e w' ⟨rfl, rfl⟩
        go_wp2_with fail
        refine (HSA.out _).mono ?_
        rintro e w' ⟨rfl, rfl⟩
        go_wp2_with fail
        refine (HMA.out _).mono ?_
        rintro e w6 ⟨rfl, hb6⟩
        have hc6 : Below w.heap.size w w6 := hc5.trans (hb6.mono hc5.size)
        clear hb6 hc5
        go_wp2_with fail
        go_ret
        exact ⟨rfl, hc6⟩
    · by_cases hz : sa = 0
      · subst hz
        go_enter Tryz.func3, Tryz.ntmps3
        have hc0 : Below w.heap.size w w := Below.refl _ _
        go_wp2_with fail
        refine (HM.out _).mono ?_
        rintro e w1 ⟨rfl, hb1⟩
        have hc1 : Below w.heap.size w w1 := hc0.trans (hb1.mono hc0.size)
        clear hb1 hc0
        go_wp2_with fail
        refine (HMR.out _).mono ?_
        rintro e w2 ⟨rfl, hb2⟩
        have hc2 : Below w.heap.size w w2 := hc1.trans (hb2.mono hc1.size)
        clear hb2 hc1
        go_wp2_with fail
        refine (HSA.out _).mono ?_
        rintro e w' ⟨rfl, rfl⟩
        go_wp2_with fail
        refine (HSR.out _).mono ?_
        rintro e w' ⟨rfl, rfl⟩
        go_wp2_with fail
        refine (HMB.out _).mono ?_
        rintro e w3 ⟨rfl, hb3⟩
        have hc3 : Below w.heap.size w w3 := hc2.trans (hb3.mono hc2.size)
        clear hb3 hc2
        go_wp2_with fail
        refine (HMA.out _).mono ?_
        rintro e w4 ⟨rfl, hb4⟩
        have hc4 : Below w.heap.size w w4 := hc3.trans (hb4.mono hc3.size)
        clear hb4 hc3
        go_wp2_with fail
        refine (HSA.out _).mono ?_
        rintro e w' ⟨rfl, rfl⟩
        go_wp2_with fail
        refine (HAl.out w4 hc4).mono ?_
        rintro e w5 ⟨rfl, hb5⟩
        have hc5 : Below w.heap.size w w5 := hc4.trans (hb5.mono hc4.size)
        clear hb5 hc4
        go_wp2_with fail
        refine (HSA.out _).mono ?_
        rintro e w' ⟨rfl, rfl⟩
        go_wp2_with fail
        refine (HSA.out _).mono ?_
        rintro e w' ⟨rfl, rfl⟩
        go_wp2_with fail
        go_ret
        exact ⟨rfl, hc5⟩
      · go_enter Tryz.func3, Tryz.ntmps3
        have hc0 : Below w.heap.size w w := Below.refl _ _
        go_wp2_with fail
        refine (HM.out _).mono ?_
        rintro e w1 ⟨rfl, hb1⟩
        have hc1 : Below w.heap.size w w1 := hc0.trans (hb1.mono hc0.size)
        clear hb1 hc0
        go_wp2_with fail
        refine (HMR.out _).mono ?_
        rintro e w2 ⟨rfl, hb2⟩
        have hc2 : Below w.heap.size w w2 := hc1.trans (hb2.mono hc1.size)
        clear hb2 hc1
        go_wp2_with fail
        refine (HSA.out _).mono ?_
        rintro e w' ⟨rfl, rfl⟩
        go_wp2_with fail
        refine (HSR.out _).mono ?_
        rintro e w' ⟨rfl, rfl⟩
        go_wp2_with fail
        refine (HMB.out _).mono ?_
        rintro e w3 ⟨rfl, hb3⟩
        have hc3 : Below w.heap.size w w3 := hc2.trans (hb3.mono hc2.size)
        clear hb3 hc2
        go_wp2_with fail
        refine (HMA.out _).mono ?_
        rintro e w4 ⟨rfl, hb4⟩
        have hc4 : Below w.heap.size w w4 := hc3.trans (hb4.mono hc3.size)
        clear hb4 hc3
        go_wp2_with fail
        refine (HSA.out _).mono ?_
        rintro e w' ⟨rfl, rfl⟩
        go_wp2_with fail
        refine (HAl.out w4 hc4).mono ?_
        rintro e w5 ⟨rfl, hb5⟩
        have hc5 : Below w.heap.size w w5 := hc4.trans (hb5.mono hc4.size)
        clear hb5 hc4
        go_wp2_with fail
        refine (HSA.out _).mono ?_
        rintro e w' ⟨rfl, rfl⟩
        go_wp2_with fail
        refine (HSA.out _).mono ?_
        rintro e w' ⟨rfl, rfl⟩
        go_wp2_with fail
        refine (HMA.out _).mono ?_
        rintro e w6 ⟨rfl, hb6⟩
        have hc6 : Below w.heap.size w w6 := hc5.trans (hb6.mono hc5.size)
        clear hb6 hc5
        go_wp2_with fail
        go_ret
        exact ⟨rfl, hc6⟩

end Go.Proofs.YtpffpofdceppiaaGreatDoor

set_option linter.unusedSimpArgs false
set_option linter.unusedVariables false
namespace Go
variable {H : Type} {enc : TypeId × Value → H}

/-- The plain wrap with variables that are listed, the world's shape kept. -/
theorem YtpffpofdceppiaaGreatDoor_wrap {a : Assume} {C : Checked} {os : Os} {f : FuncId} {fn : Func} {s : ChangeSpec} {conds : List PathCond} {apart fresh handsOn again : Bool} {X : World → Array Value → Prop}
    (hX : ∀ (w w' : World) (args : Array Value), w.heap = w'.heap → X w args → X w' args)
    (own : ownKnob C.prog.godebug = none) (started : os.Started) (noInit : C.prog.inits.idxOf? f = none) (hfn : C.prog.funcs[f]? = some fn)
    (witness : ∃ (w : World) (tape : Tape) (i : Input), w.os = os ∧ (w.forCall tape i).Shaped C.prog ∧ i.vars = [] ∧ Input.okWide C.prog (w.forCall tape i) .any w.heap.size f i ∧
      ((s.pre enc C.prog fn conds apart (w.forCall tape i).memory i.args ∧ X (w.forCall tape i).memory i.args) ∧ sizedMet enc C.prog fn (OpenSpec.ofChange s) apart (w.forCall tape i).memory i.args) ∧ a.holds C.prog (lone (Frame.enter C.prog f i.args .normal) [] (w.forCall tape i)))
    (contract : ∀ (W : World) (base : Nat) (args : Array Value) (ds gs : List (DataW H)) (before : List MemPlace),
      (∀ (j : Nat) t v, fn.params[j]? = some t → args[j]? = some v → Value.okWide C.prog W .any base t v) →
      DataW.Whole enc C.prog fn.params.toList s.vars apart W args.toList ds gs before →
      conds.all (PathCond.test C.prog ⟨fn.params.toList, ds, s.plain.varTypes C.prog, gs⟩) = true →
      (DataW.weightsEach C.prog (fn.params.toList ++ s.plain.varTypes C.prog) (ds ++ gs)).all (· ≤ reachBytes) = true → X W args →
      W.ShapedOpen C.prog →
      a.holds C.prog (lone (Frame.enter C.prog f args .normal) [] W) →
      Calls C.prog f args W fun e W' => ∃ v, e = .returned v ∧ s.post enc C.prog fn apart fresh handsOn again W args v W') :
    ReturnsInHanded a C os f .any (fun w args => (s.pre enc C.prog fn conds apart w args ∧ X w args) ∧ sizedMet enc C.prog fn (OpenSpec.ofChange s) apart w args) (s.post enc C.prog fn apart fresh handsOn again) := by
  refine returnsInHanded_of_calls own started noInit witness ?_
  intro w tape i _ hsh _ hok hpre hholds
  obtain ⟨_, _, _, fn', hfn', _, _, _, _, hval⟩ := hok
  have e : fn' = fn := Option.some.inj (hfn'.symm.trans hfn)
  subst e
  obtain ⟨⟨⟨ds, gs, before, hw, hc⟩, hx⟩, hz⟩ := hpre
  have hw' := DataW.Whole.of_heap (w' := w.forCall tape i) (by rfl) hw
  refine (contract (w.forCall tape i) w.heap.size i.args ds gs before hval hw' hc (hz.weights hw) (hX _ _ _ (by rfl) hx) hsh hholds).mono fun e W' ⟨v, he, hp⟩ => ?_
  subst he
  exact ChangeSpec.post_blind hp
end Go

namespace Go.Proofs.YtpffpofdceppiaaGreatDoor
open Go.RowKit Go.Shelf Go.ChangeShapes Go.WideShapes Go.ChangeAt Go.ChangeMaps

def LD : List (String × DataW Unit) := [("math/bits.deBruijn32tab", Rows.laid_math_bits_deBruijn32tab), ("math/bits.deBruijn64tab", Rows.laid_math_bits_deBruijn64tab), ("internal/strconv.uint64pow10", Rows.laid_internal_strconv_uint64pow10), ("unicode/utf8.acceptRanges", Rows.laid_unicode_utf8_acceptRanges), ("strconv.ErrRange", Rows.laid_strconv_ErrRange), ("strconv.ErrSyntax", Rows.laid_strconv_ErrSyntax), ("unicode/utf8.first", Rows.laid_unicode_utf8_first)]

theorem own : ownKnob Tryz.prog.godebug = none := by kernel_rfl
theorem laidOut : laidOutB Tryz.prog = true := by kernel_rfl

theorem iface_of_laid {n nm : String} {d : DataW Unit} {r : List (String × DataW Unit)} {W : World} {g : Nat} {ti : TypeId} {ms : Array (String × TypeId)}
    (h : laidMet Tryz.prog ((n, .iface nm d) :: r) W) (hg : Tryz.prog.globalNamed n = some g) (ht : (Tryz.prog.globals[g]?).map (·.type) = some ti) (hi : Tryz.prog.underlying ti = some (.interface ms)) :
    ∃ tp p, W.var? Tryz.prog n = some #[.iface tp p] := by
  obtain ⟨ps, ⟨g0, t0, cs0, f0, p0, q0, hg0, ht0, hv0, hd0, _, e0⟩, _, hrows⟩ := h
  obtain rfl := Option.some.inj (hg.symm.trans hg0)
  obtain rfl := Option.some.inj (ht.symm.trans ht0)
  obtain ⟨fu, u, v, hcs, _⟩ := iface_of_trod hi hd0
  obtain ⟨l0⟩ := cs0
  have hcs' : l0 = [.iface u v] := hcs
  subst hcs'
  exact ⟨u, v, hv0⟩

theorem gl_of_laid {W : World} (h : laidMetH Tryz.prog LD W) (hs : W.ShapedOpen Tryz.prog) : Gl W := by
  rw [MakeChecks.laidMetH_plain _ _ _ (by kernel_rfl)] at h
  refine ⟨?_, ?_, ?_, ?_⟩
  · exact Lib.tabIs_of_head (g := 1) (t := 215) (e := 198) (n := 20) (by kernel_rfl) (by kernel_rfl) Tryz.underlying215 Tryz.underlying198 (by kernel_rfl) (by kernel_rfl) h.tail.tail
  · exact cell_of_shapedOpen_int (P := Tryz.prog) (g := 0) (t := 3) (zero := #[.int .i64 0]) hs (of_decide_eq_true (by kernel_rfl)) (by kernel_rfl) rfl (by kernel_rfl) (by kernel_rfl) Tryz.underlying3
  · exact iface_of_laid (g := 2) (ti := 158) h.tail.tail.tail.tail.tail (by kernel_rfl) (by kernel_rfl) Tryz.underlying158
  · exact iface_of_laid (g := 3) (ti := 158) h.tail.tail.tail.tail (by kernel_rfl) (by kernel_rfl) Tryz.underlying158

set_option maxRecDepth 100000 in
theorem door_shaped (os : Os) (args : Array Value) : ((World.laidAll Tryz.prog os LD).forCall (fun _ _ => 0) ⟨#[], args, []⟩).Shaped Tryz.prog :=
  World.shaped_of_ZipB (by kernel_rfl) (by kernel_rfl)
theorem door_met (os : Os) (args : Array Value) : laidMetH Tryz.prog LD ((World.laidAll Tryz.prog os LD).forCall (fun _ _ => 0) ⟨#[], args, []⟩).memory := by
  rw [MakeChecks.laidMetH_plain _ _ _ (by kernel_rfl)]; exact laidMet_laidAll _ (by kernel_rfl) (by kernel_rfl)

set_option maxRecDepth 100000 in
theorem marks_lifted (os : Os) (started : os.Started) (H : Type) (enc : TypeId × Value → H) :
    ReturnsInHanded {} Tryz.checked os 3 .any (fun w args => (Rows.cargoMarksSpec.pre enc Tryz.prog Tryz.f3 Rows.cargoMarksRow.domain false w args ∧ laidMetH Tryz.prog LD w) ∧ sizedMet enc Tryz.prog Tryz.f3 (OpenSpec.ofChange Rows.cargoMarksSpec) false w args)
      (Rows.cargoMarksSpec.post enc Tryz.prog Tryz.f3 false true false false) := by
  refine YtpffpofdceppiaaGreatDoor_wrap (C := Tryz.checked) (X := fun w _ => laidMetH Tryz.prog LD w) (fun _ _ _ hh h => h.of_heap hh) own started (by kernel_rfl) Tryz.func3
    (ChangeSpec.witness_shaped (enc := enc) (C := Tryz.checked) (os := os) (X := fun w _ => laidMetH Tryz.prog LD w) false (World.laidAll Tryz.prog os LD) #[.string ⟨#[]⟩, .string ⟨#[]⟩] 8 (World.laidAll_os _ _ _)
      (door_shaped os _) (by kernel_rfl) (by kernel_rfl) (by kernel_rfl) (door_met os _)) ?_
  intro W base args ds gs before hval0 hW hc _ hL hsh _
  have hval : ∀ (j : Nat) t v, Tryz.f3.params[j]? = some t → args[j]? = some v → Value.okWide Tryz.prog W .any base t v := hval0
  have hW' := hW
  obtain ⟨p, q, hA0, hV, rfl, _, _⟩ := hW
  have hA : DataW.TrodAll enc Tryz.prog W 0 (fun _ => true) true Tryz.f3.params.toList args.toList ds p := hA0
  rw [Tryz.params3] at hA hval
  obtain ⟨v0, v1, d0, d1, p0, p1, rfl, rfl, rfl, h0, h1⟩ := trodAll_two hA
  obtain ⟨rfl, rfl⟩ := trodVars_none hV
  obtain ⟨s, rfl, rfl, rfl, ws⟩ := open_string Tryz.underlying9 (hval 0 9 v0 rfl rfl) h0
  obtain ⟨t, rfl, rfl, rfl, wt⟩ := open_string Tryz.underlying9 (hval 1 9 v1 rfl rfl) h1
  refine (CargoMarks_any s t W (gl_of_laid hL hsh) ws wt).mono fun e W' ⟨he, hb⟩ => ?_
  subst he
  refine ⟨_, rfl, _, _, _, [], [], [], hW', ?_, ?_, ?_, hb.frame _, fun h => by cases h⟩
  · exact trodAll_mk1 (shut_bool Tryz.underlying4 true)
  · exact trodAll_mk2 (shut_string Tryz.underlying9 ws) (shut_string Tryz.underlying9 wt)
  · rfl

end Go.Proofs.YtpffpofdceppiaaGreatDoor
