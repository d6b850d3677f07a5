/- A part of the proof that laganlaw01.CargoTexts answers true at every input and leaves its arguments as they were; the conditions are those of the given row and card, nothing else. -/
import Derived.Test.YtpffpofdceppiaaGreatDoorKA3
set_option linter.unusedSimpArgs false
set_option linter.unusedVariables false
namespace Go.Proofs.YtpffpofdceppiaaGreatDoor
open Go.RowKit Go.Shelf

def meetB (p : UInt8 × UInt8) : Bool := ((p.1.toNat : Int) == (p.2.toNat : Int)) || ((p.1.toNat : Int) == 63) || ((p.2.toNat : Int) == 63)
def zipped (a b : ByteArray) : List (UInt8 × UInt8) := a.data.toList.zip b.data.toList
/-- Whether two marks can be one. -/
def meetP (a b : ByteArray) : Bool := isMark a && isMark b && ((a.size : Int) == (b.size : Int)) && (zipped a b).all meetB

theorem zipped_len (a b : ByteArray) (h : a.size = b.size) : (zipped a b).length = a.size := by
  unfold zipped
  rw [List.length_zip]
  have h1 : a.data.toList.length = a.size := rfl
  have h2 : b.data.toList.length = b.size := rfl
  omega

theorem zipped_get (a b : ByteArray) (h : a.size = b.size) (k : Nat) (hk : k < a.size) (hk2 : k < b.size) : (zipped a b)[k]'(by rw [zipped_len a b h]; exact hk) = (a[k], b[k]) := by
  unfold zipped
  rw [List.getElem_zip]; rfl

theorem zip_snoc (a b : ByteArray) (h : a.size = b.size) (k : Nat) (hk : k < a.size) (hk2 : k < b.size) (H : ((zipped a b).take k).all meetB = true) : meetB (a[k], b[k]) = true → ((zipped a b).take (k + 1)).all meetB = true := by
  intro h1
  rw [List.take_succ_eq_append_getElem (by rw [zipped_len a b h]; exact hk), List.all_append, H, zipped_get a b h k hk hk2]
  simp [h1]

theorem zip_miss (a b : ByteArray) (h : a.size = b.size) (k : Nat) (hk : k < a.size) (hk2 : k < b.size) (h1 : meetB (a[k], b[k]) = false) : (zipped a b).all meetB = false := by
  rw [List.all_eq_false]
  refine ⟨(zipped a b)[k]'(by rw [zipped_len a b h]; exact hk), List.getElem_mem _, ?_⟩
  rw [zipped_get a b h k hk hk2, h1]; simp

theorem zip_done (a b : ByteArray) (h : a.size = b.size) (H : ((zipped a b).take a.size).all meetB = true) : (zipped a b).all meetB = true := by
  rw [← zipped_len a b h, List.take_length] at H; exact H

set_option maxRecDepth 100000 in
set_option maxHeartbeats 4000000 in
theorem Meet_any (a b : ByteArray) (w : World) (ha : a.size ≤ maxLen) (hb : b.size ≤ maxLen) :
    Calls Tryz.prog 19 #[.string a, .string b] w fun e w' => e = .returned (.bool (meetP a b)) ∧ Below w.heap.size w w' := by
  have h1 := fun W => isMark_any a W ha
  have h2 := fun W => isMark_any b W hb
  have HM : Hid (meetP a b = (isMark a && isMark b && ((a.size : Int) == (b.size : Int)) && (zipped a b).all meetB)) := by show _ = _; rfl
  unfold maxLen at ha hb
  generalize isMark a = p at *
  generalize isMark b = q at *
  generalize meetP a b = r at *
  have H1 := Lib.hid h1
  have H2 := Lib.hid h2
  clear h1 h2
  cases p
  · have HR : Hid (r = false) := by show _ = _; rw [HM.out]; rfl
    clear HM
    go_enter Tryz.func19, Tryz.ntmps19
    go_wp2_with fail
    refine (H1.out _).mono ?_
    rintro e w' ⟨rfl, rfl⟩
    go_wp2_with fail
    go_ret
    exact ⟨by rw [HR.out]; rfl, Below.refl _ _⟩
  cases q
  · have HR : Hid (r = false) := by show _ = _; rw [HM.out]; rfl
    clear HM
    go_enter Tryz.func19, Tryz.ntmps19
    go_wp2_with fail
    refine (H1.out _).mono ?_
    rintro e w' ⟨rfl, rfl⟩
    go_wp2_with fail
    refine (H2.out _).mono ?_
    rintro e w' ⟨rfl, rfl⟩
    go_wp2_with fail
    go_ret
    exact ⟨by rw [HR.out]; rfl, Below.refl _ _⟩
  by_cases hsz : a.size = b.size
  · have hne : ((a.size : Int) != (b.size : Int)) = false := by simp [hsz]
    have HR : Hid (r = (zipped a b).all meetB) := by show _ = _; rw [HM.out, hsz]; simp
    clear HM
    go_enter Tryz.func19, Tryz.ntmps19
    go_wp2_with fail
    refine (H1.out _).mono ?_
    rintro e w' ⟨rfl, rfl⟩
    go_wp2_with fail
    refine (H2.out _).mono ?_
    rintro e w' ⟨rfl, rfl⟩
    go_wp2_with fail
    go_loopw [23] (fun i wr => ∃ k : Nat, k ≤ a.size ∧ i = .int .i64 k ∧ Hid (((zipped a b).take k).all meetB = true) ∧ Below w.heap.size w wr) (fun i _ => a.size - (intOf i).toNat)
    case atStart => exact ⟨0, Nat.zero_le _, rfl, by show _ = _; simp, Below.refl _ _⟩
    case round =>
      obtain ⟨k, hk, rfl, hall, hbl⟩ := hrel
      by_cases hlt : k < a.size
      · have hlt2 : k < b.size := by omega
        have HS := Lib.hid (zip_snoc a b hsz k hlt hlt2 hall.out)
        have HF := Lib.hid (zip_miss a b hsz k hlt hlt2)
        clear hall
        have hi1 : (k : Int) < (a.size : Int) := by omega
        have hi2 : (k : Int) < (b.size : Int) := by omega
        have HB : Hid (meetB (a[k], b[k]) = ((((a[k].toNat : Nat) : Int) == ((b[k].toNat : Nat) : Int)) || (((a[k].toNat : Nat) : Int) == 63) || (((b[k].toNat : Nat) : Int) == 63))) := by show _ = _; rfl
        cases g1 : (((a[k].toNat : Nat) : Int) != ((b[k].toNat : Nat) : Int))
        · have HB2 : Hid (meetB (a[k], b[k]) = true) := by show _ = _; rw [HB.out]; have : (((a[k].toNat : Nat) : Int) == ((b[k].toNat : Nat) : Int)) = true := (by simpa using g1)
                                                           rw [this]; rfl
          have HS2 := Lib.hid (HS.out HB2.out)
          clear HS HF HB HB2
          go_wp2_with fail
          go_quiet (fail)
          go_wp2_with fail
          go_roundw
          case rel => exact ⟨k + 1, by omega, by go_num, HS2.out, by first | exact hbl | exact hbl.drew | exact below_drewN hbl _⟩
          case measure => simp [intOf]; omega
        · cases g2 : (((a[k].toNat : Nat) : Int) != 63)
          · have HB2 : Hid (meetB (a[k], b[k]) = true) := by show _ = _; rw [HB.out]; have : (((a[k].toNat : Nat) : Int) == 63) = true := (by simpa using g2)
                                                             rw [this]; simp
            have HS2 := Lib.hid (HS.out HB2.out)
            clear HS HF HB HB2
            go_wp2_with fail
            go_quiet (fail)
            go_wp2_with fail
            go_roundw
            case rel => exact ⟨k + 1, by omega, by go_num, HS2.out, by first | exact hbl | exact hbl.drew | exact below_drewN hbl _⟩
            case measure => simp [intOf]; omega
          · cases g3 : (((b[k].toNat : Nat) : Int) != 63)
            · have HB2 : Hid (meetB (a[k], b[k]) = true) := by show _ = _; rw [HB.out]; have : (((b[k].toNat : Nat) : Int) == 63) = true := (by simpa using g3)
                                                               rw [this]; simp
              have HS2 := Lib.hid (HS.out HB2.out)
              clear HS HF HB HB2
              go_wp2_with fail
              go_quiet (fail)
              go_wp2_with fail
              go_roundw
              case rel => exact ⟨k + 1, by omega, by go_num, HS2.out, by first | exact hbl | exact hbl.drew | exact below_drewN hbl _⟩
              case measure => simp [intOf]; omega
            · have HB2 : Hid (meetB (a[k], b[k]) = false) := by
                show _ = _; rw [HB.out]
                have e1 : (((a[k].toNat : Nat) : Int) == ((b[k].toNat : Nat) : Int)) = false := by rw [bne, Bool.not_eq_true'] at g1; exact g1
                have e2 : (((a[k].toNat : Nat) : Int) == 63) = false := by rw [bne, Bool.not_eq_true'] at g2; exact g2
                have e3 : (((b[k].toNat : Nat) : Int) == 63) = false := by rw [bne, Bool.not_eq_true'] at g3; exact g3
                rw [e1, e2, e3]; rfl
              have HF2 := Lib.hid (HF.out HB2.out)
              clear HS HF HB HB2
              go_wp2_with fail
              go_quiet (fail)
              go_wp2_with fail
              go_ret
              exact ⟨by rw [HR.out, HF2.out]; rfl, by first | exact hbl | exact hbl.drew | exact below_drewN hbl _⟩
      · obtain rfl : k = a.size := by omega
        have HZ := Lib.hid (zip_done a b hsz hall.out)
        go_wp2_with fail
        go_ret
        exact ⟨by rw [HR.out, HZ.out]; rfl, hbl⟩
  · have hne : ((a.size : Int) != (b.size : Int)) = true := by simp; omega
    have HR : Hid (r = false) := by show _ = _; rw [HM.out]; have : ((a.size : Int) == (b.size : Int)) = false := by simp; omega
                                    rw [this]; rfl
    clear HM
    go_enter Tryz.func19, Tryz.ntmps19
    go_wp2_with fail
    refine (H1.out _).mono ?_
    rintro e w' ⟨rfl, rfl⟩
    go_wp2_with fail
    refine (H2.out _).mono ?_
    rintro e w' ⟨rfl, rfl⟩
    go_wp2_with fail
    go_ret
    exact ⟨by rw [HR.out]; rfl, Below.refl _ _⟩

end Go.Proofs.YtpffpofdceppiaaGreatDoor
