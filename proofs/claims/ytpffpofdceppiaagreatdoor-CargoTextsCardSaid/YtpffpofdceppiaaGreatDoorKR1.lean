/- A part of the proof that laganlaw01.CargoTexts answers true at every input and leaves its arguments as they were; the conditions are those of the given row and card, nothing else. -/
import Derived.Test.YtpffpofdceppiaaGreatDoorKP2
set_option linter.unusedSimpArgs false
set_option linter.unusedVariables false
namespace Go.Proofs.YtpffpofdceppiaaGreatDoor
open Go.RowKit Go.Shelf

theorem letter_any (c : Int) (w : World) :
    Calls Tryz.prog 142 #[.int .u8 c] w fun e w' => e = .returned (.bool (small c)) ∧ w = w' := by
  by_cases h1 : 97 ≤ c <;> by_cases h2 : c ≤ 122 <;> by_cases h3 : 48 ≤ c <;> by_cases h4 : c ≤ 57
  all_goals first | (exfalso; omega) | skip
  all_goals
    go_enter Tryz.func142, Tryz.ntmps142
    go_wp2
    go_ret
    exact ⟨by simp [small, *] <;> omega, rfl⟩

def markTo (s : ByteArray) (k : Nat) : Bool := within s.size 1 12 && (s.data.toList.take k).all okMark
theorem markTo_zero (s : ByteArray) : markTo s 0 = within s.size 1 12 := by unfold markTo; simp
theorem markTo_all (s : ByteArray) : markTo s s.size = isMark s := by
  unfold markTo isMark
  rw [List.take_of_length_le (by simp)]
  exact Bool.and_comm _ _
theorem markTo_succ (s : ByteArray) (k : Nat) (h : k < s.size) : markTo s (k + 1) = (markTo s k && (small s[k].toNat || (((s[k].toNat : Nat) : Int) == 63))) := by
  unfold markTo
  rw [take_snoc s k h, List.all_append, Bool.and_assoc]
  simp [okMark]

set_option maxHeartbeats 1000000 in
theorem MarkR_any (s : ByteArray) (w : World) (hs : s.size ≤ maxLen) :
    Calls Tryz.prog 77 #[.string s] w fun e w' => e = .returned (.bool (isMark s)) ∧ w = w' := by
  unfold maxLen at hs
  have hw : (decide (0 < (s.size : Int)) && decide ((s.size : Int) ≤ 12)) = within s.size 1 12 := rfl
  have HA := Lib.hid (markTo_all s)
  have HZ := Lib.hid (markTo_zero s)
  have hs1 : (0 : Int) ≤ (s.size : Int) := by omega
  by_cases w1 : 0 < (s.size : Int) <;> by_cases w2 : (s.size : Int) ≤ 12
  all_goals first | (exfalso; omega) | skip
  all_goals
    have HW : Hid (within s.size 1 12 = (decide (0 < (s.size : Int)) && decide ((s.size : Int) ≤ 12))) := by show _ = _; rfl
    clear hw
    go_enter Tryz.func77, Tryz.ntmps77
    go_wp2_with fail
    go_loop [3, 4] (fun v i => ∃ k : Nat, k ≤ s.size ∧ i = .int .i64 k ∧ v = .bool (markTo s k)) (fun _ i => s.size - (intOf i).toNat)
    case atStart => exact ⟨0, Nat.zero_le _, rfl, by rw [HZ.out, HW.out]; first | (rw [decide_eq_true (show (s.size : Int) ≤ 12 by omega), decide_eq_true (show 0 < (s.size : Int) by omega)]; rfl) | (rw [decide_eq_true (show (s.size : Int) ≤ 12 by omega), decide_eq_false (show ¬ 0 < (s.size : Int) by omega)]; rfl) | (rw [decide_eq_false (show ¬ (s.size : Int) ≤ 12 by omega), decide_eq_true (show 0 < (s.size : Int) by omega)]; rfl)⟩
    case round =>
      obtain ⟨k, hk, rfl, rfl⟩ := hrel
      by_cases hlt : k < s.size
      · have HT := Lib.hid (markTo_succ s k hlt)
        have hi1 : (k : Int) < (s.size : Int) := by omega
        generalize markTo s k = m0 at *
        generalize hm1 : markTo s (k + 1) = m1 at *
        have HM1 := Lib.hid hm1
        clear hm1 HA HZ HW
        cases m0 <;> cases h1 : small s[k].toNat <;> cases h2 : (((s[k].toNat : Nat) : Int) == 63)
        all_goals
          rw [h1, h2] at HT
          go_wp2_with fail
          refine (letter_any _ _).mono ?_
          rintro e w' ⟨rfl, rfl⟩
          go_wp2_with fail
          go_round
          case measure => simp [intOf]; omega
          case rel => exact ⟨k + 1, by omega, by go_num, by rw [HM1.out, HT.out]; rfl⟩
      · obtain rfl : k = s.size := by omega
        go_wp2_with fail
        go_ret
        exact ⟨by rw [HA.out]; rfl, rfl⟩

set_option maxRecDepth 100000 in
set_option maxHeartbeats 4000000 in
theorem MeetR_any (a b : ByteArray) (w : World) (ha : a.size ≤ maxLen) (hb : b.size ≤ maxLen) :
    Calls Tryz.prog 20 #[.string a, .string b] w fun e w' => e = .returned (.bool (meetP a b)) ∧ Below w.heap.size w w' := by
  have h1 := fun W => MarkR_any a W ha
  have h2 := fun W => MarkR_any b W hb
  have HM : Hid (meetP a b = (isMark a && isMark b && ((a.size : Int) == (b.size : Int)) && (zipped a b).all meetB)) := by show _ = _; rfl
  unfold maxLen at ha hb
  generalize isMark a = p at *
  generalize isMark b = q at *
  generalize meetP a b = r at *
  have H1 := Lib.hid h1
  have H2 := Lib.hid h2
  clear h1 h2
  by_cases hpq : (p && q) = false
  · have HR : Hid (r = false) := by show _ = _; rw [HM.out, hpq]; rfl
    clear HM
    cases p <;> cases q
    case true.true => cases hpq
    all_goals
      go_enter Tryz.func20, Tryz.ntmps20
      go_wp2_with fail
      refine (H1.out _).mono ?_
      rintro e w' ⟨rfl, rfl⟩
      go_wp2_with fail
      refine (H2.out _).mono ?_
      rintro e w' ⟨rfl, rfl⟩
      go_wp2_with fail
      go_ret
      exact ⟨by rw [HR.out]; rfl, Below.refl _ _⟩
  have hp : p = true := by cases p <;> simp_all
  have hq : q = true := by cases q <;> simp_all
  subst hp hq
  by_cases hsz : a.size = b.size
  · have hne : ((a.size : Int) != (b.size : Int)) = false := by simp [hsz]
    have HR : Hid (r = (zipped a b).all meetB) := by show _ = _; rw [HM.out, hsz]; simp
    clear HM
    go_enter Tryz.func20, Tryz.ntmps20
    go_wp2_with fail
    refine (H1.out _).mono ?_
    rintro e w' ⟨rfl, rfl⟩
    go_wp2_with fail
    refine (H2.out _).mono ?_
    rintro e w' ⟨rfl, rfl⟩
    go_wp2_with fail
    go_loopw [7] (fun i wr => ∃ k : Nat, k ≤ a.size ∧ i = .int .i64 k ∧ Hid (((zipped a b).take k).all meetB = true) ∧ Below w.heap.size w wr) (fun i _ => a.size - (intOf i).toNat)
    case atStart => exact ⟨0, Nat.zero_le _, rfl, by show _ = _; simp, Below.refl _ _⟩
    case round =>
      obtain ⟨k, hk, rfl, hall, hbl⟩ := hrel
      by_cases hlt : k < a.size
      · have hlt2 : k < b.size := by omega
        have HS := Lib.hid (zip_snoc a b hsz k hlt hlt2 hall.out)
        have HF := Lib.hid (zip_miss a b hsz k hlt hlt2)
        clear hall
        have hi1 : (k : Int) < (a.size : Int) := by omega
        have hi2 : (k : Int) < (b.size : Int) := by omega
        have HB : Hid (meetB (a[k], b[k]) = ((((a[k].toNat : Nat) : Int) == ((b[k].toNat : Nat) : Int)) || (((a[k].toNat : Nat) : Int) == 63) || (((b[k].toNat : Nat) : Int) == 63))) := by show _ = _; rfl
        cases g1 : (((a[k].toNat : Nat) : Int) != ((b[k].toNat : Nat) : Int))
        · have HB2 : Hid (meetB (a[k], b[k]) = true) := by show _ = _; rw [HB.out]; have : (((a[k].toNat : Nat) : Int) == ((b[k].toNat : Nat) : Int)) = true := (by simpa using g1)
                                                           rw [this]; rfl
          have HS2 := Lib.hid (HS.out HB2.out)
          clear HS HF HB HB2
          go_wp2_with fail
          go_quiet (fail)
          go_wp2_with fail
          go_roundw
          case rel => exact ⟨k + 1, by omega, by go_num, HS2.out, by first | exact hbl | exact hbl.drew | exact below_drewN hbl _⟩
          case measure => simp [intOf]; omega
        · cases g2 : (((a[k].toNat : Nat) : Int) != 63)
          · have HB2 : Hid (meetB (a[k], b[k]) = true) := by show _ = _; rw [HB.out]; have : (((a[k].toNat : Nat) : Int) == 63) = true := (by simpa using g2)
                                                             rw [this]; simp
            have HS2 := Lib.hid (HS.out HB2.out)
            clear HS HF HB HB2
            go_wp2_with fail
            go_quiet (fail)
            go_wp2_with fail
            go_roundw
            case rel => exact ⟨k + 1, by omega, by go_num, HS2.out, by first | exact hbl | exact hbl.drew | exact below_drewN hbl _⟩
            case measure => simp [intOf]; omega
          · cases g3 : (((b[k].toNat : Nat) : Int) != 63)
            · have HB2 : Hid (meetB (a[k], b[k]) = true) := by show _ = _; rw [HB.out]; have : (((b[k].toNat : Nat) : Int) == 63) = true := (by simpa using g3)
                                                               rw [this]; simp
              have HS2 := Lib.hid (HS.out HB2.out)
              clear HS HF HB HB2
              go_wp2_with fail
              go_quiet (fail)
              go_wp2_with fail
              go_roundw
              case rel => exact ⟨k + 1, by omega, by go_num, HS2.out, by first | exact hbl | exact hbl.drew | exact below_drewN hbl _⟩
              case measure => simp [intOf]; omega
            · have HB2 : Hid (meetB (a[k], b[k]) = false) := by
                show _ = _; rw [HB.out]
                have e1 : (((a[k].toNat : Nat) : Int) == ((b[k].toNat : Nat) : Int)) = false := by rw [bne, Bool.not_eq_true'] at g1; exact g1
                have e2 : (((a[k].toNat : Nat) : Int) == 63) = false := by rw [bne, Bool.not_eq_true'] at g2; exact g2
                have e3 : (((b[k].toNat : Nat) : Int) == 63) = false := by rw [bne, Bool.not_eq_true'] at g3; exact g3
                rw [e1, e2, e3]; rfl
              have HF2 := Lib.hid (HF.out HB2.out)
              clear HS HF HB HB2
              go_wp2_with fail
              go_quiet (fail)
              go_wp2_with fail
              go_ret
              exact ⟨by rw [HR.out, HF2.out]; rfl, by first | exact hbl | exact hbl.drew | exact below_drewN hbl _⟩
      · obtain rfl : k = a.size := by omega
        have HZ := Lib.hid (zip_done a b hsz hall.out)
        go_wp2_with fail
        go_ret
        exact ⟨by rw [HR.out, HZ.out]; rfl, hbl⟩
  · have hne : ((a.size : Int) != (b.size : Int)) = true := by simp; omega
    have HR : Hid (r = false) := by show _ = _; rw [HM.out]; have : ((a.size : Int) == (b.size : Int)) = false := by simp; omega
                                    rw [this]; rfl
    clear HM
    go_enter Tryz.func20, Tryz.ntmps20
    go_wp2_with fail
    refine (H1.out _).mono ?_
    rintro e w' ⟨rfl, rfl⟩
    go_wp2_with fail
    refine (H2.out _).mono ?_
    rintro e w' ⟨rfl, rfl⟩
    go_wp2_with fail
    go_ret
    exact ⟨by rw [HR.out]; rfl, Below.refl _ _⟩

theorem count_succ (s : ByteArray) (k : Nat) (h : k < s.size) : Lib.countByte (s.data.toList.take (k + 1)) 63 = Lib.countByte (s.data.toList.take k) 63 + if (((s[k].toNat : Nat) : Int) == 63) then 1 else 0 := by
  unfold Lib.countByte
  rw [take_snoc s k h, List.count_append, List.count_singleton]
  congr 1
  have : (s[k] == 63) = (((s[k].toNat : Nat) : Int) == 63) := by
    rw [Bool.eq_iff_iff, beq_iff_eq, beq_iff_eq]
    constructor
    · intro e; rw [e]; rfl
    · intro e
      have : s[k].toNat = 63 := by omega
      exact UInt8.toNat_inj.1 (by rw [this]; rfl)
  rw [this]

set_option maxHeartbeats 1000000 in
theorem SignsR_any (m : ByteArray) (w : World) (hm : m.size ≤ maxLen) :
    Calls Tryz.prog 22 #[.string m] w fun e w' => e = .returned (.int .i64 (signsP m)) ∧ w = w' := by
  have H1 := Lib.hid (fun W => MarkR_any m W hm)
  have HS : Hid (signsP m = if isMark m then (m.size : Int) - (Lib.countByte m.data.toList 63 : Int) else 0) := by show _ = _; rfl
  unfold maxLen at hm
  generalize isMark m = q at *
  cases q
  · have HR : Hid (signsP m = 0) := by show _ = _; rw [HS.out]; rfl
    go_enter Tryz.func22, Tryz.ntmps22
    go_wp2_with fail
    refine (H1.out _).mono ?_
    rintro e w' ⟨rfl, rfl⟩
    go_wp2_with fail
    go_loop [4, 5] (fun v i => v = .int .i64 0 ∧ i = .int .i64 0) (fun _ i => 0)
    case atStart => exact ⟨rfl, rfl⟩
    case round =>
      obtain ⟨rfl, rfl⟩ := hrel
      by_cases h0 : (0 : Int) < (m.size : Int)
      all_goals
        go_wp2_with fail
        go_ret
        exact ⟨by rw [HR.out]; rfl, rfl⟩
  · have HR : Hid (signsP m = (m.size : Int) - (Lib.countByte (m.data.toList.take m.size) 63 : Int)) := by show _ = _; rw [HS.out, List.take_of_length_le (by simp)]; rfl
    go_enter Tryz.func22, Tryz.ntmps22
    go_wp2_with fail
    refine (H1.out _).mono ?_
    rintro e w' ⟨rfl, rfl⟩
    go_wp2_with fail
    go_loop [4, 5] (fun v i => ∃ k : Nat, k ≤ m.size ∧ i = .int .i64 k ∧ ∃ c : Nat, c = Lib.countByte (m.data.toList.take k) 63 ∧ c ≤ k ∧ v = .int .i64 ((k : Int) - c)) (fun _ i => m.size - (intOf i).toNat)
    case atStart => exact ⟨0, Nat.zero_le _, rfl, 0, rfl, Nat.le_refl _, rfl⟩
    case round =>
      obtain ⟨k, hk, rfl, c, hc, hck, rfl⟩ := hrel
      by_cases hlt : k < m.size
      · have HT := Lib.hid (count_succ m k hlt)
        have HC := Lib.hid hc
        clear hc
        have hi1 : (k : Int) < (m.size : Int) := by omega
        cases h2 : (((m[k].toNat : Nat) : Int) == 63)
        · have h3 : (((m[k].toNat : Nat) : Int) != 63) = true := by rw [bne, h2]; rfl
          rw [h2] at HT
          go_wp2_with fail
          go_round
          case measure => simp [intOf]; omega
          case rel => exact ⟨k + 1, by omega, by go_num, c, by rw [HT.out, ← HC.out]; rfl, by omega, by go_num⟩
        · have h3 : (((m[k].toNat : Nat) : Int) != 63) = false := by rw [bne, h2]; rfl
          rw [h2] at HT
          go_wp2_with fail
          go_round
          case measure => simp [intOf]; omega
          case rel => exact ⟨k + 1, by omega, by go_num, c + 1, by rw [HT.out, ← HC.out]; rfl, by omega, by go_num⟩
      · obtain rfl : k = m.size := by omega
        go_wp2_with fail
        go_ret
        exact ⟨by rw [HR.out, ← hc]; rfl, rfl⟩

end Go.Proofs.YtpffpofdceppiaaGreatDoor
