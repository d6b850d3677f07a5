/- A part of the proof that laganlaw01.CargoTexts answers true at every input and leaves its arguments as they were; the conditions are those of the given row and card, nothing else. -/
import Derived.Test.YtpffpofdceppiaaGreatDoorKA1
import Derived.StillTailTactics
import Derived.Shelf.Abstract
import Derived.Laws.Cells
namespace Go.Proofs.YtpffpofdceppiaaGreatDoor
open Go.RowKit

def formed1 (x : Paper) : Bool := (within x.loss 1 20 && within x.pack 1 200 && within x.inn 0 200 && (x.inn != x.pack)) && isMark x.mark && isName x.goods && span x.lo x.hi 1 100000 && within x.pieces 1 20 && within x.owner 1 40
def formed2 (x : Paper) : Bool := within x.loss 1 20 && within x.pack 0 200 && within x.count 0 40 && span x.lo x.hi 0 10000000
def rest1 (x : Paper) : Paper := { Paper.zero with count := x.count, of := x.of }
def rest2 (x : Paper) : Paper := { Paper.zero with inn := x.inn, mark := x.mark, goods := x.goods, pieces := x.pieces, owner := x.owner, of := x.of }
def rest3 (x : Paper) : Paper := { x with id := 0, known := 0, kind := 0, of := 0 }
def formed (x : Paper) : Bool :=
  within x.id 1 1000000 && within x.known 0 1000000 &&
    (if x.kind = 1 then formed1 x && decide (rest1 x = Paper.zero)
     else if x.kind = 2 then formed2 x && decide (rest2 x = Paper.zero)
     else if x.kind = 3 then within x.of 1 1000000 && decide (rest3 x = Paper.zero)
     else false)

def F79 (x : Paper) (e : Ending) (w w' : World) : Prop := e = .returned (.bool (formed x)) ∧ Below w.heap.size w w'

set_option maxHeartbeats 1000000 in
theorem formed_bad (x : Paper) (w : World) (h : (within x.id 1 1000000 && within x.known 0 1000000) = false) :
    Calls Tryz.prog 79 #[.agg x.vals.toArray] w fun e w' => e = .returned (.bool (formed x)) ∧ Below w.heap.size w w' := by
  have HF : Hid (formed x = false) := by show _ = _; rw [formed, h]; rfl
  obtain ⟨id, known, kind, loss, pack, inn, mark, goods, lo, hi, pieces, owner, count, of⟩ := x
  show Calls Tryz.prog 79 #[.agg #[.int .i64 id, .int .i64 known, .int .u8 kind, .int .i64 loss, .int .i64 pack, .int .i64 inn, .string mark, .string goods, .int .i64 lo, .int .i64 hi, .int .i64 pieces, .int .i64 owner, .int .i64 count, .int .i64 of]] w _
  simp only at h
  cases h1 : within id 1 1000000
  · clear h
    go_enter Tryz.func79, Tryz.ntmps79
    go_wp2_with (go_at_call 138; refine (within_any _ _ _ _).mono ?_; rintro e w' ⟨rfl, rfl⟩)
    go_ret
    exact ⟨by rw [HF.out]; rfl, (Below.refl _ _).alloc (Nat.le_refl _) _⟩
  · cases h2 : within known 0 1000000
    · clear h
      go_enter Tryz.func79, Tryz.ntmps79
      go_wp2_with (go_at_call 138; refine (within_any _ _ _ _).mono ?_; rintro e w' ⟨rfl, rfl⟩)
      go_ret
      exact ⟨by rw [HF.out]; rfl, (Below.refl _ _).alloc (Nat.le_refl _) _⟩
    · rw [h1, h2] at h; cases h


set_option maxHeartbeats 4000000 in
theorem formed_3 (x : Paper) (w : World) (h : (within x.id 1 1000000 && within x.known 0 1000000) = true) (hk : x.kind = 3) :
    Calls Tryz.prog 79 #[.agg x.vals.toArray] w fun e w' => e = .returned (.bool (formed x)) ∧ Below w.heap.size w w' := by
  have HF : Hid (formed x = (within x.of 1 1000000 && decide (rest3 x = Paper.zero))) := by show _ = _; rw [formed, h, hk]; rfl
  obtain ⟨q, hq⟩ : ∃ q, q = decide (rest3 x = Paper.zero) := ⟨_, rfl⟩
  have he := run_eq28 (rest3 x) Paper.zero
  rw [← hq] at he HF
  clear hq
  obtain ⟨id, known, kind, loss, pack, inn, mark, goods, lo, hi, pieces, owner, count, of⟩ := x
  obtain rfl : kind = 3 := hk
  simp only [Paper.vals, rest3, Paper.zero] at he
  rw [Bool.and_eq_true] at h
  obtain ⟨h1, h2⟩ := h
  simp only at h1 h2
  show Calls Tryz.prog 79 #[.agg #[.int .i64 id, .int .i64 known, .int .u8 3, .int .i64 loss, .int .i64 pack, .int .i64 inn, .string mark, .string goods, .int .i64 lo, .int .i64 hi, .int .i64 pieces, .int .i64 owner, .int .i64 count, .int .i64 of]] w _
  cases c0 : within of 1 1000000
  · rw [c0] at HF
    go_enter Tryz.func79, Tryz.ntmps79
    go_wp2_with (first | (go_at_call 138; refine (within_any _ _ _ _).mono ?_; rintro e w' ⟨rfl, rfl⟩) | (go_at_call 147; refine (span_any _ _ _ _ _).mono ?_; rintro e w' ⟨rfl, rfl⟩) | (go_at_call 76; refine (isMark_any _ _ (by assumption)).mono ?_; rintro e w' ⟨rfl, rfl⟩) | (go_at_call 146; refine (isName_any _ _ (by assumption)).mono ?_; rintro e w' ⟨rfl, rfl⟩))
    go_ret
    exact ⟨by rw [HF.out]; rfl, by repeat (first | exact Below.refl _ _ | refine Below.alloc ?_ (by simp <;> omega) _ | refine Below.setCell ?_ (by simp <;> omega) _ | refine Below.drew ?_)⟩
  rw [c0] at HF
  go_enter Tryz.func79, Tryz.ntmps79
  go_wp2_with (first | (go_at_call 138; refine (within_any _ _ _ _).mono ?_; rintro e w' ⟨rfl, rfl⟩) | (go_at_call 147; refine (span_any _ _ _ _ _).mono ?_; rintro e w' ⟨rfl, rfl⟩) | (go_at_call 76; refine (isMark_any _ _ (by assumption)).mono ?_; rintro e w' ⟨rfl, rfl⟩) | (go_at_call 146; refine (isName_any _ _ (by assumption)).mono ?_; rintro e w' ⟨rfl, rfl⟩))
  go_ret
  exact ⟨by rw [HF.out]; rfl, by repeat (first | exact Below.refl _ _ | refine Below.alloc ?_ (by simp <;> omega) _ | refine Below.setCell ?_ (by simp <;> omega) _ | refine Below.drew ?_)⟩

set_option maxHeartbeats 4000000 in
theorem formed_2 (x : Paper) (w : World) (h : (within x.id 1 1000000 && within x.known 0 1000000) = true) (hk : x.kind = 2) :
    Calls Tryz.prog 79 #[.agg x.vals.toArray] w fun e w' => e = .returned (.bool (formed x)) ∧ Below w.heap.size w w' := by
  have HF : Hid (formed x = (formed2 x && decide (rest2 x = Paper.zero))) := by show _ = _; rw [formed, h, hk]; rfl
  obtain ⟨q, hq⟩ : ∃ q, q = decide (rest2 x = Paper.zero) := ⟨_, rfl⟩
  have he := run_eq28 (rest2 x) Paper.zero
  rw [← hq] at he HF
  clear hq
  obtain ⟨id, known, kind, loss, pack, inn, mark, goods, lo, hi, pieces, owner, count, of⟩ := x
  obtain rfl : kind = 2 := hk
  simp only [Paper.vals, rest2, Paper.zero] at he
  simp only [formed2] at HF
  rw [Bool.and_eq_true] at h
  obtain ⟨h1, h2⟩ := h
  simp only at h1 h2
  show Calls Tryz.prog 79 #[.agg #[.int .i64 id, .int .i64 known, .int .u8 2, .int .i64 loss, .int .i64 pack, .int .i64 inn, .string mark, .string goods, .int .i64 lo, .int .i64 hi, .int .i64 pieces, .int .i64 owner, .int .i64 count, .int .i64 of]] w _
  cases c0 : within loss 1 20
  · rw [c0] at HF
    go_enter Tryz.func79, Tryz.ntmps79
    go_wp2_with (first | (go_at_call 138; refine (within_any _ _ _ _).mono ?_; rintro e w' ⟨rfl, rfl⟩) | (go_at_call 147; refine (span_any _ _ _ _ _).mono ?_; rintro e w' ⟨rfl, rfl⟩) | (go_at_call 76; refine (isMark_any _ _ (by assumption)).mono ?_; rintro e w' ⟨rfl, rfl⟩) | (go_at_call 146; refine (isName_any _ _ (by assumption)).mono ?_; rintro e w' ⟨rfl, rfl⟩))
    go_ret
    exact ⟨by rw [HF.out]; rfl, by repeat (first | exact Below.refl _ _ | refine Below.alloc ?_ (by simp <;> omega) _ | refine Below.setCell ?_ (by simp <;> omega) _ | refine Below.drew ?_)⟩
  cases c1 : within pack 0 200
  · rw [c0, c1] at HF
    go_enter Tryz.func79, Tryz.ntmps79
    go_wp2_with (first | (go_at_call 138; refine (within_any _ _ _ _).mono ?_; rintro e w' ⟨rfl, rfl⟩) | (go_at_call 147; refine (span_any _ _ _ _ _).mono ?_; rintro e w' ⟨rfl, rfl⟩) | (go_at_call 76; refine (isMark_any _ _ (by assumption)).mono ?_; rintro e w' ⟨rfl, rfl⟩) | (go_at_call 146; refine (isName_any _ _ (by assumption)).mono ?_; rintro e w' ⟨rfl, rfl⟩))
    go_ret
    exact ⟨by rw [HF.out]; rfl, by repeat (first | exact Below.refl _ _ | refine Below.alloc ?_ (by simp <;> omega) _ | refine Below.setCell ?_ (by simp <;> omega) _ | refine Below.drew ?_)⟩
  cases c2 : within count 0 40
  · rw [c0, c1, c2] at HF
    go_enter Tryz.func79, Tryz.ntmps79
    go_wp2_with (first | (go_at_call 138; refine (within_any _ _ _ _).mono ?_; rintro e w' ⟨rfl, rfl⟩) | (go_at_call 147; refine (span_any _ _ _ _ _).mono ?_; rintro e w' ⟨rfl, rfl⟩) | (go_at_call 76; refine (isMark_any _ _ (by assumption)).mono ?_; rintro e w' ⟨rfl, rfl⟩) | (go_at_call 146; refine (isName_any _ _ (by assumption)).mono ?_; rintro e w' ⟨rfl, rfl⟩))
    go_ret
    exact ⟨by rw [HF.out]; rfl, by repeat (first | exact Below.refl _ _ | refine Below.alloc ?_ (by simp <;> omega) _ | refine Below.setCell ?_ (by simp <;> omega) _ | refine Below.drew ?_)⟩
  cases c3 : span lo hi 0 10000000
  · rw [c0, c1, c2, c3] at HF
    go_enter Tryz.func79, Tryz.ntmps79
    go_wp2_with (first | (go_at_call 138; refine (within_any _ _ _ _).mono ?_; rintro e w' ⟨rfl, rfl⟩) | (go_at_call 147; refine (span_any _ _ _ _ _).mono ?_; rintro e w' ⟨rfl, rfl⟩) | (go_at_call 76; refine (isMark_any _ _ (by assumption)).mono ?_; rintro e w' ⟨rfl, rfl⟩) | (go_at_call 146; refine (isName_any _ _ (by assumption)).mono ?_; rintro e w' ⟨rfl, rfl⟩))
    go_ret
    exact ⟨by rw [HF.out]; rfl, by repeat (first | exact Below.refl _ _ | refine Below.alloc ?_ (by simp <;> omega) _ | refine Below.setCell ?_ (by simp <;> omega) _ | refine Below.drew ?_)⟩
  rw [c0, c1, c2, c3] at HF
  go_enter Tryz.func79, Tryz.ntmps79
  go_wp2_with (first | (go_at_call 138; refine (within_any _ _ _ _).mono ?_; rintro e w' ⟨rfl, rfl⟩) | (go_at_call 147; refine (span_any _ _ _ _ _).mono ?_; rintro e w' ⟨rfl, rfl⟩) | (go_at_call 76; refine (isMark_any _ _ (by assumption)).mono ?_; rintro e w' ⟨rfl, rfl⟩) | (go_at_call 146; refine (isName_any _ _ (by assumption)).mono ?_; rintro e w' ⟨rfl, rfl⟩))
  go_ret
  exact ⟨by rw [HF.out]; rfl, by repeat (first | exact Below.refl _ _ | refine Below.alloc ?_ (by simp <;> omega) _ | refine Below.setCell ?_ (by simp <;> omega) _ | refine Below.drew ?_)⟩

set_option maxHeartbeats 4000000 in
theorem formed_1 (x : Paper) (w : World) (hm : x.mark.size ≤ maxLen) (hg : x.goods.size ≤ maxLen) (h : (within x.id 1 1000000 && within x.known 0 1000000) = true) (hk : x.kind = 1) :
    Calls Tryz.prog 79 #[.agg x.vals.toArray] w fun e w' => e = .returned (.bool (formed x)) ∧ Below w.heap.size w w' := by
  have HF : Hid (formed x = (formed1 x && decide (rest1 x = Paper.zero))) := by show _ = _; rw [formed, h, hk]; rfl
  obtain ⟨q, hq⟩ : ∃ q, q = decide (rest1 x = Paper.zero) := ⟨_, rfl⟩
  have he := run_eq28 (rest1 x) Paper.zero
  rw [← hq] at he HF
  clear hq
  obtain ⟨id, known, kind, loss, pack, inn, mark, goods, lo, hi, pieces, owner, count, of⟩ := x
  obtain rfl : kind = 1 := hk
  simp only [Paper.vals, rest1, Paper.zero] at he
  simp only [formed1] at HF
  rw [Bool.and_eq_true] at h
  obtain ⟨h1, h2⟩ := h
  simp only at h1 h2 hm hg
  show Calls Tryz.prog 79 #[.agg #[.int .i64 id, .int .i64 known, .int .u8 1, .int .i64 loss, .int .i64 pack, .int .i64 inn, .string mark, .string goods, .int .i64 lo, .int .i64 hi, .int .i64 pieces, .int .i64 owner, .int .i64 count, .int .i64 of]] w _
  cases c0 : within loss 1 20
  · rw [c0] at HF
    go_enter Tryz.func79, Tryz.ntmps79
    go_wp2_with (first | (go_at_call 138; refine (within_any _ _ _ _).mono ?_; rintro e w' ⟨rfl, rfl⟩) | (go_at_call 147; refine (span_any _ _ _ _ _).mono ?_; rintro e w' ⟨rfl, rfl⟩) | (go_at_call 76; refine (isMark_any _ _ (by assumption)).mono ?_; rintro e w' ⟨rfl, rfl⟩) | (go_at_call 146; refine (isName_any _ _ (by assumption)).mono ?_; rintro e w' ⟨rfl, rfl⟩))
    go_ret
    exact ⟨by rw [HF.out]; rfl, by repeat (first | exact Below.refl _ _ | refine Below.alloc ?_ (by simp <;> omega) _ | refine Below.setCell ?_ (by simp <;> omega) _ | refine Below.drew ?_)⟩
  cases c1 : within pack 1 200
  · rw [c0, c1] at HF
    go_enter Tryz.func79, Tryz.ntmps79
    go_wp2_with (first | (go_at_call 138; refine (within_any _ _ _ _).mono ?_; rintro e w' ⟨rfl, rfl⟩) | (go_at_call 147; refine (span_any _ _ _ _ _).mono ?_; rintro e w' ⟨rfl, rfl⟩) | (go_at_call 76; refine (isMark_any _ _ (by assumption)).mono ?_; rintro e w' ⟨rfl, rfl⟩) | (go_at_call 146; refine (isName_any _ _ (by assumption)).mono ?_; rintro e w' ⟨rfl, rfl⟩))
    go_ret
    exact ⟨by rw [HF.out]; rfl, by repeat (first | exact Below.refl _ _ | refine Below.alloc ?_ (by simp <;> omega) _ | refine Below.setCell ?_ (by simp <;> omega) _ | refine Below.drew ?_)⟩
  cases c2 : within inn 0 200
  · rw [c0, c1, c2] at HF
    go_enter Tryz.func79, Tryz.ntmps79
    go_wp2_with (first | (go_at_call 138; refine (within_any _ _ _ _).mono ?_; rintro e w' ⟨rfl, rfl⟩) | (go_at_call 147; refine (span_any _ _ _ _ _).mono ?_; rintro e w' ⟨rfl, rfl⟩) | (go_at_call 76; refine (isMark_any _ _ (by assumption)).mono ?_; rintro e w' ⟨rfl, rfl⟩) | (go_at_call 146; refine (isName_any _ _ (by assumption)).mono ?_; rintro e w' ⟨rfl, rfl⟩))
    go_ret
    exact ⟨by rw [HF.out]; rfl, by repeat (first | exact Below.refl _ _ | refine Below.alloc ?_ (by simp <;> omega) _ | refine Below.setCell ?_ (by simp <;> omega) _ | refine Below.drew ?_)⟩
  cases c3 : (inn != pack)
  · rw [c0, c1, c2, c3] at HF
    go_enter Tryz.func79, Tryz.ntmps79
    go_wp2_with (first | (go_at_call 138; refine (within_any _ _ _ _).mono ?_; rintro e w' ⟨rfl, rfl⟩) | (go_at_call 147; refine (span_any _ _ _ _ _).mono ?_; rintro e w' ⟨rfl, rfl⟩) | (go_at_call 76; refine (isMark_any _ _ (by assumption)).mono ?_; rintro e w' ⟨rfl, rfl⟩) | (go_at_call 146; refine (isName_any _ _ (by assumption)).mono ?_; rintro e w' ⟨rfl, rfl⟩))
    go_ret
    exact ⟨by rw [HF.out]; rfl, by repeat (first | exact Below.refl _ _ | refine Below.alloc ?_ (by simp <;> omega) _ | refine Below.setCell ?_ (by simp <;> omega) _ | refine Below.drew ?_)⟩
  cases c4 : isMark mark
  · rw [c0, c1, c2, c3, c4] at HF
    go_enter Tryz.func79, Tryz.ntmps79
    go_wp2_with (first | (go_at_call 138; refine (within_any _ _ _ _).mono ?_; rintro e w' ⟨rfl, rfl⟩) | (go_at_call 147; refine (span_any _ _ _ _ _).mono ?_; rintro e w' ⟨rfl, rfl⟩) | (go_at_call 76; refine (isMark_any _ _ (by assumption)).mono ?_; rintro e w' ⟨rfl, rfl⟩) | (go_at_call 146; refine (isName_any _ _ (by assumption)).mono ?_; rintro e w' ⟨rfl, rfl⟩))
    go_ret
    exact ⟨by rw [HF.out]; rfl, by repeat (first | exact Below.refl _ _ | refine Below.alloc ?_ (by simp <;> omega) _ | refine Below.setCell ?_ (by simp <;> omega) _ | refine Below.drew ?_)⟩
  cases c5 : isName goods
  · rw [c0, c1, c2, c3, c4, c5] at HF
    go_enter Tryz.func79, Tryz.ntmps79
    go_wp2_with (first | (go_at_call 138; refine (within_any _ _ _ _).mono ?_; rintro e w' ⟨rfl, rfl⟩) | (go_at_call 147; refine (span_any _ _ _ _ _).mono ?_; rintro e w' ⟨rfl, rfl⟩) | (go_at_call 76; refine (isMark_any _ _ (by assumption)).mono ?_; rintro e w' ⟨rfl, rfl⟩) | (go_at_call 146; refine (isName_any _ _ (by assumption)).mono ?_; rintro e w' ⟨rfl, rfl⟩))
    go_ret
    exact ⟨by rw [HF.out]; rfl, by repeat (first | exact Below.refl _ _ | refine Below.alloc ?_ (by simp <;> omega) _ | refine Below.setCell ?_ (by simp <;> omega) _ | refine Below.drew ?_)⟩
  cases c6 : span lo hi 1 100000
  · rw [c0, c1, c2, c3, c4, c5, c6] at HF
    go_enter Tryz.func79, Tryz.ntmps79
    go_wp2_with (first | (go_at_call 138; refine (within_any _ _ _ _).mono ?_; rintro e w' ⟨rfl, rfl⟩) | (go_at_call 147; refine (span_any _ _ _ _ _).mono ?_; rintro e w' ⟨rfl, rfl⟩) | (go_at_call 76; refine (isMark_any _ _ (by assumption)).mono ?_; rintro e w' ⟨rfl, rfl⟩) | (go_at_call 146; refine (isName_any _ _ (by assumption)).mono ?_; rintro e w' ⟨rfl, rfl⟩))
    go_ret
    exact ⟨by rw [HF.out]; rfl, by repeat (first | exact Below.refl _ _ | refine Below.alloc ?_ (by simp <;> omega) _ | refine Below.setCell ?_ (by simp <;> omega) _ | refine Below.drew ?_)⟩
  cases c7 : within pieces 1 20
  · rw [c0, c1, c2, c3, c4, c5, c6, c7] at HF
    go_enter Tryz.func79, Tryz.ntmps79
    go_wp2_with (first | (go_at_call 138; refine (within_any _ _ _ _).mono ?_; rintro e w' ⟨rfl, rfl⟩) | (go_at_call 147; refine (span_any _ _ _ _ _).mono ?_; rintro e w' ⟨rfl, rfl⟩) | (go_at_call 76; refine (isMark_any _ _ (by assumption)).mono ?_; rintro e w' ⟨rfl, rfl⟩) | (go_at_call 146; refine (isName_any _ _ (by assumption)).mono ?_; rintro e w' ⟨rfl, rfl⟩))
    go_ret
    exact ⟨by rw [HF.out]; rfl, by repeat (first | exact Below.refl _ _ | refine Below.alloc ?_ (by simp <;> omega) _ | refine Below.setCell ?_ (by simp <;> omega) _ | refine Below.drew ?_)⟩
  cases c8 : within owner 1 40
  · rw [c0, c1, c2, c3, c4, c5, c6, c7, c8] at HF
    go_enter Tryz.func79, Tryz.ntmps79
    go_wp2_with (first | (go_at_call 138; refine (within_any _ _ _ _).mono ?_; rintro e w' ⟨rfl, rfl⟩) | (go_at_call 147; refine (span_any _ _ _ _ _).mono ?_; rintro e w' ⟨rfl, rfl⟩) | (go_at_call 76; refine (isMark_any _ _ (by assumption)).mono ?_; rintro e w' ⟨rfl, rfl⟩) | (go_at_call 146; refine (isName_any _ _ (by assumption)).mono ?_; rintro e w' ⟨rfl, rfl⟩))
    go_ret
    exact ⟨by rw [HF.out]; rfl, by repeat (first | exact Below.refl _ _ | refine Below.alloc ?_ (by simp <;> omega) _ | refine Below.setCell ?_ (by simp <;> omega) _ | refine Below.drew ?_)⟩
  rw [c0, c1, c2, c3, c4, c5, c6, c7, c8] at HF
  go_enter Tryz.func79, Tryz.ntmps79
  go_wp2_with (first | (go_at_call 138; refine (within_any _ _ _ _).mono ?_; rintro e w' ⟨rfl, rfl⟩) | (go_at_call 147; refine (span_any _ _ _ _ _).mono ?_; rintro e w' ⟨rfl, rfl⟩) | (go_at_call 76; refine (isMark_any _ _ (by assumption)).mono ?_; rintro e w' ⟨rfl, rfl⟩) | (go_at_call 146; refine (isName_any _ _ (by assumption)).mono ?_; rintro e w' ⟨rfl, rfl⟩))
  go_ret
  exact ⟨by rw [HF.out]; rfl, by repeat (first | exact Below.refl _ _ | refine Below.alloc ?_ (by simp <;> omega) _ | refine Below.setCell ?_ (by simp <;> omega) _ | refine Below.drew ?_)⟩

set_option maxHeartbeats 4000000 in
theorem formed_0 (x : Paper) (w : World) (h : (within x.id 1 1000000 && within x.known 0 1000000) = true) (k1 : x.kind ≠ 1) (k2 : x.kind ≠ 2) (k3 : x.kind ≠ 3) :
    Calls Tryz.prog 79 #[.agg x.vals.toArray] w fun e w' => e = .returned (.bool (formed x)) ∧ Below w.heap.size w w' := by
  have HF : Hid (formed x = false) := by show _ = _; rw [formed, h, if_neg k1, if_neg k2, if_neg k3]; rfl
  obtain ⟨id, known, kind, loss, pack, inn, mark, goods, lo, hi, pieces, owner, count, of⟩ := x
  rw [Bool.and_eq_true] at h
  obtain ⟨h1, h2⟩ := h
  simp only at h1 h2 k1 k2 k3
  have j1 : (kind == 1) = false := by simp [k1]
  have j2 : (kind == 2) = false := by simp [k2]
  have j3 : (kind == 3) = false := by simp [k3]
  clear k1 k2 k3
  show Calls Tryz.prog 79 #[.agg #[.int .i64 id, .int .i64 known, .int .u8 kind, .int .i64 loss, .int .i64 pack, .int .i64 inn, .string mark, .string goods, .int .i64 lo, .int .i64 hi, .int .i64 pieces, .int .i64 owner, .int .i64 count, .int .i64 of]] w _
  go_enter Tryz.func79, Tryz.ntmps79
  go_wp2_with (go_at_call 138; refine (within_any _ _ _ _).mono ?_; rintro e w' ⟨rfl, rfl⟩)
  go_ret
  exact ⟨by rw [HF.out]; rfl, by repeat (first | exact Below.refl _ _ | refine Below.alloc ?_ (by simp <;> omega) _ | refine Below.setCell ?_ (by simp <;> omega) _ | refine Below.drew ?_)⟩

theorem formed_any (x : Paper) (w : World) (hm : x.mark.size ≤ maxLen) (hg : x.goods.size ≤ maxLen) :
    Calls Tryz.prog 79 #[.agg x.vals.toArray] w fun e w' => e = .returned (.bool (formed x)) ∧ Below w.heap.size w w' := by
  cases h : (within x.id 1 1000000 && within x.known 0 1000000)
  · exact formed_bad x w h
  · by_cases k1 : x.kind = 1
    · exact formed_1 x w hm hg h k1
    · by_cases k2 : x.kind = 2
      · exact formed_2 x w h k2
      · by_cases k3 : x.kind = 3
        · exact formed_3 x w h k3
        · exact formed_0 x w h k1 k2 k3

def checkPaper (x : Paper) : Int := if formed x then 0 else 1

theorem CheckPaper_any (x : Paper) (w : World) (hm : x.mark.size ≤ maxLen) (hg : x.goods.size ≤ maxLen) :
    Calls Tryz.prog 33 #[.agg x.vals.toArray] w fun e w' => e = .returned (.int .i64 (checkPaper x)) ∧ Below w.heap.size w w' := by
  have h := formed_any x
  have HC : Hid (checkPaper x = if formed x then 0 else 1) := by show _ = _; rfl
  show Calls Tryz.prog 33 #[.agg #[.int .i64 x.id, .int .i64 x.known, .int .u8 x.kind, .int .i64 x.loss, .int .i64 x.pack, .int .i64 x.inn, .string x.mark, .string x.goods, .int .i64 x.lo, .int .i64 x.hi, .int .i64 x.pieces, .int .i64 x.owner, .int .i64 x.count, .int .i64 x.of]] w _
  cases hf : formed x <;> rw [hf] at HC
  all_goals
    go_enter Tryz.func33, Tryz.ntmps33
    go_wp2_with (go_at_call 79; refine (formed_any x _ hm hg).mono ?_; rintro e w' ⟨rfl, hb⟩)
    go_outline
    go_ret
    exact ⟨by rw [HC.out]; rfl, ((Below.refl _ w).alloc (Nat.le_refl _) _).trans (hb.mono (by simp))⟩

end Go.Proofs.YtpffpofdceppiaaGreatDoor

namespace Go.Proofs.YtpffpofdceppiaaGreatDoor
open Go.RowKit Go.Shelf

/-- A slice value that holds a list in memory. -/
def Rows {α : Type} (enc : α → List Value) (k : Nat) (w : World) (v : Value) (l : List α) : Prop :=
  ∃ (a : Option Addr) (c : Nat), v = .slice a l.length c ∧ l.length ≤ c ∧ c ≤ maxLen ∧
    (0 < c → ∃ b off, a = some ⟨b, off, none⟩ ∧ b < w.heap.size ∧ ∀ j (h : j < l.length) i u, (enc l[j])[i]? = some u → w.cell? ⟨b, off + j * k + i, none⟩ = some u)

theorem Rows.below {α : Type} {enc : α → List Value} {k : Nat} {w w' : World} {v : Value} {l : List α} (h : Rows enc k w v l) (hb : Below w.heap.size w w') : Rows enc k w' v l := by
  obtain ⟨a, c, rfl, h1, h2, h3⟩ := h
  refine ⟨a, c, rfl, h1, h2, fun hc => ?_⟩
  obtain ⟨b, off, ha, hlt, hcell⟩ := h3 hc
  exact ⟨b, off, ha, Nat.lt_of_lt_of_le hlt hb.size, fun j h i u hu => (hb.cell (p := ⟨b, off + j * k + i, none⟩) hlt).trans (hcell j h i u hu)⟩

theorem Rows.take {α : Type} {enc : α → List Value} {k : Nat} {w : World} {b off c : Nat} {l : List α} (i : Nat) (hi : i ≤ l.length) (hc : c ≤ maxLen) (hlc : l.length ≤ c) (hlt : b < w.heap.size)
    (hcell : ∀ j (h : j < l.length) i u, (enc l[j])[i]? = some u → w.cell? ⟨b, off + j * k + i, none⟩ = some u) :
    Rows enc k w (.slice (some ⟨b, off, none⟩) i i) (l.take i) := by
  have hl : (l.take i).length = i := by simp; omega
  refine ⟨some ⟨b, off, none⟩, i, by rw [hl], by omega, by omega, fun _ => ⟨b, off, rfl, hlt, fun j h i' u hu => ?_⟩⟩
  exact hcell j (by omega) i' u (by rw [← hu]; congr 2; simp)

def okS (x : Paper) : Prop := x.mark.size ≤ 100 ∧ x.goods.size ≤ 100

abbrev PapersAt (w : World) (v : Value) (l : List Paper) : Prop := Rows Paper.vals 14 w v l

/-- The first place at which something is so; -1 without one. -/
def hav {α : Type} (p : α → Bool) : List α → Int
  | [] => -1
  | x :: l => if p x then 0 else if hav p l < 0 then -1 else hav p l + 1

theorem hav_lo {α : Type} (p : α → Bool) (l : List α) : -1 ≤ hav p l := by
  induction l with
  | nil => simp [hav]
  | cons x l ih => simp only [hav]; split <;> (try split) <;> omega

theorem hav_nonneg {α : Type} (p : α → Bool) (l : List α) : decide (0 ≤ hav p l) = l.any p := by
  induction l with
  | nil => rfl
  | cons x l ih =>
    rw [hav, List.any_cons, ← ih]
    have := hav_lo p l
    cases hp : p x
    · simp only [Bool.false_or, Bool.false_eq_true, if_false]
      split
      · simp; omega
      · simp; omega
    · simp

theorem hav_hit {α : Type} (p : α → Bool) (l : List α) (k : Nat) (hk : k < l.length) (hp : p l[k] = true) (hn : ∀ j (h : j < k), p (l[j]'(by omega)) = false) : hav p l = k := by
  induction l generalizing k with
  | nil => simp at hk
  | cons x l ih =>
    cases k with
    | zero => simp only [List.getElem_cons_zero] at hp; simp [hav, hp]
    | succ k =>
      have h0 : p x = false := by simpa using hn 0 (by omega)
      have := ih k (by simpa using hk) (by simpa using hp) (fun j h => by simpa using hn (j + 1) (by omega))
      simp only [hav, h0, Bool.false_eq_true, if_false, this]
      rw [if_neg (by omega)]; push_cast; rfl

theorem hav_miss {α : Type} (p : α → Bool) (l : List α) (hn : ∀ j (h : j < l.length), p l[j] = false) : hav p l = -1 := by
  induction l with
  | nil => rfl
  | cons x l ih =>
    have h0 : p x = false := hn 0 (by simp)
    have := ih (fun j h => hn (j + 1) (by simpa using h))
    simp [hav, h0, this]

/-- WHAT IS ASKED OF A PREDICATE THAT IS HANDED IN: it answers p, and nothing that lay there turns. -/
def PredB (g : Nat) (lb : Array Value) (p : Paper → Bool) (w : World) : Prop :=
  ∀ (W : World) (x : Paper), Below w.heap.size w W → Calls Tryz.prog g (#[.agg x.vals.toArray] ++ lb) W fun e w' => e = .returned (.bool (p x)) ∧ Below W.heap.size W w'

theorem paper_cells {w : World} {b o : Nat} (x : Paper) (h : ∀ i u, x.vals[i]? = some u → w.cell? ⟨b, o + i, none⟩ = some u) :
    w.cell? ⟨b, o, none⟩ = some (.int .i64 x.id) ∧ w.cell? ⟨b, o + 1, none⟩ = some (.int .i64 x.known) ∧ w.cell? ⟨b, o + 2, none⟩ = some (.int .u8 x.kind) ∧ w.cell? ⟨b, o + 3, none⟩ = some (.int .i64 x.loss) ∧ w.cell? ⟨b, o + 4, none⟩ = some (.int .i64 x.pack) ∧ w.cell? ⟨b, o + 5, none⟩ = some (.int .i64 x.inn) ∧ w.cell? ⟨b, o + 6, none⟩ = some (.string x.mark) ∧ w.cell? ⟨b, o + 7, none⟩ = some (.string x.goods) ∧ w.cell? ⟨b, o + 8, none⟩ = some (.int .i64 x.lo) ∧ w.cell? ⟨b, o + 9, none⟩ = some (.int .i64 x.hi) ∧ w.cell? ⟨b, o + 10, none⟩ = some (.int .i64 x.pieces) ∧ w.cell? ⟨b, o + 11, none⟩ = some (.int .i64 x.owner) ∧ w.cell? ⟨b, o + 12, none⟩ = some (.int .i64 x.count) ∧ w.cell? ⟨b, o + 13, none⟩ = some (.int .i64 x.of) :=
  ⟨h 0 _ rfl, h 1 _ rfl, h 2 _ rfl, h 3 _ rfl, h 4 _ rfl, h 5 _ rfl, h 6 _ rfl, h 7 _ rfl, h 8 _ rfl, h 9 _ rfl, h 10 _ rfl, h 11 _ rfl, h 12 _ rfl, h 13 _ rfl⟩

set_option maxHeartbeats 1000000 in
theorem having_any (v : Value) (l : List Paper) (p : Paper → Bool) (g : Nat) (lb : Array Value) (w : World) (hv : PapersAt w v l) (hn : l.length ≤ 1000)
    (eg : ∀ args w, (callFunc g args).run Tryz.prog w = .ok (.enter g args) w) (hp : PredB g lb p w) :
    Calls Tryz.prog 158 #[v, .func (.func g) #[] lb] w fun e w' => e = .returned (.int .i64 (hav p l)) ∧ Below w.heap.size w w' := by
  obtain ⟨a, c, rfl, h1, h2, h3⟩ := hv
  go_enter Tryz.func158, Tryz.ntmps158
  go_wp2
  go_loopw [9] (fun s9 wr => ∃ kk : Nat, kk ≤ l.length ∧ s9 = .int .i64 kk ∧ Below w.heap.size w wr ∧ Hid (∀ j (h : j < l.length), j < kk → p l[j] = false)) (fun s9 _ => l.length - (intOf s9).toNat)
  case atStart => exact ⟨0, Nat.zero_le _, rfl, Below.refl _ _, fun j _ hj => absurd hj (Nat.not_lt_zero _)⟩
  case round =>
    obtain ⟨kk, hkk, rfl, hb, A⟩ := hrel
    by_cases hlt : kk < l.length
    · obtain ⟨b, off, rfl, hbs, hcell⟩ := h3 (by omega)
      obtain ⟨c0, c1, c2, c3, c4, c5, c6, c7, c8, c9, c10, c11, c12, c13⟩ := paper_cells (w := wr) (b := b) (o := off + kk * 14) l[kk] (fun i u hu => (hb.cell (p := ⟨b, off + kk * 14 + i, none⟩) hbs).trans (hcell kk hlt i u hu))
      have hcall := fun W h => hp W l[kk] h
      have H1 := Lib.hid (hav_hit p l kk hlt)
      have H2 : Hid (p l[kk] = false → ∀ j (h : j < l.length), j < kk + 1 → p l[j] = false) := fun h0 j hj hjk => by
        by_cases e : j = kk
        · subst e; exact h0
        · exact A.out j hj (by omega)
      clear hcell h3 hp
      generalize l[kk] = x at *
      have hcall : ∀ W, Below w.heap.size w W → Calls Tryz.prog g (#[.agg #[.int .i64 x.id, .int .i64 x.known, .int .u8 x.kind, .int .i64 x.loss, .int .i64 x.pack, .int .i64 x.inn, .string x.mark, .string x.goods, .int .i64 x.lo, .int .i64 x.hi, .int .i64 x.pieces, .int .i64 x.owner, .int .i64 x.count, .int .i64 x.of]] ++ lb) W fun e w' => e = .returned (.bool (p x)) ∧ Below W.heap.size W w' := hcall
      cases hq : p x with
      | true =>
        rw [hq] at hcall H1
        go_wp2_with (go_at_fn g; refine (hcall _ ?_).mono ?_; (exact hb.alloc hb.size _); rintro e w' ⟨rfl, hb'⟩)
        go_ret
        exact ⟨by rw [H1.out trivial (fun j hj => A.out j (by omega) hj)]; rfl, ((hb.alloc hb.size _).trans (hb'.mono (by have := hb.size; simp; omega)))⟩
      | false =>
        rw [hq] at hcall
        go_wp2_with (go_at_fn g; refine (hcall _ ?_).mono ?_; (exact hb.alloc hb.size _); rintro e w' ⟨rfl, hb'⟩)
        go_roundw
        case rel => exact ⟨kk + 1, by omega, by go_num, ((hb.alloc hb.size _).trans (hb'.mono (by have := hb.size; simp; omega))), H2.out hq⟩
        case measure => simp [intOf]; omega
    · obtain rfl : kk = l.length := by omega
      clear hp
      go_wp2
      go_ret
      exact ⟨by rw [hav_miss p l (fun j hj => A.out j hj hj)]; rfl, hb⟩

end Go.Proofs.YtpffpofdceppiaaGreatDoor
