/- A part of the proof that laganlaw01.CargoTexts answers true at every input and leaves its arguments as they were; the conditions are those of the given row and card, nothing else. -/
import Derived.Test.YtpffpofdceppiaaGreatDoorKP5
set_option linter.unusedSimpArgs false
set_option linter.unusedVariables false
namespace Go.Proofs.YtpffpofdceppiaaGreatDoor
open Go.RowKit Go.Shelf

theorem spanR_any (lo hi a b : Int) (w : World) :
    Calls Tryz.prog 152 #[.agg #[.int .i64 lo, .int .i64 hi], .int .i64 a, .int .i64 b] w fun e w' => e = .returned (.bool (span lo hi a b)) ∧ w.alloc (.cells #[.int .i64 lo, .int .i64 hi] 26) = w' := by
  by_cases h1 : a ≤ lo <;> by_cases h2 : hi ≤ b <;> by_cases h3 : lo ≤ hi
  all_goals
    go_enter Tryz.func152, Tryz.ntmps152
    go_wp2
    go_ret
    exact ⟨by simp [span, *] <;> omega, rfl⟩

def own1 (x : Paper) : Paper := { x with count := 0, of := 0 }
def own2 (x : Paper) : Paper := { Paper.zero with id := x.id, known := x.known, kind := x.kind, loss := x.loss, pack := x.pack, lo := x.lo, hi := x.hi, count := x.count }
def own3 (x : Paper) : Paper := { Paper.zero with id := x.id, known := x.known, kind := x.kind, of := x.of }
theorem own1_eq (x : Paper) : decide (x = own1 x) = decide (rest1 x = Paper.zero) := by
  rw [decide_eq_decide]
  cases x
  simp [own1, rest1, Paper.zero]
theorem own2_eq (x : Paper) : decide (x = own2 x) = decide (rest2 x = Paper.zero) := by
  rw [decide_eq_decide]
  cases x
  simp [own2, rest2, Paper.zero]
theorem own3_eq (x : Paper) : decide (x = own3 x) = decide (rest3 x = Paper.zero) := by
  rw [decide_eq_decide]
  cases x
  simp [own3, rest3, Paper.zero]

set_option maxHeartbeats 2000000 in
theorem formedR_bad (x : Paper) (w : World) (h : (within x.id 1 1000000 && within x.known 0 1000000) = false) :
    Calls Tryz.prog 84 #[.agg x.vals.toArray] w fun e w' => e = .returned (.bool (formed x)) ∧ Below w.heap.size w w' := by
  have HF : Hid (formed x = false) := by show _ = _; rw [formed, h]; rfl
  obtain ⟨id, known, kind, loss, pack, inn, mark, goods, lo, hi, pieces, owner, count, of⟩ := x
  show Calls Tryz.prog 84 #[.agg #[.int .i64 id, .int .i64 known, .int .u8 kind, .int .i64 loss, .int .i64 pack, .int .i64 inn, .string mark, .string goods, .int .i64 lo, .int .i64 hi, .int .i64 pieces, .int .i64 owner, .int .i64 count, .int .i64 of]] w _
  simp only at h
  cases h1 : within id 1 1000000
  · clear h
    go_enter Tryz.func84, Tryz.ntmps84
    go_wp2_with (first | (go_at_call 136; refine (withinR_any _ _ _ _).mono ?_; rintro e w' ⟨rfl, rfl⟩) | (go_at_call 152; refine (spanR_any _ _ _ _ _).mono ?_; rintro e w' ⟨rfl, rfl⟩) | (go_at_call 77; refine (MarkR_any _ _ (by assumption)).mono ?_; rintro e w' ⟨rfl, rfl⟩) | (go_at_call 153; refine (NameR_any _ _ (by assumption)).mono ?_; rintro e w' ⟨rfl, rfl⟩))
    go_ret
    exact ⟨by rw [HF.out]; rfl, by repeat (first | exact Below.refl _ _ | refine Below.alloc ?_ (by simp <;> omega) _ | refine Below.setCell ?_ (by simp <;> omega) _ | refine Below.drew ?_)⟩
  · cases h2 : within known 0 1000000
    · clear h
      go_enter Tryz.func84, Tryz.ntmps84
      go_wp2_with (first | (go_at_call 136; refine (withinR_any _ _ _ _).mono ?_; rintro e w' ⟨rfl, rfl⟩) | (go_at_call 152; refine (spanR_any _ _ _ _ _).mono ?_; rintro e w' ⟨rfl, rfl⟩) | (go_at_call 77; refine (MarkR_any _ _ (by assumption)).mono ?_; rintro e w' ⟨rfl, rfl⟩) | (go_at_call 153; refine (NameR_any _ _ (by assumption)).mono ?_; rintro e w' ⟨rfl, rfl⟩))
      go_ret
      exact ⟨by rw [HF.out]; rfl, by repeat (first | exact Below.refl _ _ | refine Below.alloc ?_ (by simp <;> omega) _ | refine Below.setCell ?_ (by simp <;> omega) _ | refine Below.drew ?_)⟩
    · rw [h1, h2] at h; cases h

set_option maxRecDepth 100000 in
set_option maxHeartbeats 8000000 in
theorem formedR_3 (x : Paper) (w : World) (h : (within x.id 1 1000000 && within x.known 0 1000000) = true) (hk : x.kind = 3) :
    Calls Tryz.prog 84 #[.agg x.vals.toArray] w fun e w' => e = .returned (.bool (formed x)) ∧ Below w.heap.size w w' := by
  have HF : Hid (formed x = (decide (x = own3 x) && within x.of 1 1000000)) := by
    show _ = _
    rw [formed, h, hk, own3_eq]
    show (within x.of 1 1000000 && _) = _
    exact Bool.and_comm _ _
  obtain ⟨q, hq⟩ : ∃ q, q = decide (x = own3 x) := ⟨_, rfl⟩
  have he := run_eq28 x (own3 x)
  rw [← hq] at he HF
  clear hq
  obtain ⟨id, known, kind, loss, pack, inn, mark, goods, lo, hi, pieces, owner, count, of⟩ := x
  obtain rfl : kind = 3 := hk
  simp only [Paper.vals, own3, Paper.zero] at he
  simp only at HF
  rw [Bool.and_eq_true] at h
  obtain ⟨h1, h2⟩ := h
  simp only at h1 h2
  show Calls Tryz.prog 84 #[.agg #[.int .i64 id, .int .i64 known, .int .u8 3, .int .i64 loss, .int .i64 pack, .int .i64 inn, .string mark, .string goods, .int .i64 lo, .int .i64 hi, .int .i64 pieces, .int .i64 owner, .int .i64 count, .int .i64 of]] w _
  cases c0 : q
  · rw [c0] at HF
    go_enter Tryz.func84, Tryz.ntmps84
    go_wp2_with (first | (go_at_call 136; refine (withinR_any _ _ _ _).mono ?_; rintro e w' ⟨rfl, rfl⟩) | (go_at_call 152; refine (spanR_any _ _ _ _ _).mono ?_; rintro e w' ⟨rfl, rfl⟩) | (go_at_call 77; refine (MarkR_any _ _ (by assumption)).mono ?_; rintro e w' ⟨rfl, rfl⟩) | (go_at_call 153; refine (NameR_any _ _ (by assumption)).mono ?_; rintro e w' ⟨rfl, rfl⟩))
    go_ret
    exact ⟨by rw [HF.out]; rfl, by repeat (first | exact Below.refl _ _ | refine Below.alloc ?_ (by simp <;> omega) _ | refine Below.setCell ?_ (by simp <;> omega) _ | refine Below.drew ?_)⟩
  cases c1 : within of 1 1000000
  · rw [c0, c1] at HF
    go_enter Tryz.func84, Tryz.ntmps84
    go_wp2_with (first | (go_at_call 136; refine (withinR_any _ _ _ _).mono ?_; rintro e w' ⟨rfl, rfl⟩) | (go_at_call 152; refine (spanR_any _ _ _ _ _).mono ?_; rintro e w' ⟨rfl, rfl⟩) | (go_at_call 77; refine (MarkR_any _ _ (by assumption)).mono ?_; rintro e w' ⟨rfl, rfl⟩) | (go_at_call 153; refine (NameR_any _ _ (by assumption)).mono ?_; rintro e w' ⟨rfl, rfl⟩))
    go_ret
    exact ⟨by rw [HF.out]; rfl, by repeat (first | exact Below.refl _ _ | refine Below.alloc ?_ (by simp <;> omega) _ | refine Below.setCell ?_ (by simp <;> omega) _ | refine Below.drew ?_)⟩
  rw [c0, c1] at HF
  go_enter Tryz.func84, Tryz.ntmps84
  go_wp2_with (first | (go_at_call 136; refine (withinR_any _ _ _ _).mono ?_; rintro e w' ⟨rfl, rfl⟩) | (go_at_call 152; refine (spanR_any _ _ _ _ _).mono ?_; rintro e w' ⟨rfl, rfl⟩) | (go_at_call 77; refine (MarkR_any _ _ (by assumption)).mono ?_; rintro e w' ⟨rfl, rfl⟩) | (go_at_call 153; refine (NameR_any _ _ (by assumption)).mono ?_; rintro e w' ⟨rfl, rfl⟩))
  go_ret
  exact ⟨by rw [HF.out]; rfl, by repeat (first | exact Below.refl _ _ | refine Below.alloc ?_ (by simp <;> omega) _ | refine Below.setCell ?_ (by simp <;> omega) _ | refine Below.drew ?_)⟩

set_option maxRecDepth 100000 in
set_option maxHeartbeats 8000000 in
theorem formedR_2 (x : Paper) (w : World) (h : (within x.id 1 1000000 && within x.known 0 1000000) = true) (hk : x.kind = 2) :
    Calls Tryz.prog 84 #[.agg x.vals.toArray] w fun e w' => e = .returned (.bool (formed x)) ∧ Below w.heap.size w w' := by
  have HF : Hid (formed x = (decide (x = own2 x) && span x.lo x.hi 0 10000000 && within x.loss 1 20 && within x.pack 0 200 && within x.count 0 40)) := by
    show _ = _
    rw [formed, h, hk, own2_eq]
    show (formed2 x && decide (rest2 x = Paper.zero)) = _
    unfold formed2
    generalize decide (rest2 x = Paper.zero) = q
    generalize within x.loss 1 20 = a
    generalize within x.pack 0 200 = b
    generalize within x.count 0 40 = c
    generalize span x.lo x.hi 0 10000000 = d
    ac_rfl
  obtain ⟨q, hq⟩ : ∃ q, q = decide (x = own2 x) := ⟨_, rfl⟩
  have he := run_eq28 x (own2 x)
  rw [← hq] at he HF
  clear hq
  obtain ⟨id, known, kind, loss, pack, inn, mark, goods, lo, hi, pieces, owner, count, of⟩ := x
  obtain rfl : kind = 2 := hk
  simp only [Paper.vals, own2, Paper.zero] at he
  simp only at HF
  rw [Bool.and_eq_true] at h
  obtain ⟨h1, h2⟩ := h
  simp only at h1 h2
  show Calls Tryz.prog 84 #[.agg #[.int .i64 id, .int .i64 known, .int .u8 2, .int .i64 loss, .int .i64 pack, .int .i64 inn, .string mark, .string goods, .int .i64 lo, .int .i64 hi, .int .i64 pieces, .int .i64 owner, .int .i64 count, .int .i64 of]] w _
  cases c0 : q
  · rw [c0] at HF
    go_enter Tryz.func84, Tryz.ntmps84
    go_wp2_with (first | (go_at_call 136; refine (withinR_any _ _ _ _).mono ?_; rintro e w' ⟨rfl, rfl⟩) | (go_at_call 152; refine (spanR_any _ _ _ _ _).mono ?_; rintro e w' ⟨rfl, rfl⟩) | (go_at_call 77; refine (MarkR_any _ _ (by assumption)).mono ?_; rintro e w' ⟨rfl, rfl⟩) | (go_at_call 153; refine (NameR_any _ _ (by assumption)).mono ?_; rintro e w' ⟨rfl, rfl⟩))
    go_ret
    exact ⟨by rw [HF.out]; rfl, by repeat (first | exact Below.refl _ _ | refine Below.alloc ?_ (by simp <;> omega) _ | refine Below.setCell ?_ (by simp <;> omega) _ | refine Below.drew ?_)⟩
  cases c1 : span lo hi 0 10000000
  · rw [c0, c1] at HF
    go_enter Tryz.func84, Tryz.ntmps84
    go_wp2_with (first | (go_at_call 136; refine (withinR_any _ _ _ _).mono ?_; rintro e w' ⟨rfl, rfl⟩) | (go_at_call 152; refine (spanR_any _ _ _ _ _).mono ?_; rintro e w' ⟨rfl, rfl⟩) | (go_at_call 77; refine (MarkR_any _ _ (by assumption)).mono ?_; rintro e w' ⟨rfl, rfl⟩) | (go_at_call 153; refine (NameR_any _ _ (by assumption)).mono ?_; rintro e w' ⟨rfl, rfl⟩))
    go_ret
    exact ⟨by rw [HF.out]; rfl, by repeat (first | exact Below.refl _ _ | refine Below.alloc ?_ (by simp <;> omega) _ | refine Below.setCell ?_ (by simp <;> omega) _ | refine Below.drew ?_)⟩
  cases c2 : within loss 1 20
  · rw [c0, c1, c2] at HF
    go_enter Tryz.func84, Tryz.ntmps84
    go_wp2_with (first | (go_at_call 136; refine (withinR_any _ _ _ _).mono ?_; rintro e w' ⟨rfl, rfl⟩) | (go_at_call 152; refine (spanR_any _ _ _ _ _).mono ?_; rintro e w' ⟨rfl, rfl⟩) | (go_at_call 77; refine (MarkR_any _ _ (by assumption)).mono ?_; rintro e w' ⟨rfl, rfl⟩) | (go_at_call 153; refine (NameR_any _ _ (by assumption)).mono ?_; rintro e w' ⟨rfl, rfl⟩))
    go_ret
    exact ⟨by rw [HF.out]; rfl, by repeat (first | exact Below.refl _ _ | refine Below.alloc ?_ (by simp <;> omega) _ | refine Below.setCell ?_ (by simp <;> omega) _ | refine Below.drew ?_)⟩
  cases c3 : within pack 0 200
  · rw [c0, c1, c2, c3] at HF
    go_enter Tryz.func84, Tryz.ntmps84
    go_wp2_with (first | (go_at_call 136; refine (withinR_any _ _ _ _).mono ?_; rintro e w' ⟨rfl, rfl⟩) | (go_at_call 152; refine (spanR_any _ _ _ _ _).mono ?_; rintro e w' ⟨rfl, rfl⟩) | (go_at_call 77; refine (MarkR_any _ _ (by assumption)).mono ?_; rintro e w' ⟨rfl, rfl⟩) | (go_at_call 153; refine (NameR_any _ _ (by assumption)).mono ?_; rintro e w' ⟨rfl, rfl⟩))
    go_ret
    exact ⟨by rw [HF.out]; rfl, by repeat (first | exact Below.refl _ _ | refine Below.alloc ?_ (by simp <;> omega) _ | refine Below.setCell ?_ (by simp <;> omega) _ | refine Below.drew ?_)⟩
  cases c4 : within count 0 40
  · rw [c0, c1, c2, c3, c4] at HF
    go_enter Tryz.func84, Tryz.ntmps84
    go_wp2_with (first | (go_at_call 136; refine (withinR_any _ _ _ _).mono ?_; rintro e w' ⟨rfl, rfl⟩) | (go_at_call 152; refine (spanR_any _ _ _ _ _).mono ?_; rintro e w' ⟨rfl, rfl⟩) | (go_at_call 77; refine (MarkR_any _ _ (by assumption)).mono ?_; rintro e w' ⟨rfl, rfl⟩) | (go_at_call 153; refine (NameR_any _ _ (by assumption)).mono ?_; rintro e w' ⟨rfl, rfl⟩))
    go_ret
    exact ⟨by rw [HF.out]; rfl, by repeat (first | exact Below.refl _ _ | refine Below.alloc ?_ (by simp <;> omega) _ | refine Below.setCell ?_ (by simp <;> omega) _ | refine Below.drew ?_)⟩
  rw [c0, c1, c2, c3, c4] at HF
  go_enter Tryz.func84, Tryz.ntmps84
  go_wp2_with (first | (go_at_call 136; refine (withinR_any _ _ _ _).mono ?_; rintro e w' ⟨rfl, rfl⟩) | (go_at_call 152; refine (spanR_any _ _ _ _ _).mono ?_; rintro e w' ⟨rfl, rfl⟩) | (go_at_call 77; refine (MarkR_any _ _ (by assumption)).mono ?_; rintro e w' ⟨rfl, rfl⟩) | (go_at_call 153; refine (NameR_any _ _ (by assumption)).mono ?_; rintro e w' ⟨rfl, rfl⟩))
  go_ret
  exact ⟨by rw [HF.out]; rfl, by repeat (first | exact Below.refl _ _ | refine Below.alloc ?_ (by simp <;> omega) _ | refine Below.setCell ?_ (by simp <;> omega) _ | refine Below.drew ?_)⟩

set_option maxRecDepth 100000 in
set_option maxHeartbeats 8000000 in
theorem formedR_1 (x : Paper) (w : World) (hm : x.mark.size ≤ maxLen) (hg : x.goods.size ≤ maxLen) (h : (within x.id 1 1000000 && within x.known 0 1000000) = true) (hk : x.kind = 1) :
    Calls Tryz.prog 84 #[.agg x.vals.toArray] w fun e w' => e = .returned (.bool (formed x)) ∧ Below w.heap.size w w' := by
  have HF : Hid (formed x = (decide (x = own1 x) && span x.lo x.hi 1 100000 && isMark x.mark && isName x.goods && within x.loss 1 20 && within x.pack 1 200 && within x.inn 0 200 && (x.inn != x.pack) && within x.pieces 1 20 && within x.owner 1 40)) := by
    show _ = _
    rw [formed, h, hk, own1_eq]
    show (formed1 x && decide (rest1 x = Paper.zero)) = _
    unfold formed1
    generalize decide (rest1 x = Paper.zero) = q
    generalize within x.loss 1 20 = d
    generalize within x.pack 1 200 = e
    generalize within x.inn 0 200 = f
    generalize (x.inn != x.pack) = g
    generalize isMark x.mark = b
    generalize isName x.goods = c
    generalize span x.lo x.hi 1 100000 = a
    generalize within x.pieces 1 20 = i
    generalize within x.owner 1 40 = j
    ac_rfl
  obtain ⟨q, hq⟩ : ∃ q, q = decide (x = own1 x) := ⟨_, rfl⟩
  have he := run_eq28 x (own1 x)
  rw [← hq] at he HF
  clear hq
  obtain ⟨id, known, kind, loss, pack, inn, mark, goods, lo, hi, pieces, owner, count, of⟩ := x
  obtain rfl : kind = 1 := hk
  simp only [Paper.vals, own1, Paper.zero] at he
  simp only at HF
  rw [Bool.and_eq_true] at h
  obtain ⟨h1, h2⟩ := h
  simp only at h1 h2 hm hg
  show Calls Tryz.prog 84 #[.agg #[.int .i64 id, .int .i64 known, .int .u8 1, .int .i64 loss, .int .i64 pack, .int .i64 inn, .string mark, .string goods, .int .i64 lo, .int .i64 hi, .int .i64 pieces, .int .i64 owner, .int .i64 count, .int .i64 of]] w _
  cases c0 : q
  · rw [c0] at HF
    go_enter Tryz.func84, Tryz.ntmps84
    go_wp2_with (first | (go_at_call 136; refine (withinR_any _ _ _ _).mono ?_; rintro e w' ⟨rfl, rfl⟩) | (go_at_call 152; refine (spanR_any _ _ _ _ _).mono ?_; rintro e w' ⟨rfl, rfl⟩) | (go_at_call 77; refine (MarkR_any _ _ (by assumption)).mono ?_; rintro e w' ⟨rfl, rfl⟩) | (go_at_call 153; refine (NameR_any _ _ (by assumption)).mono ?_; rintro e w' ⟨rfl, rfl⟩))
    go_ret
    exact ⟨by rw [HF.out]; rfl, by repeat (first | exact Below.refl _ _ | refine Below.alloc ?_ (by simp <;> omega) _ | refine Below.setCell ?_ (by simp <;> omega) _ | refine Below.drew ?_)⟩
  cases c1 : span lo hi 1 100000
  · rw [c0, c1] at HF
    go_enter Tryz.func84, Tryz.ntmps84
    go_wp2_with (first | (go_at_call 136; refine (withinR_any _ _ _ _).mono ?_; rintro e w' ⟨rfl, rfl⟩) | (go_at_call 152; refine (spanR_any _ _ _ _ _).mono ?_; rintro e w' ⟨rfl, rfl⟩) | (go_at_call 77; refine (MarkR_any _ _ (by assumption)).mono ?_; rintro e w' ⟨rfl, rfl⟩) | (go_at_call 153; refine (NameR_any _ _ (by assumption)).mono ?_; rintro e w' ⟨rfl, rfl⟩))
    go_ret
    exact ⟨by rw [HF.out]; rfl, by repeat (first | exact Below.refl _ _ | refine Below.alloc ?_ (by simp <;> omega) _ | refine Below.setCell ?_ (by simp <;> omega) _ | refine Below.drew ?_)⟩
  cases c2 : isMark mark
  · rw [c0, c1, c2] at HF
    go_enter Tryz.func84, Tryz.ntmps84
    go_wp2_with (first | (go_at_call 136; refine (withinR_any _ _ _ _).mono ?_; rintro e w' ⟨rfl, rfl⟩) | (go_at_call 152; refine (spanR_any _ _ _ _ _).mono ?_; rintro e w' ⟨rfl, rfl⟩) | (go_at_call 77; refine (MarkR_any _ _ (by assumption)).mono ?_; rintro e w' ⟨rfl, rfl⟩) | (go_at_call 153; refine (NameR_any _ _ (by assumption)).mono ?_; rintro e w' ⟨rfl, rfl⟩))
    go_ret
    exact ⟨by rw [HF.out]; rfl, by repeat (first | exact Below.refl _ _ | refine Below.alloc ?_ (by simp <;> omega) _ | refine Below.setCell ?_ (by simp <;> omega) _ | refine Below.drew ?_)⟩
  cases c3 : isName goods
  · rw [c0, c1, c2, c3] at HF
    go_enter Tryz.func84, Tryz.ntmps84
    go_wp2_with (first | (go_at_call 136; refine (withinR_any _ _ _ _).mono ?_; rintro e w' ⟨rfl, rfl⟩) | (go_at_call 152; refine (spanR_any _ _ _ _ _).mono ?_; rintro e w' ⟨rfl, rfl⟩) | (go_at_call 77; refine (MarkR_any _ _ (by assumption)).mono ?_; rintro e w' ⟨rfl, rfl⟩) | (go_at_call 153; refine (NameR_any _ _ (by assumption)).mono ?_; rintro e w' ⟨rfl, rfl⟩))
    go_ret
    exact ⟨by rw [HF.out]; rfl, by repeat (first | exact Below.refl _ _ | refine Below.alloc ?_ (by simp <;> omega) _ | refine Below.setCell ?_ (by simp <;> omega) _ | refine Below.drew ?_)⟩
  cases c4 : within loss 1 20
  · rw [c0, c1, c2, c3, c4] at HF
    go_enter Tryz.func84, Tryz.ntmps84
    go_wp2_with (first | (go_at_call 136; refine (withinR_any _ _ _ _).mono ?_; rintro e w' ⟨rfl, rfl⟩) | (go_at_call 152; refine (spanR_any _ _ _ _ _).mono ?_; rintro e w' ⟨rfl, rfl⟩) | (go_at_call 77; refine (MarkR_any _ _ (by assumption)).mono ?_; rintro e w' ⟨rfl, rfl⟩) | (go_at_call 153; refine (NameR_any _ _ (by assumption)).mono ?_; rintro e w' ⟨rfl, rfl⟩))
    go_ret
    exact ⟨by rw [HF.out]; rfl, by repeat (first | exact Below.refl _ _ | refine Below.alloc ?_ (by simp <;> omega) _ | refine Below.setCell ?_ (by simp <;> omega) _ | refine Below.drew ?_)⟩
  cases c5 : within pack 1 200
  · rw [c0, c1, c2, c3, c4, c5] at HF
    go_enter Tryz.func84, Tryz.ntmps84
    go_wp2_with (first | (go_at_call 136; refine (withinR_any _ _ _ _).mono ?_; rintro e w' ⟨rfl, rfl⟩) | (go_at_call 152; refine (spanR_any _ _ _ _ _).mono ?_; rintro e w' ⟨rfl, rfl⟩) | (go_at_call 77; refine (MarkR_any _ _ (by assumption)).mono ?_; rintro e w' ⟨rfl, rfl⟩) | (go_at_call 153; refine (NameR_any _ _ (by assumption)).mono ?_; rintro e w' ⟨rfl, rfl⟩))
    go_ret
    exact ⟨by rw [HF.out]; rfl, by repeat (first | exact Below.refl _ _ | refine Below.alloc ?_ (by simp <;> omega) _ | refine Below.setCell ?_ (by simp <;> omega) _ | refine Below.drew ?_)⟩
  cases c6 : within inn 0 200
  · rw [c0, c1, c2, c3, c4, c5, c6] at HF
    go_enter Tryz.func84, Tryz.ntmps84
    go_wp2_with (first | (go_at_call 136; refine (withinR_any _ _ _ _).mono ?_; rintro e w' ⟨rfl, rfl⟩) | (go_at_call 152; refine (spanR_any _ _ _ _ _).mono ?_; rintro e w' ⟨rfl, rfl⟩) | (go_at_call 77; refine (MarkR_any _ _ (by assumption)).mono ?_; rintro e w' ⟨rfl, rfl⟩) | (go_at_call 153; refine (NameR_any _ _ (by assumption)).mono ?_; rintro e w' ⟨rfl, rfl⟩))
    go_ret
    exact ⟨by rw [HF.out]; rfl, by repeat (first | exact Below.refl _ _ | refine Below.alloc ?_ (by simp <;> omega) _ | refine Below.setCell ?_ (by simp <;> omega) _ | refine Below.drew ?_)⟩
  cases c7 : (inn != pack)
  · rw [c0, c1, c2, c3, c4, c5, c6, c7] at HF
    go_enter Tryz.func84, Tryz.ntmps84
    go_wp2_with (first | (go_at_call 136; refine (withinR_any _ _ _ _).mono ?_; rintro e w' ⟨rfl, rfl⟩) | (go_at_call 152; refine (spanR_any _ _ _ _ _).mono ?_; rintro e w' ⟨rfl, rfl⟩) | (go_at_call 77; refine (MarkR_any _ _ (by assumption)).mono ?_; rintro e w' ⟨rfl, rfl⟩) | (go_at_call 153; refine (NameR_any _ _ (by assumption)).mono ?_; rintro e w' ⟨rfl, rfl⟩))
    go_ret
    exact ⟨by rw [HF.out]; rfl, by repeat (first | exact Below.refl _ _ | refine Below.alloc ?_ (by simp <;> omega) _ | refine Below.setCell ?_ (by simp <;> omega) _ | refine Below.drew ?_)⟩
  cases c8 : within pieces 1 20
  · rw [c0, c1, c2, c3, c4, c5, c6, c7, c8] at HF
    go_enter Tryz.func84, Tryz.ntmps84
    go_wp2_with (first | (go_at_call 136; refine (withinR_any _ _ _ _).mono ?_; rintro e w' ⟨rfl, rfl⟩) | (go_at_call 152; refine (spanR_any _ _ _ _ _).mono ?_; rintro e w' ⟨rfl, rfl⟩) | (go_at_call 77; refine (MarkR_any _ _ (by assumption)).mono ?_; rintro e w' ⟨rfl, rfl⟩) | (go_at_call 153; refine (NameR_any _ _ (by assumption)).mono ?_; rintro e w' ⟨rfl, rfl⟩))
    go_ret
    exact ⟨by rw [HF.out]; rfl, by repeat (first | exact Below.refl _ _ | refine Below.alloc ?_ (by simp <;> omega) _ | refine Below.setCell ?_ (by simp <;> omega) _ | refine Below.drew ?_)⟩
  cases c9 : within owner 1 40
  · rw [c0, c1, c2, c3, c4, c5, c6, c7, c8, c9] at HF
    go_enter Tryz.func84, Tryz.ntmps84
    go_wp2_with (first | (go_at_call 136; refine (withinR_any _ _ _ _).mono ?_; rintro e w' ⟨rfl, rfl⟩) | (go_at_call 152; refine (spanR_any _ _ _ _ _).mono ?_; rintro e w' ⟨rfl, rfl⟩) | (go_at_call 77; refine (MarkR_any _ _ (by assumption)).mono ?_; rintro e w' ⟨rfl, rfl⟩) | (go_at_call 153; refine (NameR_any _ _ (by assumption)).mono ?_; rintro e w' ⟨rfl, rfl⟩))
    go_ret
    exact ⟨by rw [HF.out]; rfl, by repeat (first | exact Below.refl _ _ | refine Below.alloc ?_ (by simp <;> omega) _ | refine Below.setCell ?_ (by simp <;> omega) _ | refine Below.drew ?_)⟩
  rw [c0, c1, c2, c3, c4, c5, c6, c7, c8, c9] at HF
  go_enter Tryz.func84, Tryz.ntmps84
  go_wp2_with (first | (go_at_call 136; refine (withinR_any _ _ _ _).mono ?_; rintro e w' ⟨rfl, rfl⟩) | (go_at_call 152; refine (spanR_any _ _ _ _ _).mono ?_; rintro e w' ⟨rfl, rfl⟩) | (go_at_call 77; refine (MarkR_any _ _ (by assumption)).mono ?_; rintro e w' ⟨rfl, rfl⟩) | (go_at_call 153; refine (NameR_any _ _ (by assumption)).mono ?_; rintro e w' ⟨rfl, rfl⟩))
  go_ret
  exact ⟨by rw [HF.out]; rfl, by repeat (first | exact Below.refl _ _ | refine Below.alloc ?_ (by simp <;> omega) _ | refine Below.setCell ?_ (by simp <;> omega) _ | refine Below.drew ?_)⟩

set_option maxRecDepth 100000 in
set_option maxHeartbeats 8000000 in
theorem formedR_0 (x : Paper) (w : World) (hm : x.mark.size ≤ maxLen) (hg : x.goods.size ≤ maxLen) (h : (within x.id 1 1000000 && within x.known 0 1000000) = true) (k1 : x.kind ≠ 1) (k2 : x.kind ≠ 2) (k3 : x.kind ≠ 3) :
    Calls Tryz.prog 84 #[.agg x.vals.toArray] w fun e w' => e = .returned (.bool (formed x)) ∧ Below w.heap.size w w' := by
  have HF : Hid (formed x = false) := by show _ = _; rw [formed, h, if_neg k1, if_neg k2, if_neg k3]; rfl
  have he := run_eq28 x (own1 x)
  generalize decide (x = own1 x) = q at he
  obtain ⟨id, known, kind, loss, pack, inn, mark, goods, lo, hi, pieces, owner, count, of⟩ := x
  simp only [Paper.vals, own1, Paper.zero] at he
  rw [Bool.and_eq_true] at h
  obtain ⟨h1, h2⟩ := h
  simp only at h1 h2 k1 k2 k3 hm hg
  have j1 : (kind == 1) = false := by simp [k1]
  have j2 : (kind == 2) = false := by simp [k2]
  have j3 : (kind == 3) = false := by simp [k3]
  clear k1 k2 k3
  show Calls Tryz.prog 84 #[.agg #[.int .i64 id, .int .i64 known, .int .u8 kind, .int .i64 loss, .int .i64 pack, .int .i64 inn, .string mark, .string goods, .int .i64 lo, .int .i64 hi, .int .i64 pieces, .int .i64 owner, .int .i64 count, .int .i64 of]] w _
  cases q
  all_goals
    go_enter Tryz.func84, Tryz.ntmps84
    go_wp2_with (first | (go_at_call 136; refine (withinR_any _ _ _ _).mono ?_; rintro e w' ⟨rfl, rfl⟩) | (go_at_call 152; refine (spanR_any _ _ _ _ _).mono ?_; rintro e w' ⟨rfl, rfl⟩) | (go_at_call 77; refine (MarkR_any _ _ (by assumption)).mono ?_; rintro e w' ⟨rfl, rfl⟩) | (go_at_call 153; refine (NameR_any _ _ (by assumption)).mono ?_; rintro e w' ⟨rfl, rfl⟩))
    go_ret
    exact ⟨by rw [HF.out]; rfl, by repeat (first | exact Below.refl _ _ | refine Below.alloc ?_ (by simp <;> omega) _ | refine Below.setCell ?_ (by simp <;> omega) _ | refine Below.drew ?_)⟩

theorem formedR_any (x : Paper) (w : World) (hm : x.mark.size ≤ maxLen) (hg : x.goods.size ≤ maxLen) :
    Calls Tryz.prog 84 #[.agg x.vals.toArray] w fun e w' => e = .returned (.bool (formed x)) ∧ Below w.heap.size w w' := by
  cases h : (within x.id 1 1000000 && within x.known 0 1000000)
  · exact formedR_bad x w h
  · by_cases k1 : x.kind = 1
    · exact formedR_1 x w hm hg h k1
    · by_cases k2 : x.kind = 2
      · exact formedR_2 x w h k2
      · by_cases k3 : x.kind = 3
        · exact formedR_3 x w h k3
        · exact formedR_0 x w hm hg h k1 k2 k3

end Go.Proofs.YtpffpofdceppiaaGreatDoor
