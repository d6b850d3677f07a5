/- A part of the proof that laganlaw01.CargoTexts answers true at every input and leaves its arguments as they were; the conditions are those of the given row and card, nothing else. -/
import Derived.Test.YtpffpofdceppiaaGreatDoorKA3
import Derived.IntWalk
import Derived.Laws.AppendOwnNone
import Derived.Lib.SliceRun
import Derived.Deep.DeepMust
import Derived.Deep.AppendLies
import Derived.Deep.RegionLaw
import Derived.Maps.AppendAt
namespace Go.Proofs.YtpffpofdceppiaaGreatDoor
open Go.RowKit Go.Shelf

theorem follows1_pred (n : Int) (B : Nat) (w : World) (hB : B < w.heap.size) (hc : w.cell? ⟨B, 0, none⟩ = some (.int .i64 n)) :
    PredB 159 #[.pointer (some ⟨B, 0, none⟩)] (fun y => y.id == n) w := fun W y hb => by
  have c0 : W.cell? ⟨B, 0, none⟩ = some (.int .i64 n) := (hb.cell (p := ⟨B, 0, none⟩) hB).trans hc
  have hBW : B < W.heap.size := Nat.lt_of_lt_of_le hB hb.size
  have hne : B ≠ W.heap.size := by omega
  show Calls Tryz.prog 159 #[.agg #[.int .i64 y.id, .int .i64 y.known, .int .u8 y.kind, .int .i64 y.loss, .int .i64 y.pack, .int .i64 y.inn, .string y.mark, .string y.goods, .int .i64 y.lo, .int .i64 y.hi, .int .i64 y.pieces, .int .i64 y.owner, .int .i64 y.count, .int .i64 y.of], .pointer (some ⟨B, 0, none⟩)] W _
  clear hc hb
  go_enter Tryz.func159, Tryz.ntmps159
  go_wp2
  go_ret
  exact ⟨rfl, (Below.refl _ _).alloc (Nat.le_refl _) _⟩

theorem follows2_pred (n : Int) (B : Nat) (w : World) (hB : B < w.heap.size) (hc : w.cell? ⟨B, 13, none⟩ = some (.int .i64 n)) :
    PredB 160 #[.pointer (some ⟨B, 0, none⟩)] (fun y => y.id == n && y.kind != 3) w := fun W y hb => by
  have c0 : W.cell? ⟨B, 13, none⟩ = some (.int .i64 n) := (hb.cell (p := ⟨B, 13, none⟩) hB).trans hc
  have hBW : B < W.heap.size := Nat.lt_of_lt_of_le hB hb.size
  have hne : B ≠ W.heap.size := by omega
  show Calls Tryz.prog 160 #[.agg #[.int .i64 y.id, .int .i64 y.known, .int .u8 y.kind, .int .i64 y.loss, .int .i64 y.pack, .int .i64 y.inn, .string y.mark, .string y.goods, .int .i64 y.lo, .int .i64 y.hi, .int .i64 y.pieces, .int .i64 y.owner, .int .i64 y.count, .int .i64 y.of], .pointer (some ⟨B, 0, none⟩)] W _
  clear hc hb
  cases h1 : (y.id == n) <;> cases h2 : (y.kind != 3)
  all_goals
    go_enter Tryz.func160, Tryz.ntmps160
    go_wp2
    go_ret
    exact ⟨by simp only [h1, h2]; rfl, (Below.refl _ _).alloc (Nat.le_refl _) _⟩

theorem follows3_pred (n : Int) (B : Nat) (w : World) (hB : B < w.heap.size) (hc : w.cell? ⟨B, 13, none⟩ = some (.int .i64 n)) :
    PredB 161 #[.pointer (some ⟨B, 0, none⟩)] (fun y => y.kind == 3 && y.of == n) w := fun W y hb => by
  have c0 : W.cell? ⟨B, 13, none⟩ = some (.int .i64 n) := (hb.cell (p := ⟨B, 13, none⟩) hB).trans hc
  have hBW : B < W.heap.size := Nat.lt_of_lt_of_le hB hb.size
  have hne : B ≠ W.heap.size := by omega
  show Calls Tryz.prog 161 #[.agg #[.int .i64 y.id, .int .i64 y.known, .int .u8 y.kind, .int .i64 y.loss, .int .i64 y.pack, .int .i64 y.inn, .string y.mark, .string y.goods, .int .i64 y.lo, .int .i64 y.hi, .int .i64 y.pieces, .int .i64 y.owner, .int .i64 y.count, .int .i64 y.of], .pointer (some ⟨B, 0, none⟩)] W _
  clear hc hb
  cases h1 : (y.kind == 3) <;> cases h2 : (y.of == n)
  all_goals
    go_enter Tryz.func161, Tryz.ntmps161
    go_wp2
    go_ret
    exact ⟨by simp only [h1, h2]; rfl, (Below.refl _ _).alloc (Nat.le_refl _) _⟩

end Go.Proofs.YtpffpofdceppiaaGreatDoor

namespace Go.Proofs.YtpffpofdceppiaaGreatDoor
open Go.RowKit Go.Shelf

def early (l : List Paper) (x : Paper) : Bool := match l.getLast? with
  | some y => decide (x.known < y.known)
  | none => false

def follows (l : List Paper) (x : Paper) : Int :=
  if 300 ≤ l.length then 2 else if formed x = false then 1 else if l.any (fun y => y.id == x.id) then 6 else if early l x then 7
  else if (x.kind != 3) = true then 0 else if l.any (fun y => y.id == x.of && y.kind != 3) = false then 5 else if l.any (fun y => y.kind == 3 && y.of == x.of) then 6 else 0

/-- The box of a paper: the block that a by-value paper lies in. -/
def boxOf (x : Paper) : Obj := .cells #[.int .i64 x.id, .int .i64 x.known, .int .u8 x.kind, .int .i64 x.loss, .int .i64 x.pack, .int .i64 x.inn, .string x.mark, .string x.goods, .int .i64 x.lo, .int .i64 x.hi, .int .i64 x.pieces, .int .i64 x.owner, .int .i64 x.count, .int .i64 x.of] 28

/-- What stands behind a call, of a box laid ahead of it. -/
theorem box_cells {w w1 : World} (x : Paper) (hb : Below (w.alloc (boxOf x)).heap.size (w.alloc (boxOf x)) w1) :
    w1.cell? ⟨w.heap.size, 0, none⟩ = some (.int .i64 x.id) ∧ w1.cell? ⟨w.heap.size, 1, none⟩ = some (.int .i64 x.known) ∧ w1.cell? ⟨w.heap.size, 2, none⟩ = some (.int .u8 x.kind) ∧ w1.cell? ⟨w.heap.size, 13, none⟩ = some (.int .i64 x.of) ∧
    w.heap.size < w1.heap.size ∧ Below w.heap.size w w1 := by
  have h : ∀ i, w1.cell? ⟨w.heap.size, i, none⟩ = (w.alloc (boxOf x)).cell? ⟨w.heap.size, i, none⟩ := fun i => hb.cell (p := ⟨w.heap.size, i, none⟩) (by simp)
  refine ⟨(h 0).trans ?_, (h 1).trans ?_, (h 2).trans ?_, (h 13).trans ?_, ?_, ((Below.refl _ w).alloc (Nat.le_refl _) _).trans (hb.mono (by simp))⟩
  all_goals first | (simp [boxOf]; done) | (have := hb.size; simp at this; omega)

set_option maxRecDepth 100000 in
set_option maxHeartbeats 4000000 in
theorem follows_any (v : Value) (l : List Paper) (x : Paper) (w : World) (hv : PapersAt w v l) (hn : l.length ≤ 1000) (hx : okS x) :
    Calls Tryz.prog 91 #[v, .agg x.vals.toArray] w fun e w' => e = .returned (.int .i64 (follows l x)) ∧ Below w.heap.size w w' := by
  have hm : x.mark.size ≤ maxLen := by have := hx.1; unfold maxLen; omega
  have hg : x.goods.size ≤ maxLen := by have := hx.2; unfold maxLen; omega
  have hF : Hid (follows l x = if 300 ≤ l.length then 2 else if formed x = false then 1 else if l.any (fun y => y.id == x.id) then 6 else if early l x then 7
    else if (x.kind != 3) = true then 0 else if l.any (fun y => y.id == x.of && y.kind != 3) = false then 5 else if l.any (fun y => y.kind == 3 && y.of == x.of) then 6 else 0) := by show _ = _; rfl
  obtain ⟨r, hr⟩ : ∃ r, r = follows l x := ⟨_, rfl⟩
  rw [← hr] at hF ⊢
  clear hr
  have hv0 := hv
  obtain ⟨a, c, rfl, h1, h2, h3⟩ := hv
  have hf := formed_any x
  have hbox : (w.alloc (boxOf x)) = w.alloc (.cells #[.int .i64 x.id, .int .i64 x.known, .int .u8 x.kind, .int .i64 x.loss, .int .i64 x.pack, .int .i64 x.inn, .string x.mark, .string x.goods, .int .i64 x.lo, .int .i64 x.hi, .int .i64 x.pieces, .int .i64 x.owner, .int .i64 x.count, .int .i64 x.of] 28) := rfl
  show Calls Tryz.prog 91 #[.slice a l.length c, .agg #[.int .i64 x.id, .int .i64 x.known, .int .u8 x.kind, .int .i64 x.loss, .int .i64 x.pack, .int .i64 x.inn, .string x.mark, .string x.goods, .int .i64 x.lo, .int .i64 x.hi, .int .i64 x.pieces, .int .i64 x.owner, .int .i64 x.count, .int .i64 x.of]] w _
  obtain ⟨q1, hq1⟩ : ∃ q, q = hav (fun y => y.id == x.id) l := ⟨_, rfl⟩
  obtain ⟨q2, hq2⟩ : ∃ q, q = hav (fun y => y.id == x.of && y.kind != 3) l := ⟨_, rfl⟩
  obtain ⟨q3, hq3⟩ : ∃ q, q = hav (fun y => y.kind == 3 && y.of == x.of) l := ⟨_, rfl⟩
  have e1 : Hid (decide (0 ≤ q1) = l.any (fun y => y.id == x.id)) := by show _ = _; rw [hq1]; exact hav_nonneg _ _
  have e2 : Hid (decide (0 ≤ q2) = l.any (fun y => y.id == x.of && y.kind != 3)) := by show _ = _; rw [hq2]; exact hav_nonneg _ _
  have e3 : Hid (decide (0 ≤ q3) = l.any (fun y => y.kind == 3 && y.of == x.of)) := by show _ = _; rw [hq3]; exact hav_nonneg _ _
  have s1 := fun w1 (hb : Below w.heap.size w w1) lb hp => having_any _ l (fun y => y.id == x.id) 159 lb w1 (hv0.below hb) hn (enters_of Tryz.func159 (by kernel_rfl) rfl) hp
  have s2 := fun w1 (hb : Below w.heap.size w w1) lb hp => having_any _ l (fun y => y.id == x.of && y.kind != 3) 160 lb w1 (hv0.below hb) hn (enters_of Tryz.func160 (by kernel_rfl) rfl) hp
  have s3 := fun w1 (hb : Below w.heap.size w w1) lb hp => having_any _ l (fun y => y.kind == 3 && y.of == x.of) 161 lb w1 (hv0.below hb) hn (enters_of Tryz.func161 (by kernel_rfl) rfl) hp
  rw [← hq1] at s1; rw [← hq2] at s2; rw [← hq3] at s3
  clear hq1 hq2 hq3
  have S1 := Lib.hid s1; have S2 := Lib.hid s2; have S3 := Lib.hid s3; have HFm := Lib.hid hf
  clear s1 s2 s3 hf
  have H3 := Lib.hid h3
  clear h3 hbox hv0
  go_enter Tryz.func91, Tryz.ntmps91
  go_wp2_with fail
  · go_ret
    have g1 : 300 ≤ l.length := by omega
    exact ⟨by rw [hF.out, if_pos g1]; rfl, (Below.refl _ _).alloc (Nat.le_refl _) _⟩
  have g1 : ¬ 300 ≤ l.length := by omega
  refine (HFm.out _ hm hg).mono ?_
  rintro e w1 ⟨rfl, hb1⟩
  have hbb := box_cells x hb1
  clear hb1
  obtain ⟨k0, k1, k2, k13, hlt, hB1⟩ := hbb
  cases g2 : formed x
  · go_wp2_with fail
    go_ret
    exact ⟨by rw [hF.out, if_neg g1, if_pos g2]; rfl, hB1⟩
  have g2' : ¬ formed x = false := by rw [g2]; simp
  have G2 := Lib.hid g2'
  clear g2'
  go_wp2_with fail
  refine (S1.out _ hB1 _ (follows1_pred _ _ _ hlt k0)).mono ?_
  rintro e w2 ⟨rfl, hb2⟩
  have B2 := hB1.trans (hb2.mono (by omega))
  replace k1 := (hb2.cell (p := ⟨w.heap.size, 1, none⟩) hlt).trans k1
  replace k2 := (hb2.cell (p := ⟨w.heap.size, 2, none⟩) hlt).trans k2
  replace k13 := (hb2.cell (p := ⟨w.heap.size, 13, none⟩) hlt).trans k13
  have hlt2 := Nat.lt_of_lt_of_le hlt hb2.size
  clear k0 hb2 hB1 hlt
  by_cases g3 : 0 ≤ q1
  · have E := e1.out
    rw [decide_eq_true g3] at E
    have E' := Lib.hid E.symm; clear E
    go_wp2_with fail
    go_ret
    exact ⟨by rw [hF.out, if_neg g1, if_neg G2.out, if_pos E'.out]; rfl, B2⟩
  have E1 : Hid (¬ l.any (fun y => y.id == x.id) = true) := by show ¬ _; rw [← e1.out, decide_eq_false g3]; simp
  clear e1
  go_wp2_with fail
  by_cases hl : 0 < l.length
  · obtain ⟨b, off, rfl, hbs, hcell⟩ := H3.out (by omega)
    have c1 := (B2.cell (p := ⟨b, off + (l.length - 1) * 14 + 1, none⟩) hbs).trans (hcell (l.length - 1) (by omega) 1 _ rfl)
    clear hcell
    have HE : Hid (early l x = decide (x.known < (l[l.length - 1]'(by omega)).known)) := by
      show _ = _
      rw [early, List.getLast?_eq_getElem?, List.getElem?_eq_getElem (by omega)]
    generalize (l[l.length - 1]'(by omega)).known = kn at c1 HE
    have hl' : 0 < (l.length : Int) := by omega
    have iw : IntKind.i64.wrap ((l.length : Int) - 1) = (l.length : Int) - 1 := IntWalk.i64_in _ (by omega)
    have i0 : (0 : Int) ≤ (l.length : Int) - 1 := by omega
    have i1 : ((l.length : Int) - 1) < (l.length : Int) := by omega
    have it : ((l.length : Int) - 1).toNat = l.length - 1 := by omega
    go_quiet (fail)
    clear iw it i0 i1 c1
    by_cases g4 : x.known < kn
    · go_wp2_with fail
      go_ret
      exact ⟨by rw [hF.out, if_neg g1, if_neg G2.out, if_neg E1.out, if_pos (by rw [HE.out]; simpa using g4)]; rfl, below_drewN B2 _⟩
    · have E4 : Hid (¬ early l x = true) := by show ¬ _; rw [HE.out]; simpa using g4
      clear HE
      cases g5 : (x.kind != 3)
      · go_wp2_with fail
        have hlt3 : w.heap.size < (w2.drewN nq).heap.size := hlt2
        have B3 : Below w.heap.size w (w2.drewN nq) := below_drewN B2 nq
        have k3 : (w2.drewN nq).cell? ⟨w.heap.size, 13, none⟩ = some (.int .i64 x.of) := k13
        clear k13 hlt2 B2
        generalize w2.drewN nq = w3 at *
        refine (S2.out _ B3 _ (follows2_pred _ _ _ hlt3 k3)).mono ?_
        rintro e w4 ⟨rfl, hb4⟩
        have B4 := B3.trans (hb4.mono (by omega))
        have k4 := (hb4.cell (p := ⟨w.heap.size, 13, none⟩) hlt3).trans k3
        have hlt4 := Nat.lt_of_lt_of_le hlt3 hb4.size
        clear k3 hb4 B3 hlt3
        have g5' : ¬ (x.kind != 3) = true := by rw [g5]; simp
        have G5 := Lib.hid g5'; clear g5'
        by_cases g6 : q2 < 0
        · have E5 : Hid (l.any (fun y => y.id == x.of && y.kind != 3) = false) := by show _ = _; rw [← e2.out]; simpa using g6
          go_wp2_with fail
          go_ret
          exact ⟨by rw [hF.out, if_neg g1, if_neg G2.out, if_neg E1.out, if_neg E4.out, if_neg G5.out, if_pos E5.out]; rfl, B4⟩
        · have E5 : Hid (¬ l.any (fun y => y.id == x.of && y.kind != 3) = false) := by show ¬ _; rw [← e2.out]; simpa using g6
          go_wp2_with fail
          refine (S3.out _ B4 _ (follows3_pred _ _ _ hlt4 k4)).mono ?_
          rintro e w5 ⟨rfl, hb5⟩
          have B5 := B4.trans (hb5.mono (by omega))
          clear hb5 B4 k4
          by_cases g7 : 0 ≤ q3
          · have E7 : Hid (l.any (fun y => y.kind == 3 && y.of == x.of) = true) := by show _ = _; rw [← e3.out]; simpa using g7
            go_wp2_with fail
            go_ret
            exact ⟨by rw [hF.out, if_neg g1, if_neg G2.out, if_neg E1.out, if_neg E4.out, if_neg G5.out, if_neg E5.out, if_pos E7.out]; rfl, B5⟩
          · have E7 : Hid (¬ l.any (fun y => y.kind == 3 && y.of == x.of) = true) := by show ¬ _; rw [← e3.out]; simpa using g7
            go_wp2_with fail
            go_ret
            exact ⟨by rw [hF.out, if_neg g1, if_neg G2.out, if_neg E1.out, if_neg E4.out, if_neg G5.out, if_neg E5.out, if_neg E7.out]; rfl, B5⟩
      · go_wp2_with fail
        go_ret
        exact ⟨by rw [hF.out, if_neg g1, if_neg G2.out, if_neg E1.out, if_neg E4.out, if_pos g5]; rfl, below_drewN B2 _⟩
  · have E4 : Hid (¬ early l x = true) := by
      show ¬ _
      have : l = [] := List.length_eq_zero_iff.1 (by omega)
      rw [this]; simp [early]
    have hd : decide (0 < (l.length : Int)) = false := decide_eq_false (by omega)
    go_quiet (fail)
    clear hd
    cases g5 : (x.kind != 3)
    · go_wp2_with fail
      have hlt3 : w.heap.size < (w2.drewN nq).heap.size := hlt2
      have B3 : Below w.heap.size w (w2.drewN nq) := below_drewN B2 nq
      have k3 : (w2.drewN nq).cell? ⟨w.heap.size, 13, none⟩ = some (.int .i64 x.of) := k13
      clear k13 hlt2 B2
      generalize w2.drewN nq = w3 at *
      refine (S2.out _ B3 _ (follows2_pred _ _ _ hlt3 k3)).mono ?_
      rintro e w4 ⟨rfl, hb4⟩
      have B4 := B3.trans (hb4.mono (by omega))
      have k4 := (hb4.cell (p := ⟨w.heap.size, 13, none⟩) hlt3).trans k3
      have hlt4 := Nat.lt_of_lt_of_le hlt3 hb4.size
      clear k3 hb4 B3 hlt3
      have g5' : ¬ (x.kind != 3) = true := by rw [g5]; simp
      have G5 := Lib.hid g5'; clear g5'
      by_cases g6 : q2 < 0
      · have E5 : Hid (l.any (fun y => y.id == x.of && y.kind != 3) = false) := by show _ = _; rw [← e2.out]; simpa using g6
        go_wp2_with fail
        go_ret
        exact ⟨by rw [hF.out, if_neg g1, if_neg G2.out, if_neg E1.out, if_neg E4.out, if_neg G5.out, if_pos E5.out]; rfl, B4⟩
      · have E5 : Hid (¬ l.any (fun y => y.id == x.of && y.kind != 3) = false) := by show ¬ _; rw [← e2.out]; simpa using g6
        go_wp2_with fail
        refine (S3.out _ B4 _ (follows3_pred _ _ _ hlt4 k4)).mono ?_
        rintro e w5 ⟨rfl, hb5⟩
        have B5 := B4.trans (hb5.mono (by omega))
        clear hb5 B4 k4
        by_cases g7 : 0 ≤ q3
        · have E7 : Hid (l.any (fun y => y.kind == 3 && y.of == x.of) = true) := by show _ = _; rw [← e3.out]; simpa using g7
          go_wp2_with fail
          go_ret
          exact ⟨by rw [hF.out, if_neg g1, if_neg G2.out, if_neg E1.out, if_neg E4.out, if_neg G5.out, if_neg E5.out, if_pos E7.out]; rfl, B5⟩
        · have E7 : Hid (¬ l.any (fun y => y.kind == 3 && y.of == x.of) = true) := by show ¬ _; rw [← e3.out]; simpa using g7
          go_wp2_with fail
          go_ret
          exact ⟨by rw [hF.out, if_neg g1, if_neg G2.out, if_neg E1.out, if_neg E4.out, if_neg G5.out, if_neg E5.out, if_neg E7.out]; rfl, B5⟩
    · go_wp2_with fail
      go_ret
      exact ⟨by rw [hF.out, if_neg g1, if_neg G2.out, if_neg E1.out, if_neg E4.out, if_pos g5]; rfl, below_drewN B2 _⟩

end Go.Proofs.YtpffpofdceppiaaGreatDoor

namespace Go.Proofs.YtpffpofdceppiaaGreatDoor
open Go.RowKit Go.Shelf

/-- From a place on, the first paper that is refused. -/
def checkFrom (l : List Paper) (i : Nat) : Int × Int :=
  if h : i < l.length then (if follows (l.take i) l[i] ≠ 0 then ((i : Int), follows (l.take i) l[i]) else checkFrom l (i + 1)) else (0, 0)
 termination_by l.length - i

def check (l : List Paper) : Int × Int := checkFrom l 0

/-- All cells of a box. -/
theorem box_all (w : World) (x : Paper) : (w.alloc (boxOf x)).cell? ⟨w.heap.size, 0, none⟩ = some (.int .i64 x.id) ∧ (w.alloc (boxOf x)).cell? ⟨w.heap.size, 1, none⟩ = some (.int .i64 x.known) ∧ (w.alloc (boxOf x)).cell? ⟨w.heap.size, 2, none⟩ = some (.int .u8 x.kind) ∧ (w.alloc (boxOf x)).cell? ⟨w.heap.size, 3, none⟩ = some (.int .i64 x.loss) ∧ (w.alloc (boxOf x)).cell? ⟨w.heap.size, 4, none⟩ = some (.int .i64 x.pack) ∧ (w.alloc (boxOf x)).cell? ⟨w.heap.size, 5, none⟩ = some (.int .i64 x.inn) ∧ (w.alloc (boxOf x)).cell? ⟨w.heap.size, 6, none⟩ = some (.string x.mark) ∧ (w.alloc (boxOf x)).cell? ⟨w.heap.size, 7, none⟩ = some (.string x.goods) ∧ (w.alloc (boxOf x)).cell? ⟨w.heap.size, 8, none⟩ = some (.int .i64 x.lo) ∧ (w.alloc (boxOf x)).cell? ⟨w.heap.size, 9, none⟩ = some (.int .i64 x.hi) ∧ (w.alloc (boxOf x)).cell? ⟨w.heap.size, 10, none⟩ = some (.int .i64 x.pieces) ∧ (w.alloc (boxOf x)).cell? ⟨w.heap.size, 11, none⟩ = some (.int .i64 x.owner) ∧ (w.alloc (boxOf x)).cell? ⟨w.heap.size, 12, none⟩ = some (.int .i64 x.count) ∧ (w.alloc (boxOf x)).cell? ⟨w.heap.size, 13, none⟩ = some (.int .i64 x.of) := by
  simp [boxOf]

set_option maxRecDepth 100000 in
set_option maxHeartbeats 4000000 in
theorem Check_any (v : Value) (l : List Paper) (w : World) (hv : PapersAt w v l) (hn : l.length ≤ 1000) (hs : ∀ x ∈ l, okS x) :
    Calls Tryz.prog 28 #[v] w fun e w' => e = .returned (.tuple #[.int .i64 (check l).1, .int .i64 (check l).2]) ∧ Below w.heap.size w w' := by
  obtain ⟨a, c, rfl, h1, h2, h3⟩ := hv
  have h2' := h2
  unfold maxLen at h2'
  go_enter Tryz.func28, Tryz.ntmps28
  go_wp2
  go_loopw [9] (fun s9 wr => ∃ kk : Nat, kk ≤ l.length ∧ s9 = .int .i64 kk ∧ Below w.heap.size w wr ∧ Hid (check l = checkFrom l kk)) (fun s9 _ => l.length - (intOf s9).toNat)
  case atStart => exact ⟨0, Nat.zero_le _, rfl, Below.refl _ _, rfl⟩
  case round =>
    obtain ⟨kk, hkk, rfl, hb, A⟩ := hrel
    by_cases hlt : kk < l.length
    · obtain ⟨b, off, rfl, hbs, hcell⟩ := h3 (by omega)
      obtain ⟨c0, c1, c2, c3, c4, c5, c6, c7, c8, c9, c10, c11, c12, c13⟩ := paper_cells (w := wr) (b := b) (o := off + kk * 14) l[kk] (fun i u hu => (hb.cell (p := ⟨b, off + kk * 14 + i, none⟩) hbs).trans (hcell kk hlt i u hu))
      have hrow : Hid (PapersAt w (.slice (some ⟨b, off, none⟩) kk kk) (l.take kk)) := Rows.take kk (by omega) (by omega) h1 hbs hcell
      have hx : okS l[kk] := hs _ (List.getElem_mem _)
      have HC : Hid (checkFrom l kk = if follows (l.take kk) l[kk] ≠ 0 then ((kk : Int), follows (l.take kk) l[kk]) else checkFrom l (kk + 1)) := by
        show _ = _
        rw [checkFrom, dif_pos hlt]
      have hlk : (l.take kk).length ≤ 1000 := by simp; omega
      clear hcell h3 hs
      generalize l[kk] = x at *
      have HFo := Lib.hid (fun W (h : Below w.heap.size w W) => follows_any _ (l.take kk) x W (hrow.out.below h) hlk hx)
      generalize follows (l.take kk) x = r at *
      have HFo : Hid (∀ W, Below w.heap.size w W → Calls Tryz.prog 91 #[.slice (some ⟨b, off, none⟩) kk kk, .agg #[.int .i64 x.id, .int .i64 x.known, .int .u8 x.kind, .int .i64 x.loss, .int .i64 x.pack, .int .i64 x.inn, .string x.mark, .string x.goods, .int .i64 x.lo, .int .i64 x.hi, .int .i64 x.pieces, .int .i64 x.owner, .int .i64 x.count, .int .i64 x.of]] W fun e w' => e = .returned (.int .i64 r) ∧ Below W.heap.size W w') := HFo
      clear hrow hlk hx
      have hbx := box_all wr x
      have hbW : Below w.heap.size w (wr.alloc (boxOf x)) := hb.alloc hb.size _
      have hfold : wr.alloc (.cells #[.int .i64 x.id, .int .i64 x.known, .int .u8 x.kind, .int .i64 x.loss, .int .i64 x.pack, .int .i64 x.inn, .string x.mark, .string x.goods, .int .i64 x.lo, .int .i64 x.hi, .int .i64 x.pieces, .int .i64 x.owner, .int .i64 x.count, .int .i64 x.of] 28) = wr.alloc (boxOf x) := rfl
      go_wp2_with fail
      clear hfold
      generalize wr.alloc (boxOf x) = W1 at hbx hbW ⊢
      clear c0 c1 c2 c3 c4 c5 c6 c7 c8 c9 c10 c11 c12 c13
      obtain ⟨c0, c1, c2, c3, c4, c5, c6, c7, c8, c9, c10, c11, c12, c13⟩ := hbx
      have i0 : (0 : Int) ≤ (kk : Int) := by omega
      have i1 : (kk : Int) ≤ (c : Int) := by omega
      go_still_tail 5, (by kernel_rfl)
      change wpList _ _ _ _ _ W1.drew
      have hbD : Below w.heap.size w W1.drew := hbW.drew
      clear hbW c0 c1 c2 c3 c4 c5 c6 c7 c8 c9 c10 c11 c12 c13 i0 i1
      generalize W1.drew = W2 at hbD ⊢
      go_wp2_with fail
      refine (HFo.out _ hbD).mono ?_
      rintro e W3 ⟨rfl, hb3⟩
      have hB : Below w.heap.size w W3 := hbD.trans (hb3.mono hbD.size)
      clear hb3 hbD hb
      cases g : (r != 0)
      · have hr0 : Hid (check l = checkFrom l (kk + 1)) := by
          show _ = _
          rw [A.out, HC.out, if_neg (by simpa using g)]
        clear A HC HFo
        go_wp2_with fail
        go_roundw
        case rel => exact ⟨kk + 1, by omega, by go_num, hB, hr0⟩
        case measure => simp [intOf]; omega
      · have hr0 : Hid (check l = ((kk : Int), r)) := by
          show _ = _
          rw [A.out, HC.out, if_pos (by simpa using g)]
        clear A HC HFo
        go_wp2_with fail
        go_ret2
        exact ⟨by rw [hr0.out]; rfl, hB⟩
    · obtain rfl : kk = l.length := by omega
      clear h3 hs
      go_wp2
      go_ret2
      exact ⟨by rw [A.out, checkFrom, dif_neg (by omega)]; rfl, hb⟩

end Go.Proofs.YtpffpofdceppiaaGreatDoor

namespace Go.Proofs.YtpffpofdceppiaaGreatDoor
open Go.RowKit Go.Shelf

theorem flat_get {α : Type} {enc : α → List Value} {k : Nat} (hk : ∀ x, (enc x).length = k) (l : List α) (j i : Nat) (hj : j < l.length) (hi : i < k) : (l.flatMap enc)[j * k + i]? = (enc l[j])[i]? := by
  induction l generalizing j with
  | nil => simp at hj
  | cons x l ih =>
    rw [List.flatMap_cons]
    cases j with
    | zero =>
      rw [List.getElem?_append_left (by rw [hk]; omega)]
      simp
    | succ j =>
      rw [List.getElem?_append_right (by rw [hk, Nat.succ_mul]; omega), hk, show (j + 1) * k + i - k = j * k + i by rw [Nat.succ_mul]; omega]
      exact ih j (by simpa using hj)

theorem flat_len {α : Type} {enc : α → List Value} {k : Nat} (hk : ∀ x, (enc x).length = k) (l : List α) : (l.flatMap enc).length = l.length * k := by
  induction l with
  | nil => simp
  | cons x l ih => rw [List.flatMap_cons, List.length_append, hk, ih, List.length_cons, Nat.succ_mul]; omega

/-- A row that is owned holds the list. -/
theorem Rows.of_owns {α : Type} {enc : α → List Value} {k base : Nat} {e : TypeId} {w : World} {v : Value} {l : List α} (hk : ∀ x, (enc x).length = k) (h : w.ownsRow base e k v l.length (l.flatMap enc)) : Rows enc k w v l := by
  obtain ⟨h1, h2⟩ := h
  rcases h2 with ⟨rfl, h0⟩ | ⟨g, cap, cur, rfl, hg, hh, hn, hc, hs, ht⟩
  · exact ⟨none, 0, by rw [h0], by omega, by unfold maxLen; omega, fun h => absurd h (by omega)⟩
  · refine ⟨some ⟨g, 0, none⟩, cap, rfl, hn, hc, fun _ => ⟨g, 0, rfl, (Array.getElem?_eq_some_iff.1 hh).1, fun j hj i u hu => ?_⟩⟩
    have hi : i < k := by
      have := (List.getElem?_eq_some_iff.1 hu).1
      rwa [hk] at this
    have h3 : (l.flatMap enc)[j * k + i]? = some u := by rw [flat_get hk l j i hj hi]; exact hu
    rw [← ht, List.getElem?_take_of_lt (by
      calc j * k + i < j * k + k := by omega
        _ = (j + 1) * k := by rw [Nat.succ_mul]
        _ ≤ l.length * k := Nat.mul_le_mul_right k hj)] at h3
    simp only [World.cell?, hh, Nat.zero_add]
    simpa using h3

/-- The cells of a list, one behind the other. -/
theorem Rows.flat {α : Type} {enc : α → List Value} {k b off : Nat} {w : World} {l : List α} (hk : ∀ x, (enc x).length = k) (hcell : ∀ j (h : j < l.length) i u, (enc l[j])[i]? = some u → w.cell? ⟨b, off + j * k + i, none⟩ = some u) :
    ∀ j u, (l.flatMap enc)[j]? = some u → w.cell? ((⟨b, off, none⟩ : Addr).add j) = some u := by
  intro j u hu
  rw [Addr.add_lit]
  have hjl : j < l.length * k := by
    have := (List.getElem?_eq_some_iff.1 hu).1
    rwa [flat_len hk] at this
  have hk0 : 0 < k := Nat.pos_of_ne_zero fun h => by simp [h] at hjl
  have hd : j / k < l.length := (Nat.div_lt_iff_lt_mul hk0).2 hjl
  have hm : j % k < k := Nat.mod_lt _ hk0
  have hj : j / k * k + j % k = j := by rw [Nat.mul_comm]; exact Nat.div_add_mod j k
  have := hcell (j / k) hd (j % k) u (by rw [← flat_get hk l _ _ hd hm, hj]; exact hu)
  rw [show off + j = off + j / k * k + j % k by omega]
  exact this

theorem Tryz.info28 : (Tryz.prog.info? 28).map (fun i => (i.zero, i.size, i.bytes)) = some (some (.agg Paper.zero.vals.toArray), 14, 128) := by kernel_rfl
theorem Tryz.info3 : (Tryz.prog.info? 3).map (fun i => (i.zero, i.size, i.bytes)) = some (some (.int .i64 0), 1, 8) := by kernel_rfl

theorem vals_len (x : Paper) : x.vals.length = 14 := rfl
theorem vals_one (l : List Paper) : ∀ u ∈ l.flatMap Paper.vals, u.oneCell' = true := by
  intro u hu
  rw [List.mem_flatMap] at hu
  obtain ⟨x, _, hx⟩ := hu
  simp only [Paper.vals, List.mem_cons, List.mem_nil_iff, or_false] at hx
  rcases hx with rfl | rfl | rfl | rfl | rfl | rfl | rfl | rfl | rfl | rfl | rfl | rfl | rfl | rfl <;> rfl

set_option maxRecDepth 100000 in
set_option maxHeartbeats 1000000 in
/-- slices.Clone of papers: the same list in memory of the call's own. -/
theorem Clone_any (v : Value) (l : List Paper) (w : World) (hv : PapersAt w v l) (hn : l.length ≤ 1000) :
    Calls Tryz.prog 93 #[v] w fun e w' => ∃ v', e = .returned v' ∧ w'.ownsRow w.heap.size 28 14 v' l.length (l.flatMap Paper.vals) ∧ Below w.heap.size w w' := by
  obtain ⟨a, c, rfl, h1, h2, h3⟩ := hv
  obtain ⟨i0, hi, hz0, hz1, hz2⟩ := info_parts Tryz.info28
  have hq := fun (a : Option Addr) (n c : Nat) (w : World) => Lib.run_eql_slice_nil (P := Tryz.prog) w 30 28 a n c 0 0 Tryz.underlying30
  cases a with
  | none =>
    have hc : c = 0 := by
      rcases Nat.eq_zero_or_pos c with h | h
      · exact h
      · obtain ⟨b, off, h, _⟩ := h3 h
        cases h
    subst hc
    have hl : l = [] := List.length_eq_zero_iff.1 (by omega)
    subst hl
    clear h3
    go_enter Tryz.func93, Tryz.ntmps93
    go_wp2_with fail
    go_ret
    exact ⟨_, rfl, World.ownsRow_nil _ _ _ _, Below.refl _ _⟩
  | some ad =>
    have hcells : ∀ j u, (l.flatMap Paper.vals)[j]? = some u → w.cell? (ad.add j) = some u := by
      rcases Nat.eq_zero_or_pos c with h | h
      · have hl : l = [] := List.length_eq_zero_iff.1 (by omega)
        subst hl
        intro j u hu
        simp at hu
      · obtain ⟨b, off, h', _, hcell⟩ := h3 h
        cases h'
        exact Rows.flat vals_len hcell
    have hblk : 0 < c → ad.block < w.heap.size := fun h => by
      obtain ⟨b, off, h', hb, _⟩ := h3 h
      cases h'
      exact hb
    have HC := Lib.hid hcells
    have HB := Lib.hid hblk
    have HL := Lib.hid (flat_len vals_len l)
    have HO := Lib.hid (vals_one l)
    clear h3 hcells hblk
    generalize l.flatMap Paper.vals = fl at *
    go_enter Tryz.func93, Tryz.ntmps93
    go_wp2_with (at_builtin; go_must (refine wpList_append_own _ rfl _ _ 30 rfl w.heap.size 28 i0 _ 14 128 Tryz.underlying30 hi hz0 hz1 hz2 rfl (by decide) _ 0 [] rfl (World.ownsRow_lit w #[] 0 (Nat.le_refl _) (by unfold maxLen; omega) rfl) ad l.length c fl rfl ?c1 ?c2 ?c3 ?c4 ?c5 ?c6 ?_))
    case c1 => exact HL.out
    case c2 => exact fun j u hu => Lib.cell?_alloc_some _ (HC.out j u hu)
    case c3 => exact HO.out
    case c4 => unfold maxLen; omega
    case c5 => omega
    case c6 => simp
    intro v' w' hown' hg _
    go_wp2_with fail
    go_ret
    exact ⟨v', rfl, hown', ((Below.refl _ w).alloc (Nat.le_refl _) _).grown hg (by simp) (fun k hk => by cases hk; exact Nat.le_refl _)⟩

end Go.Proofs.YtpffpofdceppiaaGreatDoor

set_option linter.unusedSimpArgs false
set_option linter.unusedVariables false
namespace Go.Proofs.YtpffpofdceppiaaGreatDoor
open Go.RowKit Go.Shelf

/-- All cells of a box that was laid ahead of a call. -/
theorem box_later {w w1 : World} (x : Paper) (hb : Below (w.alloc (boxOf x)).heap.size (w.alloc (boxOf x)) w1) : w1.cell? ⟨w.heap.size, 0, none⟩ = some (.int .i64 x.id) ∧ w1.cell? ⟨w.heap.size, 1, none⟩ = some (.int .i64 x.known) ∧ w1.cell? ⟨w.heap.size, 2, none⟩ = some (.int .u8 x.kind) ∧ w1.cell? ⟨w.heap.size, 3, none⟩ = some (.int .i64 x.loss) ∧ w1.cell? ⟨w.heap.size, 4, none⟩ = some (.int .i64 x.pack) ∧ w1.cell? ⟨w.heap.size, 5, none⟩ = some (.int .i64 x.inn) ∧ w1.cell? ⟨w.heap.size, 6, none⟩ = some (.string x.mark) ∧ w1.cell? ⟨w.heap.size, 7, none⟩ = some (.string x.goods) ∧ w1.cell? ⟨w.heap.size, 8, none⟩ = some (.int .i64 x.lo) ∧ w1.cell? ⟨w.heap.size, 9, none⟩ = some (.int .i64 x.hi) ∧ w1.cell? ⟨w.heap.size, 10, none⟩ = some (.int .i64 x.pieces) ∧ w1.cell? ⟨w.heap.size, 11, none⟩ = some (.int .i64 x.owner) ∧ w1.cell? ⟨w.heap.size, 12, none⟩ = some (.int .i64 x.count) ∧ w1.cell? ⟨w.heap.size, 13, none⟩ = some (.int .i64 x.of) := by
  have h : ∀ i, w1.cell? ⟨w.heap.size, i, none⟩ = (w.alloc (boxOf x)).cell? ⟨w.heap.size, i, none⟩ := fun i => hb.cell (p := ⟨w.heap.size, i, none⟩) (by simp)
  have b := box_all w x
  exact ⟨(h 0).trans b.1, (h 1).trans b.2.1, (h 2).trans b.2.2.1, (h 3).trans b.2.2.2.1, (h 4).trans b.2.2.2.2.1, (h 5).trans b.2.2.2.2.2.1, (h 6).trans b.2.2.2.2.2.2.1, (h 7).trans b.2.2.2.2.2.2.2.1, (h 8).trans b.2.2.2.2.2.2.2.2.1, (h 9).trans b.2.2.2.2.2.2.2.2.2.1, (h 10).trans b.2.2.2.2.2.2.2.2.2.2.1, (h 11).trans b.2.2.2.2.2.2.2.2.2.2.2.1, (h 12).trans b.2.2.2.2.2.2.2.2.2.2.2.2.1, (h 13).trans b.2.2.2.2.2.2.2.2.2.2.2.2.2⟩

theorem Rows.nil {α : Type} (enc : α → List Value) (k : Nat) (w : World) : Rows enc k w (.slice none 0 0) [] := ⟨none, 0, rfl, Nat.le_refl _, by unfold maxLen; omega, fun h => absurd h (by omega)⟩

def append (l : List Paper) (x : Paper) : List Paper × Int :=
  if (check l).2 ≠ 0 then ([], (check l).2) else if follows l x ≠ 0 then ([], follows l x) else (l ++ [x], 0)

set_option maxRecDepth 100000 in
set_option maxHeartbeats 4000000 in
theorem Append_any (v : Value) (l : List Paper) (x : Paper) (w : World) (hv : PapersAt w v l) (hn : l.length ≤ 999) (hs : ∀ y ∈ l, okS y) (hx : okS x) :
    Calls Tryz.prog 30 #[v, .agg x.vals.toArray] w fun e w' => ∃ v', e = .returned (.tuple #[v', .int .i64 (append l x).2]) ∧ PapersAt w' v' (append l x).1 ∧ Below w.heap.size w w' := by
  have hv0 := hv
  obtain ⟨a, c, rfl, h1, h2, h3⟩ := hv
  obtain ⟨i0, hi, hz0, hz1, hz2⟩ := info_parts Tryz.info28
  have HA : Hid (append l x = if (check l).2 ≠ 0 then ([], (check l).2) else if follows l x ≠ 0 then ([], follows l x) else (l ++ [x], 0)) := by show _ = _; rfl
  obtain ⟨r, hr⟩ : ∃ r, r = append l x := ⟨_, rfl⟩
  rw [← hr] at HA ⊢
  clear hr
  have HCk := Lib.hid (fun W (h : Below w.heap.size w W) => Check_any _ l W (hv0.below h) (by omega) hs)
  have HFo := Lib.hid (fun W (h : Below w.heap.size w W) => follows_any _ l x W (hv0.below h) (by omega) hx)
  have HCl := Lib.hid (fun W (h : Below w.heap.size w W) => Clone_any _ l W (hv0.below h) (by omega))
  have HL := Lib.hid (flat_len vals_len l)
  have HFE : Hid ((l ++ [x]).flatMap Paper.vals = l.flatMap Paper.vals ++ x.vals) := by show _ = _; simp
  have HV := Lib.hid (fun (base : Nat) (W : World) (v : Value) h => Rows.of_owns (base := base) (e := 28) (w := W) (v := v) (l := l ++ [x]) vals_len h)
  have HX : Hid (∀ u ∈ x.vals, u.oneCell' = true) := by
    show ∀ u ∈ x.vals, _
    have := vals_one [x]
    simpa using this
  generalize check l = ck at *
  generalize follows l x = fo at *
  obtain ⟨c1, c2⟩ := ck
  have HFo : Hid (∀ W, Below w.heap.size w W → Calls Tryz.prog 91 #[.slice a l.length c, .agg #[.int .i64 x.id, .int .i64 x.known, .int .u8 x.kind, .int .i64 x.loss, .int .i64 x.pack, .int .i64 x.inn, .string x.mark, .string x.goods, .int .i64 x.lo, .int .i64 x.hi, .int .i64 x.pieces, .int .i64 x.owner, .int .i64 x.count, .int .i64 x.of]] W fun e w' => e = .returned (.int .i64 fo) ∧ Below W.heap.size W w') := HFo
  clear h1 h2 h3 hv0 hs hx
  generalize hfl : l.flatMap Paper.vals = fl at *
  clear hfl
  show Calls Tryz.prog 30 #[.slice a l.length c, .agg #[.int .i64 x.id, .int .i64 x.known, .int .u8 x.kind, .int .i64 x.loss, .int .i64 x.pack, .int .i64 x.inn, .string x.mark, .string x.goods, .int .i64 x.lo, .int .i64 x.hi, .int .i64 x.pieces, .int .i64 x.owner, .int .i64 x.count, .int .i64 x.of]] w _
  have hfold : w.alloc (.cells #[.int .i64 x.id, .int .i64 x.known, .int .u8 x.kind, .int .i64 x.loss, .int .i64 x.pack, .int .i64 x.inn, .string x.mark, .string x.goods, .int .i64 x.lo, .int .i64 x.hi, .int .i64 x.pieces, .int .i64 x.owner, .int .i64 x.count, .int .i64 x.of] 28) = w.alloc (boxOf x) := rfl
  have hB0 : Below w.heap.size w (w.alloc (boxOf x)) := (Below.refl _ w).alloc (Nat.le_refl _) _
  go_enter Tryz.func30, Tryz.ntmps30
  go_wp2_with fail
  clear hfold
  refine (HCk.out _ hB0).mono ?_
  rintro e w1 ⟨rfl, hb1⟩
  have hB1 := hB0.trans (hb1.mono hB0.size)
  have hbx := box_later x hb1
  cases g : (c2 != 0)
  · have HA2 : Hid (r = if fo ≠ 0 then ([], fo) else (l ++ [x], 0)) := by show _ = _; rw [HA.out, if_neg (by simpa using g)]
    clear HA
    obtain ⟨k0, k1, k2, k3, k4, k5, k6, k7, k8, k9, k10, k11, k12, k13⟩ := hbx
    go_wp2_with fail
    refine (HFo.out _ hB1).mono ?_
    rintro e w2 ⟨rfl, hb2⟩
    have hbw := Below.trans hb1 (hb2.mono hb1.size)
    have hbx := box_later x hbw
    have HBW := Lib.hid hbw
    clear hbw
    have hlt : w.heap.size < w2.heap.size := by have h1 := hb1.size; have h2 := hb2.size; simp at h1; omega
    have hB2 := hB1.trans (hb2.mono hB1.size)
    clear hb2 hb1 hB1 hB0 k0 k1 k2 k3 k4 k5 k6 k7 k8 k9 k10 k11 k12 k13
    cases g2 : (fo != 0)
    · have HA3 : Hid (r = (l ++ [x], 0)) := by show _ = _; rw [HA2.out, if_neg (by simpa using g2)]
      clear HA2 HFo HCk
      obtain ⟨k0, k1, k2, k3, k4, k5, k6, k7, k8, k9, k10, k11, k12, k13⟩ := hbx
      go_wp2_with fail
      have hnew : ∀ (W : World) j u, x.vals[j]? = some u → (W.alloc (.cells #[.int .i64 x.id, .int .i64 x.known, .int .u8 x.kind, .int .i64 x.loss, .int .i64 x.pack, .int .i64 x.inn, .string x.mark, .string x.goods, .int .i64 x.lo, .int .i64 x.hi, .int .i64 x.pieces, .int .i64 x.owner, .int .i64 x.count, .int .i64 x.of] 28)).cell? ((⟨W.heap.size, 0, none⟩ : Addr).add j) = some u := fun W j u hu => by
        rw [Addr.add_lit, Nat.zero_add]
        simp only [World.cell?_alloc_new]
        rw [← hu]; simp [Paper.vals]
      have HN := Lib.hid hnew
      clear hnew
      go_region_law (first
        | (go_simp; go_at_call 93; refine (HCl.out _ (by first | exact hB2.drew | exact (hB2.alloc hB2.size _).drew)).mono ?_; rintro e w3 ⟨v3, rfl, hown, hb3⟩; obtain ⟨m0, m1, m2, m3, m4, m5, m6, m7, m8, m9, m10, m11, m12, m13⟩ := (by first | exact box_later x (HBW.out.drew.trans (hb3.mono (by simpa using HBW.out.size))) | exact box_later x ((HBW.out.alloc HBW.out.size _).drew.trans (hb3.mono (by have := HBW.out.size; simp at this ⊢; omega))) : _ ∧ _))
        | (refine step_append_lies _ rfl (.tmp 24) (.tmp 26) 30 rfl _ 28 i0 _ 14 128 Tryz.underlying30 hi hz0 hz1 hz2 rfl (by decide) v3 l.length fl (by simp [Act.eval, Act.put]) hown ⟨w2.heap.size, 0, none⟩ 1 1 x.vals (by simp [Act.eval, Act.put]) rfl (fun j u hu => (hb3.cell (p := (⟨w2.heap.size, 0, none⟩ : Addr).add j) (by rw [Addr.add_lit]; simp)).trans (HN.out _ j u hu)) HX.out (by decide) (by unfold maxLen; omega) (by omega) hb3.size _ rfl ?_; intro g cap w4 hown4 hg4 hor hlt4)
        | (refine step_append_lies _ rfl (.tmp 24) (.tmp 26) 30 rfl _ 28 i0 _ 14 128 Tryz.underlying30 hi hz0 hz1 hz2 rfl (by decide) v3 l.length fl (by simp [Act.eval, Act.put]) (hown.alloc _) ⟨w3.heap.size, 0, none⟩ 1 1 x.vals (by simp [Act.eval, Act.put]) rfl (HN.out _) HX.out (by decide) (by unfold maxLen; omega) (by omega) (by have := hb3.size; simp at this ⊢; omega) _ rfl ?_; intro g cap w4 hown4 hg4 hor hlt4))
      all_goals
        go_wp2_with fail
        go_ret2
        refine ⟨_, by rw [HA3.out]; rfl, by rw [HA3.out]; exact HV.out _ w4 _ (by rw [HFE.out, List.length_append]; exact hown4), ?_⟩
        have hl3 := hown.lt
        first
          | exact (((hB2.drew.trans (hb3.mono hB2.size)).alloc (Nat.le_trans hB2.size hb3.size) _).grown hg4 (by have h1 := hB2.size; have h2 := hb3.size; simp at h2 ⊢; omega) (fun k hk => Nat.le_trans hB2.size (hl3 k hk).1))
          | exact ((((hB2.alloc hB2.size _).drew.trans (hb3.mono (by have h1 := hB2.size; simp; omega))).grown hg4 (by have h1 := hB2.size; have h2 := hb3.size; simp at h2 ⊢; omega) (fun k hk => by have h1 := hB2.size; have h2 := (hl3 k hk).1; simp at h2; omega)))
    · have HA3 : Hid (r = ([], fo)) := by show _ = _; rw [HA2.out, if_pos (by simpa using g2)]
      clear HA2 HFo HCk hbx
      go_wp2_with fail
      go_ret2
      exact ⟨_, by rw [HA3.out]; rfl, by rw [HA3.out]; exact Rows.nil _ _ _, hB2⟩
  · have HA2 : Hid (r = ([], c2)) := by show _ = _; rw [HA.out, if_pos (by simpa using g)]
    clear HA hbx
    go_wp2_with fail
    go_ret2
    exact ⟨_, by rw [HA2.out]; rfl, by rw [HA2.out]; exact Rows.nil _ _ _, hB1⟩

end Go.Proofs.YtpffpofdceppiaaGreatDoor
