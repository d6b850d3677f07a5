/- A part of the proof that laganlaw01.CargoTexts answers true at every input and leaves its arguments as they were; the conditions are those of the given row and card, nothing else. -/
import Derived.Test.YtpffpofdceppiaaGreatDoorKA3
import Derived.Deep.RegionHeld3
set_option linter.unusedSimpArgs false
set_option linter.unusedVariables false
namespace Go.Proofs.YtpffpofdceppiaaGreatDoor
open Go.RowKit Go.Shelf

def okX (x : Paper) : Bool := decide ((x.mark.size : Int) ≤ 100) && decide ((x.goods.size : Int) ≤ 100)
/-- Whether papers are few, with short words. -/
def fewP (l : List Paper) (n : Int) : Bool := decide ((l.length : Int) ≤ n) && l.all okX

theorem okX_iff (x : Paper) : okX x = true ↔ okS x := by
  unfold okX okS
  rw [Bool.and_eq_true, decide_eq_true_iff, decide_eq_true_iff]
  omega
theorem fewP_iff {l : List Paper} {n : Int} (h : fewP l n = true) : (l.length : Int) ≤ n ∧ ∀ x ∈ l, okS x := by
  unfold fewP at h
  rw [Bool.and_eq_true, decide_eq_true_iff, List.all_eq_true] at h
  exact ⟨h.1, fun x hx => (okX_iff x).1 (h.2 x hx)⟩
theorem all_bad {α : Type} {p : α → Bool} {l : List α} {k : Nat} (hk : k < l.length) (h : p l[k] = false) : l.all p = false := by
  rw [List.all_eq_false]
  exact ⟨l[k], List.getElem_mem hk, by rw [h]; decide⟩
theorem all_next {α : Type} {p : α → Bool} {l : List α} {k : Nat} (hk : k < l.length) (h : (l.take k).all p = true) (h2 : p l[k] = true) : (l.take (k + 1)).all p = true := by
  rw [List.take_succ_eq_append_getElem hk, List.all_append, h, List.all_cons, h2]; rfl

set_option maxHeartbeats 2000000 in
theorem FewR_any (v : Value) (l : List Paper) (n : Int) (w : World) (hv : PapersAt w v l) :
    Calls Tryz.prog 23 #[v, .int .i64 n] w fun e w' => e = .returned (.bool (fewP l n)) ∧ w = w' := by
  obtain ⟨a, c, rfl, h1, h2, h3⟩ := hv
  unfold maxLen at h2
  have HF : Hid (fewP l n = (decide ((l.length : Int) ≤ n) && l.all okX)) := by show _ = _; rfl
  by_cases hbig : n < (l.length : Int)
  · clear h3
    go_enter Tryz.func23, Tryz.ntmps23
    go_wp2_with fail
    go_ret
    exact ⟨by rw [HF.out, decide_eq_false (by omega)]; rfl, rfl⟩
  · have H3 := Lib.hid h3
    clear h3
    go_enter Tryz.func23, Tryz.ntmps23
    go_wp2_with fail
    go_loop [5] (fun i => ∃ k : Nat, k ≤ l.length ∧ i = .int .i64 k ∧ Hid ((l.take k).all okX = true)) (fun i => l.length - (intOf i).toNat)
    case atStart => exact ⟨0, Nat.zero_le _, rfl, rfl⟩
    case round =>
      obtain ⟨k, hk, rfl, HA⟩ := hrel
      by_cases hlt : k < l.length
      · obtain ⟨b, off, rfl, hbs, hcell⟩ := H3.out (by omega)
        have c6 : w.cell? ⟨b, off + k * 14 + 6, none⟩ = some (.string l[k].mark) := hcell k hlt 6 _ rfl
        have c7 : w.cell? ⟨b, off + k * 14 + 7, none⟩ = some (.string l[k].goods) := hcell k hlt 7 _ rfl
        have HB := Lib.hid (all_bad (p := okX) hlt)
        have HN := Lib.hid (all_next (p := okX) hlt)
        have HO : Hid (okX l[k] = (decide ((l[k].mark.size : Int) ≤ 100) && decide ((l[k].goods.size : Int) ≤ 100))) := by show _ = _; rfl
        clear hcell
        generalize l[k] = x at *
        by_cases hm : 100 < (x.mark.size : Int)
        · have HR : Hid (fewP l n = false) := by show _ = _; rw [HF.out, HB.out (by rw [HO.out, decide_eq_false (by omega)]; rfl)]; simp
          go_wp2_with fail
          go_ret
          exact ⟨by rw [HR.out]; rfl, rfl⟩
        · by_cases hg : 100 < (x.goods.size : Int)
          · have HR : Hid (fewP l n = false) := by show _ = _; rw [HF.out, HB.out (by rw [HO.out, decide_eq_false (show ¬ (x.goods.size : Int) ≤ 100 by omega)]; simp)]; simp
            go_wp2_with fail
            go_ret
            exact ⟨by rw [HR.out]; rfl, rfl⟩
          · have HR : Hid ((l.take (k + 1)).all okX = true) := by show _ = _; exact HN.out HA.out (by rw [HO.out, decide_eq_true (by omega), decide_eq_true (by omega)]; rfl)
            clear HN HB HO HA
            go_wp2_with fail
            go_round
            case measure => simp [intOf]; omega
            case rel => exact ⟨k + 1, by omega, by go_num, HR⟩
      · obtain rfl : k = l.length := by omega
        have HR : Hid (fewP l n = true) := by
          show _ = _
          have := HA.out
          rw [List.take_length] at this
          rw [HF.out, this, decide_eq_true (by omega)]; rfl
        go_wp2_with fail
        go_ret
        exact ⟨by rw [HR.out]; rfl, rfl⟩

theorem few_any (v : Value) (l : List Paper) (w : World) (hv : PapersAt w v l) :
    Calls Tryz.prog 35 #[v] w fun e w' => e = .returned (.bool (fewP l 30)) ∧ w = w' := by
  have HF := Lib.hid (fun W h => FewR_any v l 30 W h)
  have HV := Lib.hid hv
  clear hv
  go_enter Tryz.func35, Tryz.ntmps35
  go_wp2_with fail
  refine (HF.out _ HV.out).mono ?_
  rintro e w' ⟨rfl, rfl⟩
  go_wp2_with fail
  go_ret
  exact ⟨rfl, rfl⟩

set_option maxRecDepth 100000 in
set_option maxHeartbeats 4000000 in
theorem SameR_any (va vb : Value) (a b : List Paper) (w : World) (ha : PapersAt w va a) (hb : PapersAt w vb b) :
    Calls Tryz.prog 32 #[va, vb] w fun e w' => e = .returned (.bool (decide (a = b))) ∧ Below w.heap.size w w' := by
  obtain ⟨aa, ca, rfl, a1, a2, a3⟩ := ha
  obtain ⟨ab, cb, rfl, b1, b2, b3⟩ := hb
  unfold maxLen at a2 b2
  by_cases hlen : a.length = b.length
  · have A3 := Lib.hid a3
    have B3 := Lib.hid b3
    clear a3 b3
    have hl' : ((a.length : Int) != (b.length : Int)) = false := by rw [hlen]; simp
    go_enter Tryz.func32, Tryz.ntmps32
    go_wp2_with fail
    go_loopw [5] (fun i wr => ∃ k : Nat, k ≤ a.length ∧ i = .int .i64 k ∧ Hid (a.take k = b.take k) ∧ Hid (Below w.heap.size w wr)) (fun i _ => a.length - (intOf i).toNat)
    case atStart => exact ⟨0, Nat.zero_le _, rfl, rfl, Below.refl _ _⟩
    case round =>
      obtain ⟨k, hk, rfl, HA, HB⟩ := hrel
      by_cases hlt : k < a.length
      · have hlt2 : k < b.length := by omega
        obtain ⟨ba, oa, rfl, ha1, ha2⟩ := A3.out (by omega)
        obtain ⟨bb, ob, rfl, hb1, hb2⟩ := B3.out (by omega)
        obtain ⟨c0, c1, c2, c3, c4, c5, c6, c7, c8, c9, c10, c11, c12, c13⟩ := paper_cells (w := wr) (b := ba) (o := oa + k * 14) a[k] (fun i u hu => (HB.out.cell (p := ⟨ba, oa + k * 14 + i, none⟩) ha1).trans (ha2 k hlt i u hu))
        obtain ⟨d0, d1, d2, d3, d4, d5, d6, d7, d8, d9, d10, d11, d12, d13⟩ := paper_cells (w := wr) (b := bb) (o := ob + k * 14) b[k] (fun i u hu => (HB.out.cell (p := ⟨bb, ob + k * 14 + i, none⟩) hb1).trans (hb2 k hlt2 i u hu))
        have HT : Hid (a[k] = b[k] → a.take (k + 1) = b.take (k + 1)) := fun he => by
          rw [List.take_succ_eq_append_getElem hlt, List.take_succ_eq_append_getElem hlt2, HA.out, he]
        have HN : Hid (a[k] ≠ b[k] → a ≠ b) := fun hne he => by subst he; exact hne rfl
        have i0 : (k : Int) < (a.length : Int) := by omega
        have i1 : (k : Int) < (b.length : Int) := by omega
        clear ha2 hb2
        generalize a[k] = x at *
        generalize b[k] = y at *
        have hq := run_neq28 x y
        have hq : ∀ W, (binOp .neq 28 (.agg #[.int .i64 x.id, .int .i64 x.known, .int .u8 x.kind, .int .i64 x.loss, .int .i64 x.pack, .int .i64 x.inn, .string x.mark, .string x.goods, .int .i64 x.lo, .int .i64 x.hi, .int .i64 x.pieces, .int .i64 x.owner, .int .i64 x.count, .int .i64 x.of]) (.agg #[.int .i64 y.id, .int .i64 y.known, .int .u8 y.kind, .int .i64 y.loss, .int .i64 y.pack, .int .i64 y.inn, .string y.mark, .string y.goods, .int .i64 y.lo, .int .i64 y.hi, .int .i64 y.pieces, .int .i64 y.owner, .int .i64 y.count, .int .i64 y.of])).run Tryz.prog W = .ok (.bool (!decide (x = y))) W := hq
        by_cases he : x = y
        · have HR := Lib.hid (HT.out he)
          rw [decide_eq_true he] at hq
          clear HT HN he
          go_wp2_with fail
          go_quiet (fail)
          go_wp2_with fail
          go_roundw
          case rel => exact ⟨k + 1, by omega, by go_num, HR, below_drewN HB.out _⟩
          case measure => simp [intOf]; omega
        · have HR : Hid (decide (a = b) = false) := by show _ = _; exact decide_eq_false (HN.out he)
          rw [decide_eq_false he] at hq
          clear HT HN he
          go_wp2_with fail
          go_quiet (fail)
          go_wp2_with fail
          go_ret
          exact ⟨by rw [HR.out]; rfl, below_drewN HB.out _⟩
      · obtain rfl : k = a.length := by omega
        have HR : Hid (decide (a = b) = true) := by
          show _ = _
          have := HA.out
          rw [List.take_length, hlen, List.take_length] at this
          exact decide_eq_true this
        go_wp2_with fail
        go_ret
        exact ⟨by rw [HR.out]; rfl, HB.out⟩
  · have hl' : ((a.length : Int) != (b.length : Int)) = true := by simp; omega
    have HR : Hid (decide (a = b) = false) := by show _ = _; exact decide_eq_false (fun e => hlen (by rw [e]))
    clear a3 b3
    go_enter Tryz.func32, Tryz.ntmps32
    go_wp2_with fail
    go_ret
    exact ⟨by rw [HR.out]; rfl, Below.refl _ _⟩

end Go.Proofs.YtpffpofdceppiaaGreatDoor
