/- A part of the proof that laganlaw01.CargoTexts answers true at every input and leaves its arguments as they were; the conditions are those of the given row and card, nothing else. -/
import Derived.Test.YtpffpofdceppiaaGreatDoorKP7
import Derived.Test.YtpffpofdceppiaaGreatDoorKV6
import Derived.Test.YtpffpofdceppiaaGreatDoorKP1
set_option linter.unusedSimpArgs false
set_option linter.unusedVariables false
namespace Go.Proofs.YtpffpofdceppiaaGreatDoor
open Go.RowKit Go.Shelf
def ln0 : ByteArray := ⟨#[49, 32, 48, 32, 112, 97, 99, 107, 97, 103, 101, 32, 49, 32, 49, 32, 48, 32, 97, 98, 63, 32, 119, 111, 111, 108, 32, 49, 48, 48, 32, 50, 48, 48, 32, 50, 32, 55]⟩
def ln1 : ByteArray := ⟨#[50, 32, 48, 32, 112, 97, 99, 107, 97, 103, 101, 32, 49, 32, 50, 32, 48, 32, 120, 49, 32, 99, 104, 101, 115, 116, 115, 32, 53, 48, 32, 57, 48, 32, 49, 32, 56]⟩
def ln2 : ByteArray := ⟨#[51, 32, 48, 32, 112, 97, 99, 107, 97, 103, 101, 32, 49, 32, 51, 32, 50, 32, 63, 63, 32, 115, 105, 108, 118, 101, 114, 32, 49, 48, 32, 50, 48, 32, 49, 32, 56]⟩
def ln3 : ByteArray := ⟨#[52, 32, 48, 32, 112, 97, 99, 107, 97, 103, 101, 32, 49, 32, 52, 32, 50, 32, 122, 122, 57, 32, 115, 105, 108, 118, 101, 114, 32, 53, 32, 54, 48, 32, 49, 32, 57]⟩
def ln4 : ByteArray := ⟨#[53, 32, 48, 32, 116, 111, 116, 97, 108, 32, 49, 32, 50, 32, 50, 32, 51, 48, 32, 52, 48]⟩
def ln5 : ByteArray := ⟨#[54, 32, 51, 32, 116, 111, 116, 97, 108, 32, 49, 32, 48, 32, 51, 32, 50, 48, 48, 32, 50, 54, 48]⟩
def ln6 : ByteArray := ⟨#[55, 32, 53, 32, 116, 111, 116, 97, 108, 32, 49, 32, 48, 32, 50, 32, 50, 48, 48, 32, 50, 54, 48]⟩
def ln7 : ByteArray := ⟨#[56, 32, 54, 32, 112, 97, 99, 107, 97, 103, 101, 32, 49, 32, 50, 32, 48, 32, 120, 49, 32, 99, 104, 101, 115, 116, 115, 32, 49, 48, 32, 50, 48, 32, 49, 32, 56]⟩
def pp0 : Paper := ⟨1, 0, 1, 1, 1, 0, ⟨#[97, 98, 63]⟩, ⟨#[119, 111, 111, 108]⟩, 100, 200, 2, 7, 0, 0⟩
theorem rd0 : readP ln0 = (pp0, 0) := by decide +kernel
def pp1 : Paper := ⟨2, 0, 1, 1, 2, 0, ⟨#[120, 49]⟩, ⟨#[99, 104, 101, 115, 116, 115]⟩, 50, 90, 1, 8, 0, 0⟩
theorem rd1 : readP ln1 = (pp1, 0) := by decide +kernel
def pp2 : Paper := ⟨3, 0, 1, 1, 3, 2, ⟨#[63, 63]⟩, ⟨#[115, 105, 108, 118, 101, 114]⟩, 10, 20, 1, 8, 0, 0⟩
theorem rd2 : readP ln2 = (pp2, 0) := by decide +kernel
def pp3 : Paper := ⟨4, 0, 1, 1, 4, 2, ⟨#[122, 122, 57]⟩, ⟨#[115, 105, 108, 118, 101, 114]⟩, 5, 60, 1, 9, 0, 0⟩
theorem rd3 : readP ln3 = (pp3, 0) := by decide +kernel
def pp4 : Paper := ⟨5, 0, 2, 1, 2, 0, ⟨#[]⟩, ⟨#[]⟩, 30, 40, 0, 0, 2, 0⟩
theorem rd4 : readP ln4 = (pp4, 0) := by decide +kernel
def pp5 : Paper := ⟨6, 3, 2, 1, 0, 0, ⟨#[]⟩, ⟨#[]⟩, 200, 260, 0, 0, 3, 0⟩
theorem rd5 : readP ln5 = (pp5, 0) := by decide +kernel
def pp6 : Paper := ⟨7, 5, 2, 1, 0, 0, ⟨#[]⟩, ⟨#[]⟩, 200, 260, 0, 0, 2, 0⟩
theorem rd6 : readP ln6 = (pp6, 0) := by decide +kernel
def pp7 : Paper := ⟨8, 6, 1, 1, 2, 0, ⟨#[120, 49]⟩, ⟨#[99, 104, 101, 115, 116, 115]⟩, 10, 20, 1, 8, 0, 0⟩
theorem rd7 : readP ln7 = (pp7, 0) := by decide +kernel
def sampP : List Paper := [pp0, pp1, pp2, pp3, pp4, pp5, pp6]
def sampS : List ByteArray := [ln0, ln1, ln2, ln3, ln4, ln5, ln6]
theorem ap0 : append [] pp0 = ([pp0], 0) := by decide +kernel
theorem ap1 : append [pp0] pp1 = ([pp0, pp1], 0) := by decide +kernel
theorem ap2 : append [pp0, pp1] pp2 = ([pp0, pp1, pp2], 0) := by decide +kernel
theorem ap3 : append [pp0, pp1, pp2] pp3 = ([pp0, pp1, pp2, pp3], 0) := by decide +kernel
theorem ap4 : append [pp0, pp1, pp2, pp3] pp4 = ([pp0, pp1, pp2, pp3, pp4], 0) := by decide +kernel
theorem ap5 : append [pp0, pp1, pp2, pp3, pp4] pp5 = ([pp0, pp1, pp2, pp3, pp4, pp5], 0) := by decide +kernel
theorem ap6 : append [pp0, pp1, pp2, pp3, pp4, pp5] pp6 = ([pp0, pp1, pp2, pp3, pp4, pp5, pp6], 0) := by decide +kernel
theorem ap7 : append [pp0, pp1, pp2, pp3, pp4, pp5, pp6] pp7 = ([pp0, pp1, pp2, pp3, pp4, pp5, pp6, pp7], 0) := by decide +kernel

theorem leftS_eq (still : List Int → Bool) (ids out : List Int) (h : ids.reverse.foldl (leftStep still) ids = out) (hs : out.Pairwise (fun x y => decide (x ≤ y) = true)) : leftS still ids = out := by
  unfold leftS
  rw [h]
  exact List.mergeSort_of_pairwise hs

theorem al1 : weighP sampP 0 1 4 = ((10, 30), 0) := by decide +kernel
theorem al2 : weighP sampP 5 1 1 = ((110, 200), 0) := by decide +kernel
theorem al3 : lineageP sampP 5 1 1 false = ([2, 7], 0) := by
  unfold lineageP
  rw [if_neg (by decide +kernel), leftS_eq _ _ [2, 7] (by decide +kernel) (by decide)]
theorem al4 : lineageP sampP 5 1 1 true = ([1], 0) := by
  unfold lineageP
  rw [if_neg (by decide +kernel), leftS_eq _ _ [1] (by decide +kernel) (by decide)]
theorem al5 : missingP sampP 3 1 0 = (1, 0) := by decide +kernel
theorem al6 : pathP sampP 0 1 4 = ([2, 4], 0) := by decide +kernel
theorem al7 : doubtP [pp0, pp1, pp2, pp3, pp4, pp5, pp6, pp7] 6 1 = ([5, 8], true, 0) := by
  unfold doubtP
  rw [if_neg (by decide +kernel), if_neg (by decide +kernel), leftS_eq _ _ [5, 8] (by decide +kernel) (by decide)]
theorem al8 : leavesL sampP 0 1 = [1, 3, 4] := by decide +kernel
theorem al9 : meetP ⟨#[97, 98, 63]⟩ ⟨#[97, 63, 99]⟩ = true := by decide +kernel
theorem al10 : meetP ⟨#[97, 98, 63]⟩ ⟨#[97, 99, 63]⟩ = false := by decide +kernel
theorem al11 : signsP ⟨#[97, 98, 63]⟩ = 2 := by decide +kernel
theorem sampP_ok : ∀ x ∈ [pp0, pp1, pp2, pp3, pp4, pp5, pp6, pp7], okS x := by
  show ∀ x ∈ [pp0, pp1, pp2, pp3, pp4, pp5, pp6, pp7], x.mark.size ≤ 100 ∧ x.goods.size ≤ 100
  decide +kernel
theorem samp_step : ∀ k (h : k < 7), readP (sampS[k]'h) = (sampP[k]'h, 0) ∧ append (sampP.take k) (sampP[k]'h) = (sampP.take (k + 1), 0) ∧ okS (sampP[k]'h) ∧ (sampS[k]'h).size ≤ 50000
  | 0, _ => ⟨rd0, ap0, sampP_ok pp0 (by simp), (by decide : ln0.size ≤ 50000)⟩
  | 1, _ => ⟨rd1, ap1, sampP_ok pp1 (by simp), (by decide : ln1.size ≤ 50000)⟩
  | 2, _ => ⟨rd2, ap2, sampP_ok pp2 (by simp), (by decide : ln2.size ≤ 50000)⟩
  | 3, _ => ⟨rd3, ap3, sampP_ok pp3 (by simp), (by decide : ln3.size ≤ 50000)⟩
  | 4, _ => ⟨rd4, ap4, sampP_ok pp4 (by simp), (by decide : ln4.size ≤ 50000)⟩
  | 5, _ => ⟨rd5, ap5, sampP_ok pp5 (by simp), (by decide : ln5.size ≤ 50000)⟩
  | 6, _ => ⟨rd6, ap6, sampP_ok pp6 (by simp), (by decide : ln6.size ≤ 50000)⟩

set_option maxRecDepth 100000 in
set_option maxHeartbeats 4000000 in
theorem sample_any (w : World) (hG : Gl w) : Calls Tryz.prog 75 #[] w fun e w' => ∃ v, e = .returned v ∧ PapersAt w' v sampP ∧ Below w.heap.size w w' := by
  have hB0 : Below w.heap.size w (w.alloc (.cells #[.string ⟨#[49, 32, 48, 32, 112, 97, 99, 107, 97, 103, 101, 32, 49, 32, 49, 32, 48, 32, 97, 98, 63, 32, 119, 111, 111, 108, 32, 49, 48, 48, 32, 50, 48, 48, 32, 50, 32, 55]⟩, .string ⟨#[50, 32, 48, 32, 112, 97, 99, 107, 97, 103, 101, 32, 49, 32, 50, 32, 48, 32, 120, 49, 32, 99, 104, 101, 115, 116, 115, 32, 53, 48, 32, 57, 48, 32, 49, 32, 56]⟩, .string ⟨#[51, 32, 48, 32, 112, 97, 99, 107, 97, 103, 101, 32, 49, 32, 51, 32, 50, 32, 63, 63, 32, 115, 105, 108, 118, 101, 114, 32, 49, 48, 32, 50, 48, 32, 49, 32, 56]⟩, .string ⟨#[52, 32, 48, 32, 112, 97, 99, 107, 97, 103, 101, 32, 49, 32, 52, 32, 50, 32, 122, 122, 57, 32, 115, 105, 108, 118, 101, 114, 32, 53, 32, 54, 48, 32, 49, 32, 57]⟩, .string ⟨#[53, 32, 48, 32, 116, 111, 116, 97, 108, 32, 49, 32, 50, 32, 50, 32, 51, 48, 32, 52, 48]⟩, .string ⟨#[54, 32, 51, 32, 116, 111, 116, 97, 108, 32, 49, 32, 48, 32, 51, 32, 50, 48, 48, 32, 50, 54, 48]⟩, .string ⟨#[55, 32, 53, 32, 116, 111, 116, 97, 108, 32, 49, 32, 48, 32, 50, 32, 50, 48, 48, 32, 50, 54, 48]⟩] 9)) := (Below.refl _ w).alloc (Nat.le_refl _) _
  have hs0 : (w.alloc (.cells #[.string ⟨#[49, 32, 48, 32, 112, 97, 99, 107, 97, 103, 101, 32, 49, 32, 49, 32, 48, 32, 97, 98, 63, 32, 119, 111, 111, 108, 32, 49, 48, 48, 32, 50, 48, 48, 32, 50, 32, 55]⟩, .string ⟨#[50, 32, 48, 32, 112, 97, 99, 107, 97, 103, 101, 32, 49, 32, 50, 32, 48, 32, 120, 49, 32, 99, 104, 101, 115, 116, 115, 32, 53, 48, 32, 57, 48, 32, 49, 32, 56]⟩, .string ⟨#[51, 32, 48, 32, 112, 97, 99, 107, 97, 103, 101, 32, 49, 32, 51, 32, 50, 32, 63, 63, 32, 115, 105, 108, 118, 101, 114, 32, 49, 48, 32, 50, 48, 32, 49, 32, 56]⟩, .string ⟨#[52, 32, 48, 32, 112, 97, 99, 107, 97, 103, 101, 32, 49, 32, 52, 32, 50, 32, 122, 122, 57, 32, 115, 105, 108, 118, 101, 114, 32, 53, 32, 54, 48, 32, 49, 32, 57]⟩, .string ⟨#[53, 32, 48, 32, 116, 111, 116, 97, 108, 32, 49, 32, 50, 32, 50, 32, 51, 48, 32, 52, 48]⟩, .string ⟨#[54, 32, 51, 32, 116, 111, 116, 97, 108, 32, 49, 32, 48, 32, 51, 32, 50, 48, 48, 32, 50, 54, 48]⟩, .string ⟨#[55, 32, 53, 32, 116, 111, 116, 97, 108, 32, 49, 32, 48, 32, 50, 32, 50, 48, 48, 32, 50, 54, 48]⟩] 9)).heap.size = w.heap.size + 1 := by simp
  have hc0 : ∀ k (h : k < 7), (w.alloc (.cells #[.string ⟨#[49, 32, 48, 32, 112, 97, 99, 107, 97, 103, 101, 32, 49, 32, 49, 32, 48, 32, 97, 98, 63, 32, 119, 111, 111, 108, 32, 49, 48, 48, 32, 50, 48, 48, 32, 50, 32, 55]⟩, .string ⟨#[50, 32, 48, 32, 112, 97, 99, 107, 97, 103, 101, 32, 49, 32, 50, 32, 48, 32, 120, 49, 32, 99, 104, 101, 115, 116, 115, 32, 53, 48, 32, 57, 48, 32, 49, 32, 56]⟩, .string ⟨#[51, 32, 48, 32, 112, 97, 99, 107, 97, 103, 101, 32, 49, 32, 51, 32, 50, 32, 63, 63, 32, 115, 105, 108, 118, 101, 114, 32, 49, 48, 32, 50, 48, 32, 49, 32, 56]⟩, .string ⟨#[52, 32, 48, 32, 112, 97, 99, 107, 97, 103, 101, 32, 49, 32, 52, 32, 50, 32, 122, 122, 57, 32, 115, 105, 108, 118, 101, 114, 32, 53, 32, 54, 48, 32, 49, 32, 57]⟩, .string ⟨#[53, 32, 48, 32, 116, 111, 116, 97, 108, 32, 49, 32, 50, 32, 50, 32, 51, 48, 32, 52, 48]⟩, .string ⟨#[54, 32, 51, 32, 116, 111, 116, 97, 108, 32, 49, 32, 48, 32, 51, 32, 50, 48, 48, 32, 50, 54, 48]⟩, .string ⟨#[55, 32, 53, 32, 116, 111, 116, 97, 108, 32, 49, 32, 48, 32, 50, 32, 50, 48, 48, 32, 50, 54, 48]⟩] 9)).cell? ⟨w.heap.size, k, none⟩ = some (.string (sampS[k]'h))
    | 0, _ => by go_simp; rfl
    | 1, _ => by go_simp; rfl
    | 2, _ => by go_simp; rfl
    | 3, _ => by go_simp; rfl
    | 4, _ => by go_simp; rfl
    | 5, _ => by go_simp; rfl
    | 6, _ => by go_simp; rfl
  have HG := Lib.hid (hG.below hB0)
  clear hG
  go_enter Tryz.func75, Tryz.ntmps75
  go_wp2_with fail
  generalize (w.alloc (.cells #[.string ⟨#[49, 32, 48, 32, 112, 97, 99, 107, 97, 103, 101, 32, 49, 32, 49, 32, 48, 32, 97, 98, 63, 32, 119, 111, 111, 108, 32, 49, 48, 48, 32, 50, 48, 48, 32, 50, 32, 55]⟩, .string ⟨#[50, 32, 48, 32, 112, 97, 99, 107, 97, 103, 101, 32, 49, 32, 50, 32, 48, 32, 120, 49, 32, 99, 104, 101, 115, 116, 115, 32, 53, 48, 32, 57, 48, 32, 49, 32, 56]⟩, .string ⟨#[51, 32, 48, 32, 112, 97, 99, 107, 97, 103, 101, 32, 49, 32, 51, 32, 50, 32, 63, 63, 32, 115, 105, 108, 118, 101, 114, 32, 49, 48, 32, 50, 48, 32, 49, 32, 56]⟩, .string ⟨#[52, 32, 48, 32, 112, 97, 99, 107, 97, 103, 101, 32, 49, 32, 52, 32, 50, 32, 122, 122, 57, 32, 115, 105, 108, 118, 101, 114, 32, 53, 32, 54, 48, 32, 49, 32, 57]⟩, .string ⟨#[53, 32, 48, 32, 116, 111, 116, 97, 108, 32, 49, 32, 50, 32, 50, 32, 51, 48, 32, 52, 48]⟩, .string ⟨#[54, 32, 51, 32, 116, 111, 116, 97, 108, 32, 49, 32, 48, 32, 51, 32, 50, 48, 48, 32, 50, 54, 48]⟩, .string ⟨#[55, 32, 53, 32, 116, 111, 116, 97, 108, 32, 49, 32, 48, 32, 50, 32, 50, 48, 48, 32, 50, 54, 48]⟩] 9)) = W0 at *
  go_loopw [1, 8] (fun v i wr => ∃ k : Nat, k ≤ 7 ∧ i = .int .i64 k ∧ PapersAt wr v (sampP.take k) ∧ Below W0.heap.size W0 wr) (fun _ i _ => 7 - (intOf i).toNat)
  case atStart => exact ⟨0, by omega, rfl, ⟨none, 0, rfl, by simp, by unfold maxLen; omega, fun h => absurd h (by omega)⟩, Below.refl _ _⟩
  case round =>
    obtain ⟨k, hk, rfl, hp, hb⟩ := hrel
    by_cases hlt : k < 7
    · obtain ⟨hr, ha, hok, hsz⟩ := samp_step k hlt
      have hcc := (hb.cell (p := ⟨w.heap.size, k, none⟩) (by show w.heap.size < _; omega)).trans (hc0 k hlt)
      have hll : (sampP.take k).length ≤ 7 := by rw [List.length_take]; exact Nat.min_le_right _ _
      have hoks : ∀ y ∈ sampP.take k, okS y := fun y hy => sampP_ok y (by have := List.mem_of_mem_take hy; simp [sampP] at this ⊢; rcases this with h | h | h | h | h | h | h <;> simp [h])
      have hpl : (sampP[k]'hlt) = (sampP[k]'hlt) := rfl
      generalize (sampS[k]'hlt) = s at *
      generalize (sampP[k]'hlt) = x at *
      generalize sampP.take k = l at *
      generalize hL' : sampP.take (k + 1) = l' at *
      have hRd := Read_any s wr hsz (HG.out.below hb)
      rw [hr] at hRd
      have HRd : Hid (Calls Tryz.prog 26 #[.string s] wr fun e w' => e = .returned (.tuple #[.agg #[.int .i64 x.id, .int .i64 x.known, .int .u8 x.kind, .int .i64 x.loss, .int .i64 x.pack, .int .i64 x.inn, .string x.mark, .string x.goods, .int .i64 x.lo, .int .i64 x.hi, .int .i64 x.pieces, .int .i64 x.owner, .int .i64 x.count, .int .i64 x.of], .int .i64 0]) ∧ Below wr.heap.size wr w') := Lib.hid hRd
      clear hRd
      have HRP := Lib.hid hr
      have HAP := Lib.hid ha
      have HP := Lib.hid hp
      have HB := Lib.hid hb
      have HOKS := Lib.hid hoks
      clear hr ha hp hb hoks hpl hc0
      have HL' := Lib.hid hL'
      clear hL'
      go_wp2_with fail
      refine HRd.out.mono ?_
      rintro e w2 ⟨rfl, hb2⟩
      have hb3 : Below wr.heap.size wr (w2.alloc (.cells #[.int .i64 x.id, .int .i64 x.known, .int .u8 x.kind, .int .i64 x.loss, .int .i64 x.pack, .int .i64 x.inn, .string x.mark, .string x.goods, .int .i64 x.lo, .int .i64 x.hi, .int .i64 x.pieces, .int .i64 x.owner, .int .i64 x.count, .int .i64 x.of] 28)) := hb2.alloc hb2.size _
      have hA := Append_any u1 l x (w2.alloc (.cells #[.int .i64 x.id, .int .i64 x.known, .int .u8 x.kind, .int .i64 x.loss, .int .i64 x.pack, .int .i64 x.inn, .string x.mark, .string x.goods, .int .i64 x.lo, .int .i64 x.hi, .int .i64 x.pieces, .int .i64 x.owner, .int .i64 x.count, .int .i64 x.of] 28)) (HP.out.below hb3) (by omega) HOKS.out hok
      rw [HAP.out] at hA
      have HA := Lib.hid hA
      have HB3 := Lib.hid (HB.out.trans (hb3.mono HB.out.size))
      clear hA hb2 hb3 HB HP HRd HRP HAP
      go_wp2_with fail
      refine HA.out.mono ?_
      rintro e w3 ⟨v', rfl, hp3, hb4⟩
      have HB4 := Lib.hid (HB3.out.trans (hb4.mono HB3.out.size))
      have HP4 := Lib.hid hp3
      clear HA HB3 hp3 hb4
      go_wp2_with fail
      exact ⟨⟨k + 1, by omega, by simp, by rw [HL'.out]; exact HP4.out, HB4.out⟩, by simp [intOf]; omega⟩
    · have h7 : k = 7 := by omega
      subst h7
      have HP : Hid (PapersAt wr u1 sampP) := Lib.hid hp
      have HB := Lib.hid hb
      clear hp hb
      go_wp2_with fail
      go_ret
      exact ⟨_, rfl, HP.out, hB0.trans (HB.out.mono (by omega))⟩

end Go.Proofs.YtpffpofdceppiaaGreatDoor

set_option linter.unusedSimpArgs false
set_option linter.unusedVariables false
namespace Go.Proofs.YtpffpofdceppiaaGreatDoor
open Go.RowKit Go.Shelf

theorem eq_lit (v : Value) (l : List Int) (w W : World) (hv : IntsAt w v l) (hb : Below w.heap.size w W) (h0 : 0 < l.length) (hn : l.length ≤ 100000) (cs : Array Value) (hcs : cs = (l.map (Value.int .i64)).toArray) (n : Nat) (hl : n = l.length) :
    Calls Tryz.prog 40 #[v, .slice (some ⟨W.heap.size, 0, none⟩) n n] (W.alloc (.cells cs 3)) fun e w' => e = .returned (.bool true) ∧ Below W.heap.size W w' := by
  subst hcs hl
  have hB : Below W.heap.size W (W.alloc (.cells (l.map (Value.int .i64)).toArray 3)) := (Below.refl _ W).alloc (Nat.le_refl _) _
  refine (Equal3_any v _ l l _ ((hv.below hb).below hB) ⟨_, _, rfl, Nat.le_refl _, by unfold maxLen; omega, fun _ => ⟨_, _, rfl, by simp, fun j hj i u hu => ?_⟩⟩ hn hn).mono ?_
  · match i, hu with
    | 0, hu =>
      cases hu
      rw [World.cell?_alloc_new]
      simp [hj]
  · rintro e w' ⟨rfl, hb'⟩
    exact ⟨by simp, hB.trans (hb'.mono hB.size)⟩

theorem weigh_s {v : Value} {w : World} (k lo p a b : Int) (h : PapersAt w v sampP) (hs : weighP sampP k lo p = ((a, b), 0)) :
    Calls Tryz.prog 45 #[v, .int .i64 k, .int .i64 lo, .int .i64 p] w fun e w' => e = .returned (.tuple #[.agg #[.int .i64 a, .int .i64 b], .int .i64 0]) ∧ Below w.heap.size w w' := by
  have h1 := Weigh_any v sampP k lo p w h (by decide) (fun x hx => sampP_ok x (List.mem_append_left [pp7] hx))
  rw [hs] at h1
  exact h1

theorem line_s {v : Value} {w : World} (k lo p : Int) (u : Bool) (r : List Int) (h : PapersAt w v sampP) (hs : lineageP sampP k lo p u = (r, 0)) :
    Calls Tryz.prog 54 #[v, .int .i64 k, .int .i64 lo, .int .i64 p, .bool u] w fun e w' => ∃ v', e = .returned (.tuple #[v', .int .i64 0]) ∧ IntsAt w' v' r ∧ Below w.heap.size w w' := by
  have h1 := Lineage_any v sampP k lo p u w h (by decide) (fun x hx => sampP_ok x (List.mem_append_left [pp7] hx))
  rw [hs] at h1
  exact h1.mono fun e w' ⟨v', h1, h2, h3⟩ => ⟨v', h1, Rows.of_owns encI_len h2, h3⟩

theorem miss_s {v : Value} {w : World} (h : PapersAt w v sampP) :
    Calls Tryz.prog 38 #[v, .int .i64 3, .int .i64 1, .int .i64 0] w fun e w' => e = .returned (.tuple #[.int .i64 1, .int .i64 0]) ∧ Below w.heap.size w w' := by
  have h1 := Missing_any v sampP 3 1 0 w h (by decide) (fun x hx => sampP_ok x (List.mem_append_left [pp7] hx))
  rw [al5] at h1
  exact h1

theorem path_s {v : Value} {w : World} (h : PapersAt w v sampP) :
    Calls Tryz.prog 36 #[v, .int .i64 0, .int .i64 1, .int .i64 4] w fun e w' => ∃ v', e = .returned (.tuple #[v', .int .i64 0]) ∧ IntsAt w' v' [2, 4] ∧ Below w.heap.size w w' := by
  have h1 := Path_any v sampP 0 1 4 w h (by decide) (fun x hx => sampP_ok x (List.mem_append_left [pp7] hx))
  rw [al6] at h1
  exact h1.mono fun e w' ⟨v', h1, h2, h3⟩ => ⟨v', h1, Rows.of_owns encI_len h2, h3⟩

theorem read_s {w : World} (hG : Gl w) :
    Calls Tryz.prog 26 #[.string ⟨#[56, 32, 54, 32, 112, 97, 99, 107, 97, 103, 101, 32, 49, 32, 50, 32, 48, 32, 120, 49, 32, 99, 104, 101, 115, 116, 115, 32, 49, 48, 32, 50, 48, 32, 49, 32, 56]⟩] w fun e w' => e = .returned (.tuple #[.agg #[.int .i64 8, .int .i64 6, .int .u8 1, .int .i64 1, .int .i64 2, .int .i64 0, .string ⟨#[120, 49]⟩, .string ⟨#[99, 104, 101, 115, 116, 115]⟩, .int .i64 10, .int .i64 20, .int .i64 1, .int .i64 8, .int .i64 0, .int .i64 0], .int .i64 0]) ∧ Below w.heap.size w w' := by
  have h1 := Read_any ln7 w (by decide) hG
  rw [rd7] at h1
  exact h1

theorem app_s {v : Value} {w : World} (h : PapersAt w v sampP) :
    Calls Tryz.prog 30 #[v, .agg #[.int .i64 8, .int .i64 6, .int .u8 1, .int .i64 1, .int .i64 2, .int .i64 0, .string ⟨#[120, 49]⟩, .string ⟨#[99, 104, 101, 115, 116, 115]⟩, .int .i64 10, .int .i64 20, .int .i64 1, .int .i64 8, .int .i64 0, .int .i64 0]] w fun e w' => ∃ v', e = .returned (.tuple #[v', .int .i64 0]) ∧ PapersAt w' v' [pp0, pp1, pp2, pp3, pp4, pp5, pp6, pp7] ∧ Below w.heap.size w w' := by
  have h1 := Append_any v sampP pp7 w h (by decide) (fun x hx => sampP_ok x (List.mem_append_left [pp7] hx)) (sampP_ok pp7 (by simp))
  rw [show append sampP pp7 = ([pp0, pp1, pp2, pp3, pp4, pp5, pp6, pp7], 0) from ap7] at h1
  exact h1

theorem doubt_s {v : Value} {w : World} (h : PapersAt w v [pp0, pp1, pp2, pp3, pp4, pp5, pp6, pp7]) :
    Calls Tryz.prog 50 #[v, .int .i64 6, .int .i64 1] w fun e w' => ∃ v', e = .returned (.tuple #[v', .bool true, .int .i64 0]) ∧ IntsAt w' v' [5, 8] ∧ Below w.heap.size w w' := by
  have h1 := Doubt_any v _ 6 1 w h (by decide) sampP_ok
  rw [al7] at h1
  exact h1.mono fun e w' ⟨v', h1, h2, h3⟩ => ⟨v', h1, Rows.of_owns encI_len h2, h3⟩

theorem leaves_s {v : Value} {w : World} (h : PapersAt w v sampP) :
    Calls Tryz.prog 43 #[v, .int .i64 0, .int .i64 1] w fun e w' => ∃ v', e = .returned v' ∧ IntsAt w' v' [1, 3, 4] ∧ Below w.heap.size w w' := by
  have h1 := Leaves_any v sampP 0 1 w h (by decide) (fun x hx => sampP_ok x (List.mem_append_left [pp7] hx))
  rw [al8] at h1
  exact h1.mono fun e w' ⟨v', h1, h2, h3⟩ => ⟨v', h1, Rows.of_owns encI_len h2, h3⟩

set_option maxRecDepth 100000 in
set_option maxHeartbeats 8000000 in
theorem alive_any (w : World) (hG : Gl w) : Calls Tryz.prog 18 #[] w fun e w' => e = .returned (.bool true) ∧ Below w.heap.size w w' := by
  have HM1 : ∀ W, Calls Tryz.prog 19 #[.string ⟨#[97, 98, 63]⟩, .string ⟨#[97, 63, 99]⟩] W fun e w' => e = .returned (.bool true) ∧ Below W.heap.size W w' := fun W => by
    have h := Meet_any ⟨#[97, 98, 63]⟩ ⟨#[97, 63, 99]⟩ W (by decide) (by decide)
    rw [al9] at h
    exact h
  have HM2 : ∀ W, Calls Tryz.prog 19 #[.string ⟨#[97, 98, 63]⟩, .string ⟨#[97, 99, 63]⟩] W fun e w' => e = .returned (.bool false) ∧ Below W.heap.size W w' := fun W => by
    have h := Meet_any ⟨#[97, 98, 63]⟩ ⟨#[97, 99, 63]⟩ W (by decide) (by decide)
    rw [al10] at h
    exact h
  have HS1 : ∀ W, Calls Tryz.prog 21 #[.string ⟨#[97, 98, 63]⟩] W fun e w' => e = .returned (.int .i64 2) ∧ W = w' := fun W => by
    have h := Signs_any ⟨#[97, 98, 63]⟩ W (by decide)
    rw [al11] at h
    exact h
  have HM1 := Lib.hid HM1
  have HM2 := Lib.hid HM2
  have HS1 := Lib.hid HS1
  have HG := Lib.hid hG
  clear hG
  go_enter Tryz.func18, Tryz.ntmps18
  go_wp2_with fail
  refine (sample_any w HG.out).mono ?_
  rintro e w1 ⟨v, rfl, hp, hb1⟩
  go_wp2_with fail
  refine (weigh_s 0 1 4 10 30 hp al1).mono ?_
  rintro e w2 ⟨rfl, hb2⟩
  have k_w_w2 := hb1.trans (hb2.mono hb1.size)
  clear hb1
  have hbu2 : Below w2.heap.size w2 (w2.alloc (.cells #[.int .i64 10, .int .i64 30] 26)) := (Below.refl _ _).alloc (Nat.le_refl _) _
  have c20 : (w2.alloc (.cells #[.int .i64 10, .int .i64 30] 26)).cell? ⟨w2.heap.size, 0, none⟩ = some (.int .i64 10) := by go_simp
  have c21 : (w2.alloc (.cells #[.int .i64 10, .int .i64 30] 26)).cell? ⟨w2.heap.size, 1, none⟩ = some (.int .i64 30) := by go_simp
  have hzu2 : w2.heap.size < (w2.alloc (.cells #[.int .i64 10, .int .i64 30] 26)).heap.size := by simp
  go_wp2_with fail
  generalize (w2.alloc (.cells #[.int .i64 10, .int .i64 30] 26)) = u2 at *
  have k_w_u2 := k_w_w2.trans (hbu2.mono k_w_w2.size)
  clear k_w_w2
  have k_w1_u2 := hb2.trans (hbu2.mono hb2.size)
  clear hb2
  refine (weigh_s 5 1 1 110 200 (hp.below k_w1_u2) al2).mono ?_
  rintro e w3 ⟨rfl, hb3⟩
  have k_w_w3 := k_w_u2.trans (hb3.mono k_w_u2.size)
  clear k_w_u2
  have k_w1_w3 := k_w1_u2.trans (hb3.mono k_w1_u2.size)
  clear k_w1_u2
  have k_w2_w3 := hbu2.trans (hb3.mono hbu2.size)
  clear hbu2
  have hbu3 : Below w3.heap.size w3 (w3.alloc (.cells #[.int .i64 110, .int .i64 200] 26)) := (Below.refl _ _).alloc (Nat.le_refl _) _
  have c30 : (w3.alloc (.cells #[.int .i64 110, .int .i64 200] 26)).cell? ⟨w3.heap.size, 0, none⟩ = some (.int .i64 110) := by go_simp
  have c31 : (w3.alloc (.cells #[.int .i64 110, .int .i64 200] 26)).cell? ⟨w3.heap.size, 1, none⟩ = some (.int .i64 200) := by go_simp
  have hzu3 : w3.heap.size < (w3.alloc (.cells #[.int .i64 110, .int .i64 200] 26)).heap.size := by simp
  go_wp2_with fail
  generalize (w3.alloc (.cells #[.int .i64 110, .int .i64 200] 26)) = u3 at *
  have k_w_u3 := k_w_w3.trans (hbu3.mono k_w_w3.size)
  clear k_w_w3
  have k_w1_u3 := k_w1_w3.trans (hbu3.mono k_w1_w3.size)
  clear k_w1_w3
  have k_w2_u3 := k_w2_w3.trans (hbu3.mono k_w2_w3.size)
  clear k_w2_w3
  have k_u2_u3 := hb3.trans (hbu3.mono hb3.size)
  clear hb3
  refine (line_s 5 1 1 false [2, 7] (hp.below k_w1_u3) al3).mono ?_
  rintro e w4 ⟨v6, rfl, hi4, hb4⟩
  have k_w_w4 := k_w_u3.trans (hb4.mono k_w_u3.size)
  clear k_w_u3
  have k_w1_w4 := k_w1_u3.trans (hb4.mono k_w1_u3.size)
  clear k_w1_u3
  have k_w2_w4 := k_w2_u3.trans (hb4.mono k_w2_u3.size)
  clear k_w2_u3
  have k_u2_w4 := k_u2_u3.trans (hb4.mono k_u2_u3.size)
  clear k_u2_u3
  have k_w3_w4 := hbu3.trans (hb4.mono hbu3.size)
  clear hbu3
  go_wp2_with fail
  refine (line_s 5 1 1 true [1] (hp.below k_w1_w4) al4).mono ?_
  rintro e w5 ⟨v8, rfl, hi5, hb5⟩
  have k_w_w5 := k_w_w4.trans (hb5.mono k_w_w4.size)
  clear k_w_w4
  have k_w1_w5 := k_w1_w4.trans (hb5.mono k_w1_w4.size)
  clear k_w1_w4
  have k_w2_w5 := k_w2_w4.trans (hb5.mono k_w2_w4.size)
  clear k_w2_w4
  have k_u2_w5 := k_u2_w4.trans (hb5.mono k_u2_w4.size)
  clear k_u2_w4
  have k_w3_w5 := k_w3_w4.trans (hb5.mono k_w3_w4.size)
  clear k_w3_w4
  have k_u3_w5 := hb4.trans (hb5.mono hb4.size)
  clear hb4
  go_wp2_with fail
  refine (miss_s (hp.below k_w1_w5)).mono ?_
  rintro e w6 ⟨rfl, hb6⟩
  have k_w_w6 := k_w_w5.trans (hb6.mono k_w_w5.size)
  clear k_w_w5
  have k_w1_w6 := k_w1_w5.trans (hb6.mono k_w1_w5.size)
  clear k_w1_w5
  have k_w2_w6 := k_w2_w5.trans (hb6.mono k_w2_w5.size)
  clear k_w2_w5
  have k_u2_w6 := k_u2_w5.trans (hb6.mono k_u2_w5.size)
  clear k_u2_w5
  have k_w3_w6 := k_w3_w5.trans (hb6.mono k_w3_w5.size)
  clear k_w3_w5
  have k_u3_w6 := k_u3_w5.trans (hb6.mono k_u3_w5.size)
  clear k_u3_w5
  have k_w4_w6 := hb5.trans (hb6.mono hb5.size)
  clear hb5
  go_wp2_with fail
  refine (path_s (hp.below k_w1_w6)).mono ?_
  rintro e w7 ⟨v12, rfl, hi7, hb7⟩
  have k_w_w7 := k_w_w6.trans (hb7.mono k_w_w6.size)
  clear k_w_w6
  have k_w1_w7 := k_w1_w6.trans (hb7.mono k_w1_w6.size)
  clear k_w1_w6
  have k_w2_w7 := k_w2_w6.trans (hb7.mono k_w2_w6.size)
  clear k_w2_w6
  have k_u2_w7 := k_u2_w6.trans (hb7.mono k_u2_w6.size)
  clear k_u2_w6
  have k_w3_w7 := k_w3_w6.trans (hb7.mono k_w3_w6.size)
  clear k_w3_w6
  have k_u3_w7 := k_u3_w6.trans (hb7.mono k_u3_w6.size)
  clear k_u3_w6
  have k_w4_w7 := k_w4_w6.trans (hb7.mono k_w4_w6.size)
  clear k_w4_w6
  have k_w5_w7 := hb6.trans (hb7.mono hb6.size)
  clear hb6
  go_wp2_with fail
  refine (read_s (HG.out.below k_w_w7)).mono ?_
  rintro e w8 ⟨rfl, hb8⟩
  have k_w_w8 := k_w_w7.trans (hb8.mono k_w_w7.size)
  clear k_w_w7
  have k_w1_w8 := k_w1_w7.trans (hb8.mono k_w1_w7.size)
  clear k_w1_w7
  have k_w2_w8 := k_w2_w7.trans (hb8.mono k_w2_w7.size)
  clear k_w2_w7
  have k_u2_w8 := k_u2_w7.trans (hb8.mono k_u2_w7.size)
  clear k_u2_w7
  have k_w3_w8 := k_w3_w7.trans (hb8.mono k_w3_w7.size)
  clear k_w3_w7
  have k_u3_w8 := k_u3_w7.trans (hb8.mono k_u3_w7.size)
  clear k_u3_w7
  have k_w4_w8 := k_w4_w7.trans (hb8.mono k_w4_w7.size)
  clear k_w4_w7
  have k_w5_w8 := k_w5_w7.trans (hb8.mono k_w5_w7.size)
  clear k_w5_w7
  have k_w6_w8 := hb7.trans (hb8.mono hb7.size)
  clear hb7
  have hbu8 : Below w8.heap.size w8 (w8.alloc (.cells #[.int .i64 8, .int .i64 6, .int .u8 1, .int .i64 1, .int .i64 2, .int .i64 0, .string ⟨#[120, 49]⟩, .string ⟨#[99, 104, 101, 115, 116, 115]⟩, .int .i64 10, .int .i64 20, .int .i64 1, .int .i64 8, .int .i64 0, .int .i64 0] 28)) := (Below.refl _ _).alloc (Nat.le_refl _) _
  have hzu8 : w8.heap.size < (w8.alloc (.cells #[.int .i64 8, .int .i64 6, .int .u8 1, .int .i64 1, .int .i64 2, .int .i64 0, .string ⟨#[120, 49]⟩, .string ⟨#[99, 104, 101, 115, 116, 115]⟩, .int .i64 10, .int .i64 20, .int .i64 1, .int .i64 8, .int .i64 0, .int .i64 0] 28)).heap.size := by simp
  go_wp2_with fail
  generalize (w8.alloc (.cells #[.int .i64 8, .int .i64 6, .int .u8 1, .int .i64 1, .int .i64 2, .int .i64 0, .string ⟨#[120, 49]⟩, .string ⟨#[99, 104, 101, 115, 116, 115]⟩, .int .i64 10, .int .i64 20, .int .i64 1, .int .i64 8, .int .i64 0, .int .i64 0] 28)) = u8 at *
  have k_w_u8 := k_w_w8.trans (hbu8.mono k_w_w8.size)
  clear k_w_w8
  have k_w1_u8 := k_w1_w8.trans (hbu8.mono k_w1_w8.size)
  clear k_w1_w8
  have k_w2_u8 := k_w2_w8.trans (hbu8.mono k_w2_w8.size)
  clear k_w2_w8
  have k_u2_u8 := k_u2_w8.trans (hbu8.mono k_u2_w8.size)
  clear k_u2_w8
  have k_w3_u8 := k_w3_w8.trans (hbu8.mono k_w3_w8.size)
  clear k_w3_w8
  have k_u3_u8 := k_u3_w8.trans (hbu8.mono k_u3_w8.size)
  clear k_u3_w8
  have k_w4_u8 := k_w4_w8.trans (hbu8.mono k_w4_w8.size)
  clear k_w4_w8
  have k_w5_u8 := k_w5_w8.trans (hbu8.mono k_w5_w8.size)
  clear k_w5_w8
  have k_w6_u8 := k_w6_w8.trans (hbu8.mono k_w6_w8.size)
  clear k_w6_w8
  have k_w7_u8 := hb8.trans (hbu8.mono hb8.size)
  clear hb8
  refine (app_s (hp.below k_w1_u8)).mono ?_
  rintro e w9 ⟨v16, rfl, hp9, hb9⟩
  have k_w_w9 := k_w_u8.trans (hb9.mono k_w_u8.size)
  clear k_w_u8
  have k_w1_w9 := k_w1_u8.trans (hb9.mono k_w1_u8.size)
  clear k_w1_u8
  have k_w2_w9 := k_w2_u8.trans (hb9.mono k_w2_u8.size)
  clear k_w2_u8
  have k_u2_w9 := k_u2_u8.trans (hb9.mono k_u2_u8.size)
  clear k_u2_u8
  have k_w3_w9 := k_w3_u8.trans (hb9.mono k_w3_u8.size)
  clear k_w3_u8
  have k_u3_w9 := k_u3_u8.trans (hb9.mono k_u3_u8.size)
  clear k_u3_u8
  have k_w4_w9 := k_w4_u8.trans (hb9.mono k_w4_u8.size)
  clear k_w4_u8
  have k_w5_w9 := k_w5_u8.trans (hb9.mono k_w5_u8.size)
  clear k_w5_u8
  have k_w6_w9 := k_w6_u8.trans (hb9.mono k_w6_u8.size)
  clear k_w6_u8
  have k_w7_w9 := k_w7_u8.trans (hb9.mono k_w7_u8.size)
  clear k_w7_u8
  have k_w8_w9 := hbu8.trans (hb9.mono hbu8.size)
  clear hbu8
  go_wp2_with fail
  refine (doubt_s hp9).mono ?_
  rintro e w10 ⟨v18, rfl, hi10, hb10⟩
  have k_w_w10 := k_w_w9.trans (hb10.mono k_w_w9.size)
  clear k_w_w9
  have k_w1_w10 := k_w1_w9.trans (hb10.mono k_w1_w9.size)
  clear k_w1_w9
  have k_w2_w10 := k_w2_w9.trans (hb10.mono k_w2_w9.size)
  clear k_w2_w9
  have k_u2_w10 := k_u2_w9.trans (hb10.mono k_u2_w9.size)
  clear k_u2_w9
  have k_w3_w10 := k_w3_w9.trans (hb10.mono k_w3_w9.size)
  clear k_w3_w9
  have k_u3_w10 := k_u3_w9.trans (hb10.mono k_u3_w9.size)
  clear k_u3_w9
  have k_w4_w10 := k_w4_w9.trans (hb10.mono k_w4_w9.size)
  clear k_w4_w9
  have k_w5_w10 := k_w5_w9.trans (hb10.mono k_w5_w9.size)
  clear k_w5_w9
  have k_w6_w10 := k_w6_w9.trans (hb10.mono k_w6_w9.size)
  clear k_w6_w9
  have k_w7_w10 := k_w7_w9.trans (hb10.mono k_w7_w9.size)
  clear k_w7_w9
  have k_w8_w10 := k_w8_w9.trans (hb10.mono k_w8_w9.size)
  clear k_w8_w9
  have k_u8_w10 := hb9.trans (hb10.mono hb9.size)
  clear hb9
  go_wp2_with fail
  refine (eq_lit v6 [2, 7] w4 w10 hi4 k_w4_w10 (by decide) (by decide) _ rfl 2 rfl).mono ?_
  rintro e w11 ⟨rfl, hb11⟩
  have k_w_w11 := k_w_w10.trans (hb11.mono k_w_w10.size)
  clear k_w_w10
  have k_w1_w11 := k_w1_w10.trans (hb11.mono k_w1_w10.size)
  clear k_w1_w10
  have k_w2_w11 := k_w2_w10.trans (hb11.mono k_w2_w10.size)
  clear k_w2_w10
  have k_u2_w11 := k_u2_w10.trans (hb11.mono k_u2_w10.size)
  clear k_u2_w10
  have k_w3_w11 := k_w3_w10.trans (hb11.mono k_w3_w10.size)
  clear k_w3_w10
  have k_u3_w11 := k_u3_w10.trans (hb11.mono k_u3_w10.size)
  clear k_u3_w10
  have k_w4_w11 := k_w4_w10.trans (hb11.mono k_w4_w10.size)
  clear k_w4_w10
  have k_w5_w11 := k_w5_w10.trans (hb11.mono k_w5_w10.size)
  clear k_w5_w10
  have k_w6_w11 := k_w6_w10.trans (hb11.mono k_w6_w10.size)
  clear k_w6_w10
  have k_w7_w11 := k_w7_w10.trans (hb11.mono k_w7_w10.size)
  clear k_w7_w10
  have k_w8_w11 := k_w8_w10.trans (hb11.mono k_w8_w10.size)
  clear k_w8_w10
  have k_u8_w11 := k_u8_w10.trans (hb11.mono k_u8_w10.size)
  clear k_u8_w10
  have k_w9_w11 := hb10.trans (hb11.mono hb10.size)
  clear hb10
  go_wp2_with fail
  refine (eq_lit v8 [1] w5 w11 hi5 k_w5_w11 (by decide) (by decide) _ rfl 1 rfl).mono ?_
  rintro e w12 ⟨rfl, hb12⟩
  have k_w_w12 := k_w_w11.trans (hb12.mono k_w_w11.size)
  clear k_w_w11
  have k_w1_w12 := k_w1_w11.trans (hb12.mono k_w1_w11.size)
  clear k_w1_w11
  have k_w2_w12 := k_w2_w11.trans (hb12.mono k_w2_w11.size)
  clear k_w2_w11
  have k_u2_w12 := k_u2_w11.trans (hb12.mono k_u2_w11.size)
  clear k_u2_w11
  have k_w3_w12 := k_w3_w11.trans (hb12.mono k_w3_w11.size)
  clear k_w3_w11
  have k_u3_w12 := k_u3_w11.trans (hb12.mono k_u3_w11.size)
  clear k_u3_w11
  have k_w4_w12 := k_w4_w11.trans (hb12.mono k_w4_w11.size)
  clear k_w4_w11
  have k_w5_w12 := k_w5_w11.trans (hb12.mono k_w5_w11.size)
  clear k_w5_w11
  have k_w6_w12 := k_w6_w11.trans (hb12.mono k_w6_w11.size)
  clear k_w6_w11
  have k_w7_w12 := k_w7_w11.trans (hb12.mono k_w7_w11.size)
  clear k_w7_w11
  have k_w8_w12 := k_w8_w11.trans (hb12.mono k_w8_w11.size)
  clear k_w8_w11
  have k_u8_w12 := k_u8_w11.trans (hb12.mono k_u8_w11.size)
  clear k_u8_w11
  have k_w9_w12 := k_w9_w11.trans (hb12.mono k_w9_w11.size)
  clear k_w9_w11
  have k_w10_w12 := hb11.trans (hb12.mono hb11.size)
  clear hb11
  go_wp2_with fail
  refine (eq_lit v12 [2, 4] w7 w12 hi7 k_w7_w12 (by decide) (by decide) _ rfl 2 rfl).mono ?_
  rintro e w13 ⟨rfl, hb13⟩
  have k_w_w13 := k_w_w12.trans (hb13.mono k_w_w12.size)
  clear k_w_w12
  have k_w1_w13 := k_w1_w12.trans (hb13.mono k_w1_w12.size)
  clear k_w1_w12
  have k_w2_w13 := k_w2_w12.trans (hb13.mono k_w2_w12.size)
  clear k_w2_w12
  have k_u2_w13 := k_u2_w12.trans (hb13.mono k_u2_w12.size)
  clear k_u2_w12
  have k_w3_w13 := k_w3_w12.trans (hb13.mono k_w3_w12.size)
  clear k_w3_w12
  have k_u3_w13 := k_u3_w12.trans (hb13.mono k_u3_w12.size)
  clear k_u3_w12
  have k_w4_w13 := k_w4_w12.trans (hb13.mono k_w4_w12.size)
  clear k_w4_w12
  have k_w5_w13 := k_w5_w12.trans (hb13.mono k_w5_w12.size)
  clear k_w5_w12
  have k_w6_w13 := k_w6_w12.trans (hb13.mono k_w6_w12.size)
  clear k_w6_w12
  have k_w7_w13 := k_w7_w12.trans (hb13.mono k_w7_w12.size)
  clear k_w7_w12
  have k_w8_w13 := k_w8_w12.trans (hb13.mono k_w8_w12.size)
  clear k_w8_w12
  have k_u8_w13 := k_u8_w12.trans (hb13.mono k_u8_w12.size)
  clear k_u8_w12
  have k_w9_w13 := k_w9_w12.trans (hb13.mono k_w9_w12.size)
  clear k_w9_w12
  have k_w10_w13 := k_w10_w12.trans (hb13.mono k_w10_w12.size)
  clear k_w10_w12
  have k_w11_w13 := hb12.trans (hb13.mono hb12.size)
  clear hb12
  go_wp2_with fail
  refine (eq_lit v18 [5, 8] w10 w13 hi10 k_w10_w13 (by decide) (by decide) _ rfl 2 rfl).mono ?_
  rintro e w14 ⟨rfl, hb14⟩
  have k_w_w14 := k_w_w13.trans (hb14.mono k_w_w13.size)
  clear k_w_w13
  have k_w1_w14 := k_w1_w13.trans (hb14.mono k_w1_w13.size)
  clear k_w1_w13
  have k_w2_w14 := k_w2_w13.trans (hb14.mono k_w2_w13.size)
  clear k_w2_w13
  have k_u2_w14 := k_u2_w13.trans (hb14.mono k_u2_w13.size)
  clear k_u2_w13
  have k_w3_w14 := k_w3_w13.trans (hb14.mono k_w3_w13.size)
  clear k_w3_w13
  have k_u3_w14 := k_u3_w13.trans (hb14.mono k_u3_w13.size)
  clear k_u3_w13
  have k_w4_w14 := k_w4_w13.trans (hb14.mono k_w4_w13.size)
  clear k_w4_w13
  have k_w5_w14 := k_w5_w13.trans (hb14.mono k_w5_w13.size)
  clear k_w5_w13
  have k_w6_w14 := k_w6_w13.trans (hb14.mono k_w6_w13.size)
  clear k_w6_w13
  have k_w7_w14 := k_w7_w13.trans (hb14.mono k_w7_w13.size)
  clear k_w7_w13
  have k_w8_w14 := k_w8_w13.trans (hb14.mono k_w8_w13.size)
  clear k_w8_w13
  have k_u8_w14 := k_u8_w13.trans (hb14.mono k_u8_w13.size)
  clear k_u8_w13
  have k_w9_w14 := k_w9_w13.trans (hb14.mono k_w9_w13.size)
  clear k_w9_w13
  have k_w10_w14 := k_w10_w13.trans (hb14.mono k_w10_w13.size)
  clear k_w10_w13
  have k_w11_w14 := k_w11_w13.trans (hb14.mono k_w11_w13.size)
  clear k_w11_w13
  have k_w12_w14 := hb13.trans (hb14.mono hb13.size)
  clear hb13
  go_wp2_with fail
  refine (leaves_s (hp.below k_w1_w14)).mono ?_
  rintro e w15 ⟨vl, rfl, hi15, hb15⟩
  have k_w_w15 := k_w_w14.trans (hb15.mono k_w_w14.size)
  clear k_w_w14
  have k_w1_w15 := k_w1_w14.trans (hb15.mono k_w1_w14.size)
  clear k_w1_w14
  have k_w2_w15 := k_w2_w14.trans (hb15.mono k_w2_w14.size)
  clear k_w2_w14
  have k_u2_w15 := k_u2_w14.trans (hb15.mono k_u2_w14.size)
  clear k_u2_w14
  have k_w3_w15 := k_w3_w14.trans (hb15.mono k_w3_w14.size)
  clear k_w3_w14
  have k_u3_w15 := k_u3_w14.trans (hb15.mono k_u3_w14.size)
  clear k_u3_w14
  have k_w4_w15 := k_w4_w14.trans (hb15.mono k_w4_w14.size)
  clear k_w4_w14
  have k_w5_w15 := k_w5_w14.trans (hb15.mono k_w5_w14.size)
  clear k_w5_w14
  have k_w6_w15 := k_w6_w14.trans (hb15.mono k_w6_w14.size)
  clear k_w6_w14
  have k_w7_w15 := k_w7_w14.trans (hb15.mono k_w7_w14.size)
  clear k_w7_w14
  have k_w8_w15 := k_w8_w14.trans (hb15.mono k_w8_w14.size)
  clear k_w8_w14
  have k_u8_w15 := k_u8_w14.trans (hb15.mono k_u8_w14.size)
  clear k_u8_w14
  have k_w9_w15 := k_w9_w14.trans (hb15.mono k_w9_w14.size)
  clear k_w9_w14
  have k_w10_w15 := k_w10_w14.trans (hb15.mono k_w10_w14.size)
  clear k_w10_w14
  have k_w11_w15 := k_w11_w14.trans (hb15.mono k_w11_w14.size)
  clear k_w11_w14
  have k_w12_w15 := k_w12_w14.trans (hb15.mono k_w12_w14.size)
  clear k_w12_w14
  have k_w13_w15 := hb14.trans (hb15.mono hb14.size)
  clear hb14
  go_wp2_with fail
  refine (eq_lit vl [1, 3, 4] w15 w15 hi15 (Below.refl _ _) (by decide) (by decide) _ rfl 3 rfl).mono ?_
  rintro e w16 ⟨rfl, hb16⟩
  have k_w_w16 := k_w_w15.trans (hb16.mono k_w_w15.size)
  clear k_w_w15
  have k_w1_w16 := k_w1_w15.trans (hb16.mono k_w1_w15.size)
  clear k_w1_w15
  have k_w2_w16 := k_w2_w15.trans (hb16.mono k_w2_w15.size)
  clear k_w2_w15
  have k_u2_w16 := k_u2_w15.trans (hb16.mono k_u2_w15.size)
  clear k_u2_w15
  have k_w3_w16 := k_w3_w15.trans (hb16.mono k_w3_w15.size)
  clear k_w3_w15
  have k_u3_w16 := k_u3_w15.trans (hb16.mono k_u3_w15.size)
  clear k_u3_w15
  have k_w4_w16 := k_w4_w15.trans (hb16.mono k_w4_w15.size)
  clear k_w4_w15
  have k_w5_w16 := k_w5_w15.trans (hb16.mono k_w5_w15.size)
  clear k_w5_w15
  have k_w6_w16 := k_w6_w15.trans (hb16.mono k_w6_w15.size)
  clear k_w6_w15
  have k_w7_w16 := k_w7_w15.trans (hb16.mono k_w7_w15.size)
  clear k_w7_w15
  have k_w8_w16 := k_w8_w15.trans (hb16.mono k_w8_w15.size)
  clear k_w8_w15
  have k_u8_w16 := k_u8_w15.trans (hb16.mono k_u8_w15.size)
  clear k_u8_w15
  have k_w9_w16 := k_w9_w15.trans (hb16.mono k_w9_w15.size)
  clear k_w9_w15
  have k_w10_w16 := k_w10_w15.trans (hb16.mono k_w10_w15.size)
  clear k_w10_w15
  have k_w11_w16 := k_w11_w15.trans (hb16.mono k_w11_w15.size)
  clear k_w11_w15
  have k_w12_w16 := k_w12_w15.trans (hb16.mono k_w12_w15.size)
  clear k_w12_w15
  have k_w13_w16 := k_w13_w15.trans (hb16.mono k_w13_w15.size)
  clear k_w13_w15
  have k_w14_w16 := hb15.trans (hb16.mono hb15.size)
  clear hb15
  have d20 := (k_u2_w16.cell (p := ⟨w2.heap.size, 0, none⟩) hzu2).trans c20
  have d21 := (k_u2_w16.cell (p := ⟨w2.heap.size, 1, none⟩) hzu2).trans c21
  have d30 := (k_u3_w16.cell (p := ⟨w3.heap.size, 0, none⟩) hzu3).trans c30
  have d31 := (k_u3_w16.cell (p := ⟨w3.heap.size, 1, none⟩) hzu3).trans c31
  have HB := Lib.hid k_w_w16
  clear k_w_w16 k_w1_w16 k_w2_w16 k_u2_w16 k_w3_w16 k_u3_w16 k_w4_w16 k_w5_w16 k_w6_w16 k_w7_w16 k_w8_w16 k_u8_w16 k_w9_w16 k_w10_w16 k_w11_w16 k_w12_w16 k_w13_w16 k_w14_w16 hb16
  go_wp2_with fail
  refine (HM1.out w16).mono ?_
  rintro e w17 ⟨rfl, hb17⟩
  go_wp2_with fail
  refine (HM2.out w17).mono ?_
  rintro e w18 ⟨rfl, hb18⟩
  go_wp2_with fail
  refine (HS1.out w18).mono ?_
  rintro e w19 ⟨rfl, rfl⟩
  go_wp2_with fail
  go_ret
  exact ⟨rfl, (HB.out.trans (hb17.mono HB.out.size)).trans (hb18.mono (Nat.le_trans HB.out.size hb17.size))⟩

end Go.Proofs.YtpffpofdceppiaaGreatDoor
