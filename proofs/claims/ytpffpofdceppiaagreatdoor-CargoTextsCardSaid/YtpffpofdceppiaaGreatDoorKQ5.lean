/- A part of the proof that laganlaw01.CargoTexts answers true at every input and leaves its arguments as they were; the conditions are those of the given row and card, nothing else. -/
import Derived.Test.YtpffpofdceppiaaGreatDoorKV8
import Derived.Test.YtpffpofdceppiaaGreatDoorKR7
import Derived.Test.YtpffpofdceppiaaGreatDoorKR12
set_option linter.unusedSimpArgs false
set_option linter.unusedVariables false
namespace Go.Proofs.YtpffpofdceppiaaGreatDoor
open Go.RowKit Go.Shelf

theorem writeB_size {x : Paper} (h : formed x = true) : (writeB x).size ≤ 1000 := by
  have hi := formed_ids x h
  have hb := formed_bounds x h
  rw [← writeRB_eq x h]
  have hdz := digB_size (n := x.id.toNat) (by omega)
  have h0 : (idB x).size ≤ 60 := by unfold idB; have := rowI_size (digB x.id.toNat) [x.known] (by intro n hn; simp at hn; subst hn; omega); simp at this; omega
  have z1 : (⟨#[32, 118, 111, 105, 100]⟩ : ByteArray).size = 5 := rfl
  have z2 : (⟨#[32, 116, 111, 116, 97, 108]⟩ : ByteArray).size = 6 := rfl
  have z3 : (⟨#[32, 112, 97, 99, 107, 97, 103, 101]⟩ : ByteArray).size = 8 := rfl
  have z4 : (⟨#[32]⟩ : ByteArray).size = 1 := rfl
  unfold writeRB
  split
  · have := rowI_size (idB x ++ ⟨#[32, 118, 111, 105, 100]⟩) [x.of] (by intro n hn; simp at hn; subst hn; omega)
    rw [ByteArray.size_append] at this
    simp only [List.length_cons, List.length_nil] at this
    omega
  · split
    · have := rowI_size (idB x ++ ⟨#[32, 116, 111, 116, 97, 108]⟩) [x.loss, x.pack, x.count, x.lo, x.hi] (by intro n hn; simp at hn; rcases hn with rfl | rfl | rfl | rfl | rfl <;> omega)
      rw [ByteArray.size_append] at this
      simp only [List.length_cons, List.length_nil] at this
      omega
    · have h1 := rowI_size (idB x ++ ⟨#[32, 112, 97, 99, 107, 97, 103, 101]⟩) [x.loss, x.pack, x.inn] (by intro n hn; simp at hn; rcases hn with rfl | rfl | rfl <;> omega)
      have := rowI_size (rowI (idB x ++ ⟨#[32, 112, 97, 99, 107, 97, 103, 101]⟩) [x.loss, x.pack, x.inn] ++ ⟨#[32]⟩ ++ x.mark ++ ⟨#[32]⟩ ++ x.goods) [x.lo, x.hi, x.pieces, x.owner] (by intro n hn; simp at hn; rcases hn with rfl | rfl | rfl | rfl <;> omega)
      rw [ByteArray.size_append] at h1
      simp only [ByteArray.size_append, z4] at this
      simp only [List.length_cons, List.length_nil] at this h1
      omega

theorem box_in (W : World) (x : Paper) : PaperIn (W.alloc (.cells #[.int .i64 x.id, .int .i64 x.known, .int .u8 x.kind, .int .i64 x.loss, .int .i64 x.pack, .int .i64 x.inn, .string x.mark, .string x.goods, .int .i64 x.lo, .int .i64 x.hi, .int .i64 x.pieces, .int .i64 x.owner, .int .i64 x.count, .int .i64 x.of] 28)) W.heap.size x := box_all W x
theorem PaperIn.later {W w' : World} {b : Nat} {x : Paper} (h : PaperIn W b x) (hb : Below W.heap.size W w') : PaperIn w' b x := h.of_heap (hb.block _ (cell_lt (w := W) (a := ⟨b, 0, none⟩) h.1))
theorem PaperIn.al {W : World} {b : Nat} {x : Paper} (h : PaperIn W b x) (o : Obj) : PaperIn (W.alloc o) b x := h.later ((Below.refl _ W).alloc (Nat.le_refl _) o)

/-- What Write and Read do, as the law asks it. -/
theorem texts_back (x : Paper) (s : ByteArray) : ((writeP x).2 = 0 ∧ readP (writeP x).1 = (x, 0) ∧ (writeP x).1.size ≤ 1000 ∨ (writeP x).2 = 1) ∧ ((readP s).2 = 0 ∧ writeP (readP s).1 = (s, 0) ∧ (readP s).1.mark.size ≤ 100 ∧ (readP s).1.goods.size ≤ 100 ∨ (readP s).2 = 4) := by
  constructor
  · cases hf : formed x with
    | true =>
      rw [writeP_formed hf]
      exact .inl ⟨rfl, readP_of hf, writeB_size hf⟩
    | false =>
      refine .inr ?_
      unfold writeP
      rw [if_neg (by rw [hf]; decide)]
  · rcases readP_cases s with ⟨y, h1, h2, h3⟩ | ⟨h1, h2⟩
    · have hb := formed_bounds y h1
      refine .inl ?_
      rw [h3]
      exact ⟨rfl, by rw [writeP_formed h1, h2], by show y.mark.size ≤ 100; omega, by show y.goods.size ≤ 100; omega⟩
    · refine .inr ?_
      rw [h2]

set_option maxRecDepth 100000 in
set_option maxHeartbeats 8000000 in
theorem CargoTexts_any (x : Paper) (s : ByteArray) (w : World) (hG : Gl w) (hm : x.mark.size ≤ maxLen) (hg : x.goods.size ≤ maxLen) (hs : s.size ≤ maxLen) :
    Calls Tryz.prog 4 #[.agg x.vals.toArray, .string s] w fun e w' => e = .returned (.bool true) ∧ Below w.heap.size w w' := by
  unfold maxLen at hm hg hs
  have HAl := Lib.hid (fun (W : World) (h : Below w.heap.size w W) => alive_any W (hG.below h))
  have hB0 : Below w.heap.size w ((w.alloc (.cells #[.int .i64 x.id, .int .i64 x.known, .int .u8 x.kind, .int .i64 x.loss, .int .i64 x.pack, .int .i64 x.inn, .string x.mark, .string x.goods, .int .i64 x.lo, .int .i64 x.hi, .int .i64 x.pieces, .int .i64 x.owner, .int .i64 x.count, .int .i64 x.of] 28)).alloc (.cells #[.int .i64 x.id, .int .i64 x.known, .int .u8 x.kind, .int .i64 x.loss, .int .i64 x.pack, .int .i64 x.inn, .string x.mark, .string x.goods, .int .i64 x.lo, .int .i64 x.hi, .int .i64 x.pieces, .int .i64 x.owner, .int .i64 x.count, .int .i64 x.of] 28)) := ((Below.refl _ w).alloc (Nat.le_refl _) _).alloc (by simp) _
  have PX0 : PaperIn ((w.alloc (.cells #[.int .i64 x.id, .int .i64 x.known, .int .u8 x.kind, .int .i64 x.loss, .int .i64 x.pack, .int .i64 x.inn, .string x.mark, .string x.goods, .int .i64 x.lo, .int .i64 x.hi, .int .i64 x.pieces, .int .i64 x.owner, .int .i64 x.count, .int .i64 x.of] 28)).alloc (.cells #[.int .i64 x.id, .int .i64 x.known, .int .u8 x.kind, .int .i64 x.loss, .int .i64 x.pack, .int .i64 x.inn, .string x.mark, .string x.goods, .int .i64 x.lo, .int .i64 x.hi, .int .i64 x.pieces, .int .i64 x.owner, .int .i64 x.count, .int .i64 x.of] 28)) w.heap.size x := (box_in w x).al _
  have hPA : PapersAt ((w.alloc (.cells #[.int .i64 x.id, .int .i64 x.known, .int .u8 x.kind, .int .i64 x.loss, .int .i64 x.pack, .int .i64 x.inn, .string x.mark, .string x.goods, .int .i64 x.lo, .int .i64 x.hi, .int .i64 x.pieces, .int .i64 x.owner, .int .i64 x.count, .int .i64 x.of] 28)).alloc (.cells #[.int .i64 x.id, .int .i64 x.known, .int .u8 x.kind, .int .i64 x.loss, .int .i64 x.pack, .int .i64 x.inn, .string x.mark, .string x.goods, .int .i64 x.lo, .int .i64 x.hi, .int .i64 x.pieces, .int .i64 x.owner, .int .i64 x.count, .int .i64 x.of] 28)) (.slice (some ⟨w.heap.size + 1, 0, none⟩) 1 1) [x] := by
    refine ⟨some ⟨w.heap.size + 1, 0, none⟩, 1, rfl, Nat.le_refl _, by unfold maxLen; omega, fun _ => ⟨w.heap.size + 1, 0, rfl, by simp, fun j hj i u hu => ?_⟩⟩
    have hj0 : j = 0 := by simp at hj; omega
    subst hj0
    have e : w.heap.size + 1 = (w.alloc (.cells #[.int .i64 x.id, .int .i64 x.known, .int .u8 x.kind, .int .i64 x.loss, .int .i64 x.pack, .int .i64 x.inn, .string x.mark, .string x.goods, .int .i64 x.lo, .int .i64 x.hi, .int .i64 x.pieces, .int .i64 x.owner, .int .i64 x.count, .int .i64 x.of] 28)).heap.size := by simp
    rw [e, Nat.zero_mul, Nat.zero_add, World.cell?_alloc_new, ← hu]
    simp [Paper.vals]
  have HFw := Lib.hid (FewR_any _ [x] 1 _ hPA)
  have HFP : Hid (fewP [x] 1 = okX x) := by show _ = _; unfold fewP; simp
  have HOX := Lib.hid (okX_iff x)
  clear hPA
  show Calls Tryz.prog 4 #[.agg #[.int .i64 x.id, .int .i64 x.known, .int .u8 x.kind, .int .i64 x.loss, .int .i64 x.pack, .int .i64 x.inn, .string x.mark, .string x.goods, .int .i64 x.lo, .int .i64 x.hi, .int .i64 x.pieces, .int .i64 x.owner, .int .i64 x.count, .int .i64 x.of], .string s] w _
  cases hf : fewP [x] 1
  · rw [hf] at HFw
    clear hf HFP HOX
    go_enter Tryz.func4, Tryz.ntmps4
    go_wp2_with fail
    refine HFw.out.mono ?_
    rintro e w1 ⟨rfl, rfl⟩
    go_wp2_with fail
    refine (HAl.out _ hB0).mono ?_
    rintro e w1 ⟨rfl, hb⟩
    go_wp2_with fail
    go_ret
    exact ⟨rfl, keepB hB0 hb⟩
  rw [hf] at HFw
  have hox : okS x := HOX.out.1 (by rw [← HFP.out, hf])
  obtain ⟨hx1, hx2⟩ := hox
  clear hf HFP HOX
  by_cases hbig : 400 < (s.size : Int)
  · go_enter Tryz.func4, Tryz.ntmps4
    go_wp2_with fail
    refine HFw.out.mono ?_
    rintro e w1 ⟨rfl, rfl⟩
    go_wp2_with fail
    refine (HAl.out _ hB0).mono ?_
    rintro e w1 ⟨rfl, hb⟩
    go_wp2_with fail
    go_ret
    exact ⟨rfl, keepB hB0 hb⟩
  obtain ⟨hTe, hTg⟩ := texts_back x s
  have HW := Lib.hid (fun W (h : Below w.heap.size w W) => Write_any x W (by omega) (by omega) (hG.below h))
  have HWR := Lib.hid (fun W => WriteR_any x W (by omega) (by omega))
  have HR := Lib.hid (fun W (h : Below w.heap.size w W) => Read_any s W (by omega) (hG.below h))
  have HRR := Lib.hid (fun W => ReadR_any s W (by omega))
  rw [readRP_eq] at HRR
  have HRt := Lib.hid (fun (t : ByteArray) (ht : t.size ≤ 1000) W (h : Below w.heap.size w W) => Read_any t W (by omega) (hG.below h))
  have HWy := Lib.hid (fun (y : Paper) (h1 : y.mark.size ≤ 100) (h2 : y.goods.size ≤ 100) W (h : Below w.heap.size w W) => Write_any y W (by omega) (by omega) (hG.below h))
  have HW : Hid (∀ W, Below w.heap.size w W → Calls Tryz.prog 24 #[.agg #[.int .i64 x.id, .int .i64 x.known, .int .u8 x.kind, .int .i64 x.loss, .int .i64 x.pack, .int .i64 x.inn, .string x.mark, .string x.goods, .int .i64 x.lo, .int .i64 x.hi, .int .i64 x.pieces, .int .i64 x.owner, .int .i64 x.count, .int .i64 x.of]] W fun e w' => e = .returned (.tuple #[.string (writeP x).1, .int .i64 (writeP x).2]) ∧ Below W.heap.size W w') := HW
  have HWR : Hid (∀ W, Calls Tryz.prog 25 #[.agg #[.int .i64 x.id, .int .i64 x.known, .int .u8 x.kind, .int .i64 x.loss, .int .i64 x.pack, .int .i64 x.inn, .string x.mark, .string x.goods, .int .i64 x.lo, .int .i64 x.hi, .int .i64 x.pieces, .int .i64 x.owner, .int .i64 x.count, .int .i64 x.of]] W fun e w' => e = .returned (.tuple #[.string (writeP x).1, .int .i64 (writeP x).2]) ∧ Below W.heap.size W w') := HWR
  generalize writeP x = wx at *
  obtain ⟨t, er⟩ := wx
  generalize readP s = rs at *
  obtain ⟨y, gr⟩ := rs
  dsimp only at hTe hTg HW HWR HR HRR
  have HR : Hid (∀ W, Below w.heap.size w W → Calls Tryz.prog 26 #[.string s] W fun e w' => e = .returned (.tuple #[.agg #[.int .i64 y.id, .int .i64 y.known, .int .u8 y.kind, .int .i64 y.loss, .int .i64 y.pack, .int .i64 y.inn, .string y.mark, .string y.goods, .int .i64 y.lo, .int .i64 y.hi, .int .i64 y.pieces, .int .i64 y.owner, .int .i64 y.count, .int .i64 y.of], .int .i64 gr]) ∧ Below W.heap.size W w') := HR
  have HRR : Hid (∀ W, Calls Tryz.prog 27 #[.string s] W fun e w' => e = .returned (.tuple #[.agg #[.int .i64 y.id, .int .i64 y.known, .int .u8 y.kind, .int .i64 y.loss, .int .i64 y.pack, .int .i64 y.inn, .string y.mark, .string y.goods, .int .i64 y.lo, .int .i64 y.hi, .int .i64 y.pieces, .int .i64 y.owner, .int .i64 y.count, .int .i64 y.of], .int .i64 gr]) ∧ Below W.heap.size W w') := HRR
  have hqy := run_neq28 y y
  have hqy : ∀ W, (binOp .neq 28 (.agg #[.int .i64 y.id, .int .i64 y.known, .int .u8 y.kind, .int .i64 y.loss, .int .i64 y.pack, .int .i64 y.inn, .string y.mark, .string y.goods, .int .i64 y.lo, .int .i64 y.hi, .int .i64 y.pieces, .int .i64 y.owner, .int .i64 y.count, .int .i64 y.of]) (.agg #[.int .i64 y.id, .int .i64 y.known, .int .u8 y.kind, .int .i64 y.loss, .int .i64 y.pack, .int .i64 y.inn, .string y.mark, .string y.goods, .int .i64 y.lo, .int .i64 y.hi, .int .i64 y.pieces, .int .i64 y.owner, .int .i64 y.count, .int .i64 y.of])).run Tryz.prog W = .ok (.bool (!decide (y = y))) W := hqy
  rw [decide_eq_true rfl] at hqy
  have hqx := run_neq28 x x
  have hqx : ∀ W, (binOp .neq 28 (.agg #[.int .i64 x.id, .int .i64 x.known, .int .u8 x.kind, .int .i64 x.loss, .int .i64 x.pack, .int .i64 x.inn, .string x.mark, .string x.goods, .int .i64 x.lo, .int .i64 x.hi, .int .i64 x.pieces, .int .i64 x.owner, .int .i64 x.count, .int .i64 x.of]) (.agg #[.int .i64 x.id, .int .i64 x.known, .int .u8 x.kind, .int .i64 x.loss, .int .i64 x.pack, .int .i64 x.inn, .string x.mark, .string x.goods, .int .i64 x.lo, .int .i64 x.hi, .int .i64 x.pieces, .int .i64 x.owner, .int .i64 x.count, .int .i64 x.of])).run Tryz.prog W = .ok (.bool (!decide (x = x))) W := hqx
  rw [decide_eq_true rfl] at hqx
  clear hG hm hg hs
  go_enter Tryz.func4, Tryz.ntmps4
  go_wp2_with fail
  refine HFw.out.mono ?_
  rintro e w1 ⟨rfl, rfl⟩
  clear HFw
  obtain ⟨c0, c1, c2, c3, c4, c5, c6, c7, c8, c9, c10, c11, c12, c13⟩ := PX0
  have PX0 := Lib.hid (show PaperIn ((w.alloc (.cells #[.int .i64 x.id, .int .i64 x.known, .int .u8 x.kind, .int .i64 x.loss, .int .i64 x.pack, .int .i64 x.inn, .string x.mark, .string x.goods, .int .i64 x.lo, .int .i64 x.hi, .int .i64 x.pieces, .int .i64 x.owner, .int .i64 x.count, .int .i64 x.of] 28)).alloc (.cells #[.int .i64 x.id, .int .i64 x.known, .int .u8 x.kind, .int .i64 x.loss, .int .i64 x.pack, .int .i64 x.inn, .string x.mark, .string x.goods, .int .i64 x.lo, .int .i64 x.hi, .int .i64 x.pieces, .int .i64 x.owner, .int .i64 x.count, .int .i64 x.of] 28)) w.heap.size x from ⟨c0, c1, c2, c3, c4, c5, c6, c7, c8, c9, c10, c11, c12, c13⟩)
  generalize ((w.alloc (.cells #[.int .i64 x.id, .int .i64 x.known, .int .u8 x.kind, .int .i64 x.loss, .int .i64 x.pack, .int .i64 x.inn, .string x.mark, .string x.goods, .int .i64 x.lo, .int .i64 x.hi, .int .i64 x.pieces, .int .i64 x.owner, .int .i64 x.count, .int .i64 x.of] 28)).alloc (.cells #[.int .i64 x.id, .int .i64 x.known, .int .u8 x.kind, .int .i64 x.loss, .int .i64 x.pack, .int .i64 x.inn, .string x.mark, .string x.goods, .int .i64 x.lo, .int .i64 x.hi, .int .i64 x.pieces, .int .i64 x.owner, .int .i64 x.count, .int .i64 x.of] 28)) = W0 at *
  go_wp2_with fail
  clear c0 c1 c2 c3 c4 c5 c6 c7 c8 c9 c10 c11 c12 c13
  refine (HW.out _ hB0).mono ?_
  rintro e w1 ⟨rfl, hb1⟩
  have hB1 := keepB hB0 hb1
  have PX1 := Lib.hid (PX0.out.later hb1)
  obtain ⟨c0, c1, c2, c3, c4, c5, c6, c7, c8, c9, c10, c11, c12, c13⟩ := PX1.out
  clear PX0 hB0 hb1 W0
  go_wp2_with fail
  clear c0 c1 c2 c3 c4 c5 c6 c7 c8 c9 c10 c11 c12 c13
  refine (HWR.out _).mono ?_
  rintro e w2 ⟨rfl, hb2⟩
  have hB2 := keepB hB1 hb2
  have PX2 := Lib.hid (PX1.out.later hb2)
  clear PX1 hB1 hb2
  go_wp2_with fail
  refine (HR.out _ hB2).mono ?_
  rintro e w3 ⟨rfl, hb3⟩
  have hB3 := below_al (keepB hB2 hb3) (.cells #[.int .i64 y.id, .int .i64 y.known, .int .u8 y.kind, .int .i64 y.loss, .int .i64 y.pack, .int .i64 y.inn, .string y.mark, .string y.goods, .int .i64 y.lo, .int .i64 y.hi, .int .i64 y.pieces, .int .i64 y.owner, .int .i64 y.count, .int .i64 y.of] 28)
  have PX3 := Lib.hid ((PX2.out.later hb3).al (.cells #[.int .i64 y.id, .int .i64 y.known, .int .u8 y.kind, .int .i64 y.loss, .int .i64 y.pack, .int .i64 y.inn, .string y.mark, .string y.goods, .int .i64 y.lo, .int .i64 y.hi, .int .i64 y.pieces, .int .i64 y.owner, .int .i64 y.count, .int .i64 y.of] 28))
  have PY3 := Lib.hid (box_in w3 y)
  clear PX2 hB2 hb3
  go_wp2_with fail
  generalize w3.alloc (.cells #[.int .i64 y.id, .int .i64 y.known, .int .u8 y.kind, .int .i64 y.loss, .int .i64 y.pack, .int .i64 y.inn, .string y.mark, .string y.goods, .int .i64 y.lo, .int .i64 y.hi, .int .i64 y.pieces, .int .i64 y.owner, .int .i64 y.count, .int .i64 y.of] 28) = W3 at *
  generalize w3.heap.size = By at *
  refine (HRR.out _).mono ?_
  rintro e w4 ⟨rfl, hb4⟩
  have hB4 := below_al (keepB hB3 hb4) (.cells #[.int .i64 y.id, .int .i64 y.known, .int .u8 y.kind, .int .i64 y.loss, .int .i64 y.pack, .int .i64 y.inn, .string y.mark, .string y.goods, .int .i64 y.lo, .int .i64 y.hi, .int .i64 y.pieces, .int .i64 y.owner, .int .i64 y.count, .int .i64 y.of] 28)
  have PX4 := Lib.hid ((PX3.out.later hb4).al (.cells #[.int .i64 y.id, .int .i64 y.known, .int .u8 y.kind, .int .i64 y.loss, .int .i64 y.pack, .int .i64 y.inn, .string y.mark, .string y.goods, .int .i64 y.lo, .int .i64 y.hi, .int .i64 y.pieces, .int .i64 y.owner, .int .i64 y.count, .int .i64 y.of] 28))
  have PY4 := Lib.hid ((PY3.out.later hb4).al (.cells #[.int .i64 y.id, .int .i64 y.known, .int .u8 y.kind, .int .i64 y.loss, .int .i64 y.pack, .int .i64 y.inn, .string y.mark, .string y.goods, .int .i64 y.lo, .int .i64 y.hi, .int .i64 y.pieces, .int .i64 y.owner, .int .i64 y.count, .int .i64 y.of] 28))
  have PZ4 := Lib.hid (box_in w4 y)
  obtain ⟨c0, c1, c2, c3, c4, c5, c6, c7, c8, c9, c10, c11, c12, c13⟩ := PY4.out
  obtain ⟨d0, d1, d2, d3, d4, d5, d6, d7, d8, d9, d10, d11, d12, d13⟩ := PZ4.out
  clear PX3 PY3 hB3 hb4
  rcases hTe with ⟨rfl, hrt, htz⟩ | rfl
  · have HRt2 : Hid (∀ W, Below w.heap.size w W → Calls Tryz.prog 26 #[.string t] W fun e w' => e = .returned (.tuple #[.agg #[.int .i64 x.id, .int .i64 x.known, .int .u8 x.kind, .int .i64 x.loss, .int .i64 x.pack, .int .i64 x.inn, .string x.mark, .string x.goods, .int .i64 x.lo, .int .i64 x.hi, .int .i64 x.pieces, .int .i64 x.owner, .int .i64 x.count, .int .i64 x.of], .int .i64 0]) ∧ Below W.heap.size W w') := by
      show ∀ W, _
      intro W h
      have := HRt.out t htz W h
      rw [hrt] at this
      exact this
    clear hrt HRt
    rcases hTg with ⟨rfl, hwy, hy1, hy2⟩ | rfl
    · have HWy2 : Hid (∀ W, Below w.heap.size w W → Calls Tryz.prog 24 #[.agg #[.int .i64 y.id, .int .i64 y.known, .int .u8 y.kind, .int .i64 y.loss, .int .i64 y.pack, .int .i64 y.inn, .string y.mark, .string y.goods, .int .i64 y.lo, .int .i64 y.hi, .int .i64 y.pieces, .int .i64 y.owner, .int .i64 y.count, .int .i64 y.of]] W fun e w' => e = .returned (.tuple #[.string s, .int .i64 0]) ∧ Below W.heap.size W w') := by
        show ∀ W, _
        intro W h
        have := HWy.out y hy1 hy2 W h
        rw [hwy] at this
        exact this
      clear hwy HWy
      go_wp2_with fail
      clear c0 c1 c2 c3 c4 c5 c6 c7 c8 c9 c10 c11 c12 c13 d0 d1 d2 d3 d4 d5 d6 d7 d8 d9 d10 d11 d12 d13
      generalize w4.alloc (.cells #[.int .i64 y.id, .int .i64 y.known, .int .u8 y.kind, .int .i64 y.loss, .int .i64 y.pack, .int .i64 y.inn, .string y.mark, .string y.goods, .int .i64 y.lo, .int .i64 y.hi, .int .i64 y.pieces, .int .i64 y.owner, .int .i64 y.count, .int .i64 y.of] 28) = W4 at *
      refine (HRt2.out _ hB4).mono ?_
      rintro e w5 ⟨rfl, hb5⟩
      have hB5 := below_al (keepB hB4 hb5) (.cells #[.int .i64 x.id, .int .i64 x.known, .int .u8 x.kind, .int .i64 x.loss, .int .i64 x.pack, .int .i64 x.inn, .string x.mark, .string x.goods, .int .i64 x.lo, .int .i64 x.hi, .int .i64 x.pieces, .int .i64 x.owner, .int .i64 x.count, .int .i64 x.of] 28)
      have PX5 := Lib.hid ((PX4.out.later hb5).al (.cells #[.int .i64 x.id, .int .i64 x.known, .int .u8 x.kind, .int .i64 x.loss, .int .i64 x.pack, .int .i64 x.inn, .string x.mark, .string x.goods, .int .i64 x.lo, .int .i64 x.hi, .int .i64 x.pieces, .int .i64 x.owner, .int .i64 x.count, .int .i64 x.of] 28))
      have PY5 := Lib.hid ((PY4.out.later hb5).al (.cells #[.int .i64 x.id, .int .i64 x.known, .int .u8 x.kind, .int .i64 x.loss, .int .i64 x.pack, .int .i64 x.inn, .string x.mark, .string x.goods, .int .i64 x.lo, .int .i64 x.hi, .int .i64 x.pieces, .int .i64 x.owner, .int .i64 x.count, .int .i64 x.of] 28))
      have PV5 := Lib.hid (box_in w5 x)
      obtain ⟨c0, c1, c2, c3, c4, c5, c6, c7, c8, c9, c10, c11, c12, c13⟩ := PX5.out
      obtain ⟨d0, d1, d2, d3, d4, d5, d6, d7, d8, d9, d10, d11, d12, d13⟩ := PV5.out
      obtain ⟨f0, f1, f2, f3, f4, f5, f6, f7, f8, f9, f10, f11, f12, f13⟩ := PY5.out
      clear PX4 PY4 PZ4 hb5 hB4
      go_wp2_with fail
      clear c0 c1 c2 c3 c4 c5 c6 c7 c8 c9 c10 c11 c12 c13 d0 d1 d2 d3 d4 d5 d6 d7 d8 d9 d10 d11 d12 d13 f0 f1 f2 f3 f4 f5 f6 f7 f8 f9 f10 f11 f12 f13
      generalize w5.alloc (.cells #[.int .i64 x.id, .int .i64 x.known, .int .u8 x.kind, .int .i64 x.loss, .int .i64 x.pack, .int .i64 x.inn, .string x.mark, .string x.goods, .int .i64 x.lo, .int .i64 x.hi, .int .i64 x.pieces, .int .i64 x.owner, .int .i64 x.count, .int .i64 x.of] 28) = W5 at *
      refine (HWy2.out _ hB5).mono ?_
      rintro e w7 ⟨rfl, hb7⟩
      have hB7 := keepB hB5 hb7
      go_wp2_with fail
      refine (HAl.out _ hB7).mono ?_
      rintro e w9 ⟨rfl, hb9⟩
      have hB9 := keepB hB7 hb9
      go_wp2_with fail
      go_ret
      exact ⟨rfl, hB9⟩
    · skip
      go_wp2_with fail
      clear c0 c1 c2 c3 c4 c5 c6 c7 c8 c9 c10 c11 c12 c13 d0 d1 d2 d3 d4 d5 d6 d7 d8 d9 d10 d11 d12 d13
      generalize w4.alloc (.cells #[.int .i64 y.id, .int .i64 y.known, .int .u8 y.kind, .int .i64 y.loss, .int .i64 y.pack, .int .i64 y.inn, .string y.mark, .string y.goods, .int .i64 y.lo, .int .i64 y.hi, .int .i64 y.pieces, .int .i64 y.owner, .int .i64 y.count, .int .i64 y.of] 28) = W4 at *
      refine (HRt2.out _ hB4).mono ?_
      rintro e w5 ⟨rfl, hb5⟩
      have hB5 := below_al (keepB hB4 hb5) (.cells #[.int .i64 x.id, .int .i64 x.known, .int .u8 x.kind, .int .i64 x.loss, .int .i64 x.pack, .int .i64 x.inn, .string x.mark, .string x.goods, .int .i64 x.lo, .int .i64 x.hi, .int .i64 x.pieces, .int .i64 x.owner, .int .i64 x.count, .int .i64 x.of] 28)
      have PX5 := Lib.hid ((PX4.out.later hb5).al (.cells #[.int .i64 x.id, .int .i64 x.known, .int .u8 x.kind, .int .i64 x.loss, .int .i64 x.pack, .int .i64 x.inn, .string x.mark, .string x.goods, .int .i64 x.lo, .int .i64 x.hi, .int .i64 x.pieces, .int .i64 x.owner, .int .i64 x.count, .int .i64 x.of] 28))
      have PY5 := Lib.hid ((PY4.out.later hb5).al (.cells #[.int .i64 x.id, .int .i64 x.known, .int .u8 x.kind, .int .i64 x.loss, .int .i64 x.pack, .int .i64 x.inn, .string x.mark, .string x.goods, .int .i64 x.lo, .int .i64 x.hi, .int .i64 x.pieces, .int .i64 x.owner, .int .i64 x.count, .int .i64 x.of] 28))
      have PV5 := Lib.hid (box_in w5 x)
      obtain ⟨c0, c1, c2, c3, c4, c5, c6, c7, c8, c9, c10, c11, c12, c13⟩ := PX5.out
      obtain ⟨d0, d1, d2, d3, d4, d5, d6, d7, d8, d9, d10, d11, d12, d13⟩ := PV5.out
      clear PX4 PY4 PZ4 hb5 hB4
      go_wp2_with fail
      clear c0 c1 c2 c3 c4 c5 c6 c7 c8 c9 c10 c11 c12 c13 d0 d1 d2 d3 d4 d5 d6 d7 d8 d9 d10 d11 d12 d13
      generalize w5.alloc (.cells #[.int .i64 x.id, .int .i64 x.known, .int .u8 x.kind, .int .i64 x.loss, .int .i64 x.pack, .int .i64 x.inn, .string x.mark, .string x.goods, .int .i64 x.lo, .int .i64 x.hi, .int .i64 x.pieces, .int .i64 x.owner, .int .i64 x.count, .int .i64 x.of] 28) = W5 at *
      refine (HAl.out _ hB5).mono ?_
      rintro e w9 ⟨rfl, hb9⟩
      have hB9 := keepB hB5 hb9
      go_wp2_with fail
      go_ret
      exact ⟨rfl, hB9⟩
  · rcases hTg with ⟨rfl, hwy, hy1, hy2⟩ | rfl
    · have HWy2 : Hid (∀ W, Below w.heap.size w W → Calls Tryz.prog 24 #[.agg #[.int .i64 y.id, .int .i64 y.known, .int .u8 y.kind, .int .i64 y.loss, .int .i64 y.pack, .int .i64 y.inn, .string y.mark, .string y.goods, .int .i64 y.lo, .int .i64 y.hi, .int .i64 y.pieces, .int .i64 y.owner, .int .i64 y.count, .int .i64 y.of]] W fun e w' => e = .returned (.tuple #[.string s, .int .i64 0]) ∧ Below W.heap.size W w') := by
        show ∀ W, _
        intro W h
        have := HWy.out y hy1 hy2 W h
        rw [hwy] at this
        exact this
      clear hwy HWy
      go_wp2_with fail
      clear c0 c1 c2 c3 c4 c5 c6 c7 c8 c9 c10 c11 c12 c13 d0 d1 d2 d3 d4 d5 d6 d7 d8 d9 d10 d11 d12 d13
      generalize w4.alloc (.cells #[.int .i64 y.id, .int .i64 y.known, .int .u8 y.kind, .int .i64 y.loss, .int .i64 y.pack, .int .i64 y.inn, .string y.mark, .string y.goods, .int .i64 y.lo, .int .i64 y.hi, .int .i64 y.pieces, .int .i64 y.owner, .int .i64 y.count, .int .i64 y.of] 28) = W4 at *
      refine (HWy2.out _ hB4).mono ?_
      rintro e w7 ⟨rfl, hb7⟩
      have hB7 := keepB hB4 hb7
      go_wp2_with fail
      refine (HAl.out _ hB7).mono ?_
      rintro e w9 ⟨rfl, hb9⟩
      have hB9 := keepB hB7 hb9
      go_wp2_with fail
      go_ret
      exact ⟨rfl, hB9⟩
    · skip
      go_wp2_with fail
      clear c0 c1 c2 c3 c4 c5 c6 c7 c8 c9 c10 c11 c12 c13 d0 d1 d2 d3 d4 d5 d6 d7 d8 d9 d10 d11 d12 d13
      generalize w4.alloc (.cells #[.int .i64 y.id, .int .i64 y.known, .int .u8 y.kind, .int .i64 y.loss, .int .i64 y.pack, .int .i64 y.inn, .string y.mark, .string y.goods, .int .i64 y.lo, .int .i64 y.hi, .int .i64 y.pieces, .int .i64 y.owner, .int .i64 y.count, .int .i64 y.of] 28) = W4 at *
      refine (HAl.out _ hB4).mono ?_
      rintro e w9 ⟨rfl, hb9⟩
      have hB9 := keepB hB4 hb9
      go_wp2_with fail
      go_ret
      exact ⟨rfl, hB9⟩

end Go.Proofs.YtpffpofdceppiaaGreatDoor
