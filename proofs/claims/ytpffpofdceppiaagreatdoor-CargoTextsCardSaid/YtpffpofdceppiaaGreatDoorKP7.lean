/- A part of the proof that laganlaw01.CargoTexts answers true at every input and leaves its arguments as they were; the conditions are those of the given row and card, nothing else. -/
import Derived.Test.YtpffpofdceppiaaGreatDoorKP5
import Derived.Test.YtpffpofdceppiaaGreatDoorKW7
import Derived.Deep.Cut
import Derived.Test.YtpffpofdceppiaaGreatDoorKT4
set_option linter.unusedSimpArgs false
set_option linter.unusedVariables false
namespace Go.Proofs.YtpffpofdceppiaaGreatDoor
open Go.RowKit Go.Shelf

theorem splitB_size (sep : ByteArray) : ∀ (k : Nat) (s : ByteArray), ∀ x ∈ Lib.splitB sep 0 k s, x.size ≤ s.size
  | 0, s, x, hx => by
    have : x = s := by simpa [Lib.splitB] using hx
    rw [this]; exact Nat.le_refl _
  | k + 1, s, x, hx => by
    unfold Lib.splitB at hx
    split at hx
    · have : x = s := by simpa using hx
      rw [this]; exact Nat.le_refl _
    · rcases List.mem_cons.1 hx with rfl | hx
      · rw [ByteArray.size_extract]; omega
      · have h1 := splitB_size sep k _ x hx
        rw [ByteArray.size_extract] at h1
        omega

/-- The words of a line. -/
def wordsOf (s : ByteArray) : List ByteArray := Lib.splitB ⟨#[32]⟩ 0 (Lib.countB s ⟨#[32]⟩) s
theorem wordsOf_len (s : ByteArray) : (wordsOf s).length = Lib.countB s ⟨#[32]⟩ + 1 := Lib.splitB_all _ (by decide) 0 _ s rfl
theorem wordsOf_size (s : ByteArray) : ∀ x ∈ wordsOf s, x.size ≤ s.size := splitB_size _ _ s

def kindOf (s : ByteArray) : Int := if s = pkB then 1 else if s = ttB then 2 else if s = vvB then 3 else 0

/-- What a line may say. -/
def parseW (ws : List ByteArray) : Option Paper :=
  (numW ws[0]?).bind fun a => (numW ws[1]?).bind fun b => (ws[2]?).bind fun c =>
    if kindOf c = 1 then
      (numW ws[3]?).bind fun l => (numW ws[4]?).bind fun p => (numW ws[5]?).bind fun i => (ws[6]?).bind fun m => (ws[7]?).bind fun g =>
      (numW ws[8]?).bind fun lo => (numW ws[9]?).bind fun hi => (numW ws[10]?).bind fun pc => (numW ws[11]?).bind fun ow => some ⟨a, b, 1, l, p, i, m, g, lo, hi, pc, ow, 0, 0⟩
    else if kindOf c = 2 then
      (numW ws[3]?).bind fun l => (numW ws[4]?).bind fun p => (numW ws[5]?).bind fun n => (numW ws[6]?).bind fun lo => (numW ws[7]?).bind fun hi => some ⟨a, b, 2, l, p, 0, ⟨#[]⟩, ⟨#[]⟩, lo, hi, 0, 0, n, 0⟩
    else if kindOf c = 3 then
      (numW ws[3]?).bind fun o => some ⟨a, b, 3, 0, 0, 0, ⟨#[]⟩, ⟨#[]⟩, 0, 0, 0, 0, 0, o⟩
    else some ⟨a, b, 0, 0, 0, 0, ⟨#[]⟩, ⟨#[]⟩, 0, 0, 0, 0, 0, 0⟩

theorem Split_any (s : ByteArray) (w : World) (hs : s.size ≤ 100000) (hG : Gl w) :
    Calls Tryz.prog 154 #[.string s, .string ⟨#[32]⟩] w fun e w' => e = .returned (.slice (some ⟨w.heap.size, 0, none⟩) (wordsOf s).length (wordsOf s).length) ∧ w' = w.alloc (.cells ((wordsOf s).map Value.string).toArray 9) := by
  obtain ⟨m, hm⟩ := hG.len
  refine (Tryz.strings_Split s ⟨#[32]⟩ m w (by omega) hm (by decide)).mono ?_
  rintro e w' ⟨rfl, rfl⟩
  rw [wordsOf_len]
  exact ⟨rfl, rfl⟩

theorem idx_words (s : ByteArray) : (Lib.idxOfS [⟨#[]⟩, pkB, ttB, vvB] s = -1 ∧ kindOf s = 0) ∨ (Lib.idxOfS [⟨#[]⟩, pkB, ttB, vvB] s = 0 ∧ kindOf s = 0) ∨ (Lib.idxOfS [⟨#[]⟩, pkB, ttB, vvB] s = 1 ∧ kindOf s = 1) ∨ (Lib.idxOfS [⟨#[]⟩, pkB, ttB, vvB] s = 2 ∧ kindOf s = 2) ∨ (Lib.idxOfS [⟨#[]⟩, pkB, ttB, vvB] s = 3 ∧ kindOf s = 3) := by
  unfold Lib.idxOfS Lib.idxFromS Lib.idxFromS Lib.idxFromS Lib.idxFromS Lib.idxFromS kindOf
  by_cases h0 : (⟨#[]⟩ : ByteArray) = s
  · subst h0
    exact .inr (.inl ⟨by rw [if_pos rfl]; rfl, by decide⟩)
  rw [if_neg h0]
  by_cases h1 : pkB = s
  · subst h1
    exact .inr (.inr (.inl ⟨by rw [if_pos rfl]; rfl, by rw [if_pos rfl]⟩))
  rw [if_neg h1, if_neg (fun e : s = pkB => h1 e.symm)]
  by_cases h2 : ttB = s
  · subst h2
    exact .inr (.inr (.inr (.inl ⟨by rw [if_pos rfl]; rfl, by rw [if_pos rfl]⟩)))
  rw [if_neg h2, if_neg (fun e : s = ttB => h2 e.symm)]
  by_cases h3 : vvB = s
  · subst h3
    exact .inr (.inr (.inr (.inr ⟨by rw [if_pos rfl]; rfl, by rw [if_pos rfl]⟩)))
  rw [if_neg h3, if_neg (fun e : s = vvB => h3 e.symm)]
  exact .inl ⟨rfl, rfl⟩

theorem IndexW_any (s : ByteArray) (b : Nat) (w : World) (h0 : w.cell? ⟨b, 0, none⟩ = some (.string ⟨#[]⟩)) (h1 : w.cell? ⟨b, 1, none⟩ = some (.string pkB)) (h2 : w.cell? ⟨b, 2, none⟩ = some (.string ttB)) (h3 : w.cell? ⟨b, 3, none⟩ = some (.string vvB)) :
    Calls Tryz.prog 157 #[.slice (some ⟨b, 0, none⟩) 4 4, .string s] w fun e w' => e = .returned (.int .i64 (Lib.idxOfS [⟨#[]⟩, pkB, ttB, vvB] s)) ∧ w' = w :=
  Tryz.slices_Index_string b 0 4 4 [⟨#[]⟩, pkB, ttB, vvB] s w (by simp) (by omega) (fun j hj => by
    rw [Nat.zero_add]
    match j, hj with
    | 0, _ => exact h0
    | 1, _ => exact h1
    | 2, _ => exact h2
    | 3, _ => exact h3)

/-- A paper in a block of its own. -/
structure XF (b br bx : Nat) (x : Paper) (w : World) : Prop where
  px : ∀ i u, x.vals[i]? = some u → w.cell? ⟨bx, i, none⟩ = some u
  fx : ∀ i, w.frozen? ⟨bx, i, none⟩ = false
  pr : ∀ i u, Paper.zero.vals[i]? = some u → w.cell? ⟨br, i, none⟩ = some u
  fr : ∀ i, w.frozen? ⟨br, i, none⟩ = false
  n1 : bx ≠ b
  n2 : br ≠ b
  n3 : br ≠ bx

theorem frozen_grown {W W' : World} {row : Option Nat} {b i : Nat} (hlt : b < W.heap.size) (h : W.frozen? ⟨b, i, none⟩ = false) (hg : W.grownBy W' row) (hne : ∀ r, row = some r → r ≠ b) : W'.frozen? ⟨b, i, none⟩ = false :=
  (World.frozen?_of_block (w := W) (hg.block b hlt (fun e => hne b e.symm rfl))).trans h

theorem XF.grown {b br bx : Nat} {x : Paper} {w w' : World} (h : XF b br bx x w) (hg : w.grownBy w' (some b)) : XF b br bx x w' := by
  obtain ⟨h1, h2, h3, h4, h5, h6, h7⟩ := h
  have hx : bx < w.heap.size := cell_lt (h1 0 _ rfl)
  have hr : br < w.heap.size := cell_lt (h3 0 _ rfl)
  exact ⟨fun i u hu => cell_grown (h1 i u hu) hg (fun r e => by cases e; exact fun e => h5 e.symm), fun i => frozen_grown hx (h2 i) hg (fun r e => by cases e; exact fun e => h5 e.symm), fun i u hu => cell_grown (h3 i u hu) hg (fun r e => by cases e; exact fun e => h6 e.symm), fun i => frozen_grown hr (h4 i) hg (fun r e => by cases e; exact fun e => h6 e.symm), h5, h6, h7⟩

theorem XF.set {b br bx : Nat} {x : Paper} {w : World} (h : XF b br bx x w) (i : Nat) (v : Value) (x' : Paper) (hi : i < 14) (hx : x'.vals = x.vals.set i v) : XF b br bx x' (w.setCell ⟨bx, i, none⟩ v) := by
  obtain ⟨h1, h2, h3, h4, h5, h6, h7⟩ := h
  refine ⟨fun j u hu => ?_, fun j => by rw [World.frozen?_setCell]; exact h2 j, fun j u hu => by rw [World.cell?_setCell_other _ _ _ _ (by intro e; injection e with e1; exact h7 e1.symm)]; exact h3 j u hu, fun j => by rw [World.frozen?_setCell]; exact h4 j, h5, h6, h7⟩
  rw [hx] at hu
  by_cases e : j = i
  · subst e
    have hl : j < x.vals.length := hi
    rw [List.getElem?_set_self hl] at hu
    cases hu
    exact World.cell?_setCell_same' _ _ _ (by rw [h1 j _ (List.getElem?_eq_getElem hl)]; rfl)
  · rw [List.getElem?_set_ne (fun h => e h.symm)] at hu
    rw [World.cell?_setCell_other _ _ _ _ (by intro e'; injection e' with _ e2; exact e e2.symm)]
    exact h1 j u hu

theorem RdI.set {w0 : World} {b g : Nat} {ws : List ByteArray} {k : Nat} {w : World} (h : RdI w0 b g ws k w) (bx i : Nat) (v : Value) (h1 : bx ≠ b) (h2 : bx ≠ g) (h3 : w0.heap.size ≤ bx) : RdI w0 b g ws k (w.setCell ⟨bx, i, none⟩ v) := by
  obtain ⟨⟨⟨a, r1, r1'⟩, r2, r3, r4, r5⟩, l1, l2, l3⟩ := h
  exact ⟨⟨⟨a, by rw [World.cell?_setCell_other _ _ _ _ (by intro e; injection e with e1; exact h1 e1)]; exact r1, r1'⟩, by rw [World.frozen?_setCell]; exact r2, r3, fun j hj => by rw [World.cell?_setCell_other _ _ _ _ (by intro e; injection e with e1; exact h2 e1)]; exact r4 j hj, r5⟩, l1, by rw [World.size_setCell]; exact l2, l3.setCell (p := ⟨bx, i, none⟩) h3 _⟩

theorem XF.cells {b br bx : Nat} {x : Paper} {w : World} (h : XF b br bx x w) : w.cell? ⟨bx, 0, none⟩ = some (.int .i64 x.id) ∧ w.cell? ⟨bx, 1, none⟩ = some (.int .i64 x.known) ∧ w.cell? ⟨bx, 2, none⟩ = some (.int .u8 x.kind) ∧ w.cell? ⟨bx, 3, none⟩ = some (.int .i64 x.loss) ∧ w.cell? ⟨bx, 4, none⟩ = some (.int .i64 x.pack) ∧ w.cell? ⟨bx, 5, none⟩ = some (.int .i64 x.inn) ∧ w.cell? ⟨bx, 6, none⟩ = some (.string x.mark) ∧ w.cell? ⟨bx, 7, none⟩ = some (.string x.goods) ∧ w.cell? ⟨bx, 8, none⟩ = some (.int .i64 x.lo) ∧ w.cell? ⟨bx, 9, none⟩ = some (.int .i64 x.hi) ∧ w.cell? ⟨bx, 10, none⟩ = some (.int .i64 x.pieces) ∧ w.cell? ⟨bx, 11, none⟩ = some (.int .i64 x.owner) ∧ w.cell? ⟨bx, 12, none⟩ = some (.int .i64 x.count) ∧ w.cell? ⟨bx, 13, none⟩ = some (.int .i64 x.of) := ⟨h.px 0 _ rfl, h.px 1 _ rfl, h.px 2 _ rfl, h.px 3 _ rfl, h.px 4 _ rfl, h.px 5 _ rfl, h.px 6 _ rfl, h.px 7 _ rfl, h.px 8 _ rfl, h.px 9 _ rfl, h.px 10 _ rfl, h.px 11 _ rfl, h.px 12 _ rfl, h.px 13 _ rfl⟩
theorem XF.rcells {b br bx : Nat} {x : Paper} {w : World} (h : XF b br bx x w) : PaperIn w br Paper.zero := ⟨h.pr 0 _ rfl, h.pr 1 _ rfl, h.pr 2 _ rfl, h.pr 3 _ rfl, h.pr 4 _ rfl, h.pr 5 _ rfl, h.pr 6 _ rfl, h.pr 7 _ rfl, h.pr 8 _ rfl, h.pr 9 _ rfl, h.pr 10 _ rfl, h.pr 11 _ rfl, h.pr 12 _ rfl, h.pr 13 _ rfl⟩

theorem results_paper1 {fn : Func} {p : Tmp} (h : fn.results = #[.cell p 28]) (tmps : Array Value) (w : World) (b : Nat) (x : Paper) (hp : tmps.getD p undef = .pointer (some ⟨b, 0, none⟩)) (hc : PaperIn w b x) :
    (results fn tmps).run Tryz.prog w = .ok (.agg x.vals.toArray) w :=
  results_one h tmps Tryz.prog w _ _ hp (loadVar_paper w b x hc)

set_option maxRecDepth 100000 in
set_option maxHeartbeats 16000000 in
theorem parse_any (s : ByteArray) (w : World) (hs : s.size ≤ 50000) (hG : Gl w) :
    Calls Tryz.prog 88 #[.string s] w fun e w' => (∃ x, parseW (wordsOf s) = some x ∧ e = .returned (.agg x.vals.toArray) ∧ Below w.heap.size w w') ∨
      (parseW (wordsOf s) = none ∧ e = .panicked [{ v := formlessV, recovered := false }] ∧ Below w.heap.size w w') := by
  have hB0 : Below w.heap.size w (w.alloc (.cells #[.int .i64 0, .int .i64 0, .int .u8 0, .int .i64 0, .int .i64 0, .int .i64 0, .string ⟨#[]⟩, .string ⟨#[]⟩, .int .i64 0, .int .i64 0, .int .i64 0, .int .i64 0, .int .i64 0, .int .i64 0] 28)) := (Below.refl _ w).alloc (Nat.le_refl _) _
  have hSp := Lib.hid (Split_any s (w.alloc (.cells #[.int .i64 0, .int .i64 0, .int .u8 0, .int .i64 0, .int .i64 0, .int .i64 0, .string ⟨#[]⟩, .string ⟨#[]⟩, .int .i64 0, .int .i64 0, .int .i64 0, .int .i64 0, .int .i64 0, .int .i64 0] 28)) (by omega) (hG.below hB0))
  have hz := wordsOf_size s
  have hwl : (wordsOf s).length ≤ 100000 := by rw [wordsOf_len]; have := Lib.countB_le ⟨#[32]⟩ (by decide) s.size s (Nat.le_refl _); omega
  have hz' : ∀ x ∈ wordsOf s, x.size ≤ 100000 := fun x hx => by have := hz x hx; omega
  generalize wordsOf s = ws at *
  have h2 : parseW ws = parseW ws := rfl
  conv at h2 => rhs; unfold parseW
  have HQ := Lib.hid h2
  clear h2
  have hzs : (w.alloc (.cells #[.int .i64 0, .int .i64 0, .int .u8 0, .int .i64 0, .int .i64 0, .int .i64 0, .string ⟨#[]⟩, .string ⟨#[]⟩, .int .i64 0, .int .i64 0, .int .i64 0, .int .i64 0, .int .i64 0, .int .i64 0] 28)).heap.size = w.heap.size + 1 := by simp
  have hHZ := Lib.hid hz'
  clear hz hz'
  go_enter Tryz.func88, Tryz.ntmps88
  go_wp2_with fail
  refine hSp.out.mono ?_
  rintro e w1 ⟨rfl, rfl⟩
  go_wp2_with fail
  have hW0 : ∃ W0, W0 = (((w.alloc (.cells #[.int .i64 0, .int .i64 0, .int .u8 0, .int .i64 0, .int .i64 0, .int .i64 0, .string ⟨#[]⟩, .string ⟨#[]⟩, .int .i64 0, .int .i64 0, .int .i64 0, .int .i64 0, .int .i64 0, .int .i64 0] 28)).alloc (.cells (List.map Value.string ws).toArray 9)).alloc (.cells #[.slice (some ⟨w.heap.size + 1, 0, none⟩) ws.length ws.length] 165)) := ⟨_, rfl⟩
  obtain ⟨W0, hW0⟩ := hW0
  have hBW0 : Below w.heap.size w W0 := by rw [hW0]; exact (hB0.alloc (by simp) _).alloc (by simp; omega) _
  have hsW0 : W0.heap.size = w.heap.size + 1 + 1 + 1 := by rw [hW0]; simp
  have hI0 : RdI w (w.heap.size + 1 + 1) (w.heap.size + 1) ws 0 W0 := by
    refine ⟨⟨⟨⟨w.heap.size + 1, 0, none⟩, by rw [hW0]; go_simp, fun _ => rfl⟩, by rw [hW0]; go_simp, hwl, fun j hj => ?_, by omega⟩, by omega, by omega, hBW0⟩
    rw [hW0]
    have e1 : w.heap.size + 1 = (w.alloc (.cells #[.int .i64 0, .int .i64 0, .int .u8 0, .int .i64 0, .int .i64 0, .int .i64 0, .string ⟨#[]⟩, .string ⟨#[]⟩, .int .i64 0, .int .i64 0, .int .i64 0, .int .i64 0, .int .i64 0, .int .i64 0] 28)).heap.size := by simp
    rw [e1]
    refine keepS ((Below.refl _ _).alloc (Nat.le_refl _) _) (by simp) ?_
    rw [World.cell?_alloc_new]
    simp [hj]
  have hX0 : (∀ i u, Paper.zero.vals[i]? = some u → W0.cell? ⟨w.heap.size, i, none⟩ = some u) ∧ ∀ i, W0.frozen? ⟨w.heap.size, i, none⟩ = false := by
    rw [hW0]
    refine ⟨fun i u hu => keepS ((Below.refl _ _).alloc (Nat.le_refl _) _) (by simp; omega) (keepS ((Below.refl _ _).alloc (Nat.le_refl _) _) (by simp) (by rw [World.cell?_alloc_new, ← hu]; simp [Paper.vals, Paper.zero])), fun i => by go_simp⟩
  rw [← hW0]
  clear hW0 hB0 hSp
  refine (number_call w (w.heap.size + 1 + 1) (w.heap.size + 1) ws 0 W0 hI0 hHZ.out hG).mono ?_
  rintro e w_0 (⟨a, hv, rfl, hI_0, hg_0⟩ | ⟨hv, rfl, hpb⟩)
  rotate_left
  · have h2 := HQ.out
    rw [hv, Option.bind_none] at h2
    have HQ2 := Lib.hid h2
    clear h2 hv
    have HPB := Lib.hid hpb
    clear hpb
    go_wp2_with fail
    exact ⟨rfl, .inr ⟨HQ2.out, rfl, HPB.out⟩⟩
  have h2 := HQ.out
  rw [hv, Option.bind_some] at h2
  clear HQ
  have HQ := Lib.hid h2
  clear h2 hv
  go_wp2_with fail
  refine (number_call w (w.heap.size + 1 + 1) (w.heap.size + 1) ws 1 w_0 hI_0 hHZ.out hG).mono ?_
  rintro e w_1 (⟨b, hv, rfl, hI_1, hg_1⟩ | ⟨hv, rfl, hpb⟩)
  rotate_left
  · have h2 := HQ.out
    rw [hv, Option.bind_none] at h2
    have HQ2 := Lib.hid h2
    clear h2 hv
    have HPB := Lib.hid hpb
    clear hpb
    go_wp2_with fail
    exact ⟨rfl, .inr ⟨HQ2.out, rfl, HPB.out⟩⟩
  have h2 := HQ.out
  rw [hv, Option.bind_some] at h2
  clear HQ
  have HQ := Lib.hid h2
  clear h2 hv
  have hX1 : (∀ i u, Paper.zero.vals[i]? = some u → w_1.cell? ⟨w.heap.size, i, none⟩ = some u) ∧ ∀ i, w_1.frozen? ⟨w.heap.size, i, none⟩ = false :=
    ⟨fun i u hu => cell_grown (cell_grown (hX0.1 i u hu) hg_0 (fun r e => by cases e; omega)) hg_1 (fun r e => by cases e; omega), fun i => frozen_grown (by have := hg_0.size; omega) (frozen_grown (by omega) (hX0.2 i) hg_0 (fun r e => by cases e; omega)) hg_1 (fun r e => by cases e; omega)⟩
  have hsz1 : w.heap.size + 1 + 1 + 1 ≤ w_1.heap.size := by have := hg_0.size; have := hg_1.size; omega
  clear hI_0 hI0 hg_0 hg_1 hX0 hBW0 hsW0
  have hXF : XF (w.heap.size + 1 + 1) w.heap.size w_1.heap.size ⟨a, b, 0, 0, 0, 0, ⟨#[]⟩, ⟨#[]⟩, 0, 0, 0, 0, 0, 0⟩ (w_1.alloc (.cells #[.int .i64 a, .int .i64 b, .int .u8 0, .int .i64 0, .int .i64 0, .int .i64 0, .string ⟨#[]⟩, .string ⟨#[]⟩, .int .i64 0, .int .i64 0, .int .i64 0, .int .i64 0, .int .i64 0, .int .i64 0] 28)) := by
    refine ⟨fun i u hu => by rw [World.cell?_alloc_new, ← hu]; simp [Paper.vals], fun i => by go_simp, fun i u hu => keepS ((Below.refl _ _).alloc (Nat.le_refl _) _) (by omega) (hX1.1 i u hu), fun i => frozen_grown (by omega) (hX1.2 i) (grown_of_below ((Below.refl _ _).alloc (Nat.le_refl _) _) none) (fun r e => by cases e), by omega, by omega, by omega⟩
  have hIx : RdI w (w.heap.size + 1 + 1) (w.heap.size + 1) ws 2 (w_1.alloc (.cells #[.int .i64 a, .int .i64 b, .int .u8 0, .int .i64 0, .int .i64 0, .int .i64 0, .string ⟨#[]⟩, .string ⟨#[]⟩, .int .i64 0, .int .i64 0, .int .i64 0, .int .i64 0, .int .i64 0, .int .i64 0] 28)) := hI_1.later ((Below.refl _ _).alloc (Nat.le_refl _) _)
  have hszx : (w_1.alloc (.cells #[.int .i64 a, .int .i64 b, .int .u8 0, .int .i64 0, .int .i64 0, .int .i64 0, .string ⟨#[]⟩, .string ⟨#[]⟩, .int .i64 0, .int .i64 0, .int .i64 0, .int .i64 0, .int .i64 0, .int .i64 0] 28)).heap.size = w_1.heap.size + 1 := by simp
  have hWd : ∀ W, Calls Tryz.prog 83 #[] W fun e w' => e = .returned (.agg #[.string ⟨#[]⟩, .string pkB, .string ttB, .string vvB]) ∧ Below W.heap.size W w' := words_any
  have HWD := Lib.hid hWd
  clear hX1 hI_1 hWd
  go_wp2_with fail
  generalize (w_1.alloc (.cells #[.int .i64 a, .int .i64 b, .int .u8 0, .int .i64 0, .int .i64 0, .int .i64 0, .string ⟨#[]⟩, .string ⟨#[]⟩, .int .i64 0, .int .i64 0, .int .i64 0, .int .i64 0, .int .i64 0, .int .i64 0] 28)) = W2 at *
  refine (HWD.out W2).mono ?_
  rintro e w2 ⟨rfl, hb2⟩
  have hX2 := hXF.grown (grown_of_below hb2 _)
  have hI2 := hIx.later hb2
  have hsz2 := hb2.size
  clear hXF hIx hb2 HWD
  go_wp2_with fail
  refine (next_call w (w.heap.size + 1 + 1) (w.heap.size + 1) ws 2 w2 hI2).mono ?_
  rintro e w_2 (⟨c, hv, rfl, hI_2, hg_2⟩ | ⟨hv, rfl, hpb⟩)
  rotate_left
  · have h2 := HQ.out
    rw [hv, Option.bind_none] at h2
    have HQ2 := Lib.hid h2
    clear h2 hv
    have HPB := Lib.hid (hI2.below)
    subst hpb
    go_wp2_with fail
    exact ⟨rfl, .inr ⟨HQ2.out, rfl, HPB.out⟩⟩
  have h2 := HQ.out
  rw [hv, Option.bind_some] at h2
  clear HQ
  have HQ := Lib.hid h2
  clear h2 hv
  have hX3 := hX2.grown hg_2
  have hI3 : RdI w (w.heap.size + 1 + 1) (w.heap.size + 1) ws 3 (w_2.alloc (.cells #[.string ⟨#[]⟩, .string pkB, .string ttB, .string vvB] 89)) := RdI.later hI_2 ((Below.refl _ _).alloc (Nat.le_refl _) _)
  have hX4 := hX3.grown (grown_of_below ((Below.refl _ _).alloc (Nat.le_refl _) (.cells #[.string ⟨#[]⟩, .string pkB, .string ttB, .string vvB] 89)) _)
  have hsz3 := hg_2.size
  have hIW := Lib.hid (IndexW_any c w_2.heap.size (w_2.alloc (.cells #[.string ⟨#[]⟩, .string pkB, .string ttB, .string vvB] 89)) (by go_simp) (by go_simp) (by go_simp) (by go_simp))
  have hbz : w_1.heap.size < w_2.heap.size := by omega
  clear hX2 hX3 hI2 hI_2 hg_2
  go_wp2_with fail
  generalize (w_2.alloc (.cells #[.string ⟨#[]⟩, .string pkB, .string ttB, .string vvB] 89)) = W3 at *
  refine hIW.out.mono ?_
  rintro e w' ⟨rfl, rfl⟩
  obtain ⟨c0, c1, c2, c3, c4, c5, c6, c7, c8, c9, c10, c11, c12, c13⟩ := hX4.cells
  have cz := hX4.fx
  have HX := Lib.hid hX4
  have HI := Lib.hid hI3
  clear hX4 hI3 hIW
  rcases idx_words c with ⟨hi, hk⟩ | ⟨hi, hk⟩ | ⟨hi, hk⟩ | ⟨hi, hk⟩ | ⟨hi, hk⟩
  · rw [hi]
    have h2 := HQ.out
    rw [hk, if_neg (by decide), if_neg (by decide), if_neg (by decide)] at h2
    clear HQ
    have HQ := Lib.hid h2
    clear h2 hk
    obtain ⟨d0, d1, d2, d3, d4, d5, d6, d7, d8, d9, d10, d11, d12, d13⟩ := HX.out.rcells
    have dz := HX.out.fr
    go_wp2_with fail
    have hX := HX.out.set 2 (.int .u8 0) ⟨a, b, 0, 0, 0, 0, ⟨#[]⟩, ⟨#[]⟩, 0, 0, 0, 0, 0, 0⟩ (by decide) rfl
    have hI := HI.out.set w_1.heap.size 2 (.int .u8 0) (by omega) (by omega) (by omega)
    clear HX HI c0 c1 c2 c3 c4 c5 c6 c7 c8 c9 c10 c11 c12 c13 cz
    refine bodyPost_ret (results_paper1 rfl _ _ w.heap.size ⟨a, b, 0, 0, 0, 0, ⟨#[]⟩, ⟨#[]⟩, 0, 0, 0, 0, 0, 0⟩ rfl (set14 _ _ ⟨a, b, 0, 0, 0, 0, ⟨#[]⟩, ⟨#[]⟩, 0, 0, 0, 0, 0, 0⟩ Paper.zero hX.rcells)) rfl ?_
    exact .inl ⟨_, HQ.out, rfl, set14_below _ (Nat.le_refl _) ⟨a, b, 0, 0, 0, 0, ⟨#[]⟩, ⟨#[]⟩, 0, 0, 0, 0, 0, 0⟩ hI.below⟩
  · rw [hi]
    have h2 := HQ.out
    rw [hk, if_neg (by decide), if_neg (by decide), if_neg (by decide)] at h2
    clear HQ
    have HQ := Lib.hid h2
    clear h2 hk
    obtain ⟨d0, d1, d2, d3, d4, d5, d6, d7, d8, d9, d10, d11, d12, d13⟩ := HX.out.rcells
    have dz := HX.out.fr
    go_wp2_with fail
    have hX := HX.out.set 2 (.int .u8 0) ⟨a, b, 0, 0, 0, 0, ⟨#[]⟩, ⟨#[]⟩, 0, 0, 0, 0, 0, 0⟩ (by decide) rfl
    have hI := HI.out.set w_1.heap.size 2 (.int .u8 0) (by omega) (by omega) (by omega)
    clear HX HI c0 c1 c2 c3 c4 c5 c6 c7 c8 c9 c10 c11 c12 c13 cz
    refine bodyPost_ret (results_paper1 rfl _ _ w.heap.size ⟨a, b, 0, 0, 0, 0, ⟨#[]⟩, ⟨#[]⟩, 0, 0, 0, 0, 0, 0⟩ rfl (set14 _ _ ⟨a, b, 0, 0, 0, 0, ⟨#[]⟩, ⟨#[]⟩, 0, 0, 0, 0, 0, 0⟩ Paper.zero hX.rcells)) rfl ?_
    exact .inl ⟨_, HQ.out, rfl, set14_below _ (Nat.le_refl _) ⟨a, b, 0, 0, 0, 0, ⟨#[]⟩, ⟨#[]⟩, 0, 0, 0, 0, 0, 0⟩ hI.below⟩
  · rw [hi]
    have h2 := HQ.out
    rw [hk, if_pos rfl] at h2
    clear HQ
    have HQ := Lib.hid h2
    clear h2 hk
    go_wp2_with fail
    have hX := HX.out.set 2 (.int .u8 1) ⟨a, b, 1, 0, 0, 0, ⟨#[]⟩, ⟨#[]⟩, 0, 0, 0, 0, 0, 0⟩ (by decide) rfl
    have hI := HI.out.set w_1.heap.size 2 (.int .u8 1) (by omega) (by omega) (by omega)
    clear HX HI c0 c1 c2 c3 c4 c5 c6 c7 c8 c9 c10 c11 c12 c13 cz
    have hmx : max (0 : Int) 1 = 1 := by decide
    rw [hmx]
    clear hmx
    generalize hV : w'.setCell ⟨w_1.heap.size, 2, none⟩ (.int .u8 1) = V at hX hI ⊢
    clear hV w'
    refine (number_call w (w.heap.size + 1 + 1) (w.heap.size + 1) ws 3 V hI hHZ.out hG).mono ?_
    rintro e w_3 (⟨vc3, hv, rfl, hI_3, hg_3⟩ | ⟨hv, rfl, hpb⟩)
    rotate_left
    · have h2 := HQ.out
      rw [hv, Option.bind_none] at h2
      have HQ2 := Lib.hid h2
      clear h2 hv
      have HPB := Lib.hid hpb
      clear hpb
      go_wp2_with fail
      exact ⟨rfl, .inr ⟨HQ2.out, rfl, HPB.out⟩⟩
    have h2 := HQ.out
    rw [hv, Option.bind_some] at h2
    clear HQ
    have HQ := Lib.hid h2
    clear h2 hv
    have hX_3 := hX.grown hg_3
    clear hX hI hg_3
    go_wp2_with fail
    refine (number_call w (w.heap.size + 1 + 1) (w.heap.size + 1) ws 4 w_3 hI_3 hHZ.out hG).mono ?_
    rintro e w_4 (⟨vc4, hv, rfl, hI_4, hg_4⟩ | ⟨hv, rfl, hpb⟩)
    rotate_left
    · have h2 := HQ.out
      rw [hv, Option.bind_none] at h2
      have HQ2 := Lib.hid h2
      clear h2 hv
      have HPB := Lib.hid hpb
      clear hpb
      go_wp2_with fail
      exact ⟨rfl, .inr ⟨HQ2.out, rfl, HPB.out⟩⟩
    have h2 := HQ.out
    rw [hv, Option.bind_some] at h2
    clear HQ
    have HQ := Lib.hid h2
    clear h2 hv
    have hX_4 := hX_3.grown hg_4
    clear hX_3 hI_3 hg_4
    go_wp2_with fail
    refine (number_call w (w.heap.size + 1 + 1) (w.heap.size + 1) ws 5 w_4 hI_4 hHZ.out hG).mono ?_
    rintro e w_5 (⟨vc5, hv, rfl, hI_5, hg_5⟩ | ⟨hv, rfl, hpb⟩)
    rotate_left
    · have h2 := HQ.out
      rw [hv, Option.bind_none] at h2
      have HQ2 := Lib.hid h2
      clear h2 hv
      have HPB := Lib.hid hpb
      clear hpb
      go_wp2_with fail
      exact ⟨rfl, .inr ⟨HQ2.out, rfl, HPB.out⟩⟩
    have h2 := HQ.out
    rw [hv, Option.bind_some] at h2
    clear HQ
    have HQ := Lib.hid h2
    clear h2 hv
    have hX_5 := hX_4.grown hg_5
    clear hX_4 hI_4 hg_5
    obtain ⟨c0, c1, c2, c3, c4, c5, c6, c7, c8, c9, c10, c11, c12, c13⟩ := hX_5.cells
    have cz := hX_5.fx
    have HX := Lib.hid hX_5
    have HI := Lib.hid hI_5
    clear hX_5 hI_5
    go_wp2_with fail
    have hX := (((HX.out.set 3 (.int .i64 vc3) ⟨a, b, 1, vc3, 0, 0, ⟨#[]⟩, ⟨#[]⟩, 0, 0, 0, 0, 0, 0⟩ (by decide) rfl).set 4 (.int .i64 vc4) ⟨a, b, 1, vc3, vc4, 0, ⟨#[]⟩, ⟨#[]⟩, 0, 0, 0, 0, 0, 0⟩ (by decide) rfl).set 5 (.int .i64 vc5) ⟨a, b, 1, vc3, vc4, vc5, ⟨#[]⟩, ⟨#[]⟩, 0, 0, 0, 0, 0, 0⟩ (by decide) rfl)
    have hI := (((HI.out.set w_1.heap.size 3 (.int .i64 vc3) (by omega) (by omega) (by omega)).set w_1.heap.size 4 (.int .i64 vc4) (by omega) (by omega) (by omega)).set w_1.heap.size 5 (.int .i64 vc5) (by omega) (by omega) (by omega))
    clear HX HI c0 c1 c2 c3 c4 c5 c6 c7 c8 c9 c10 c11 c12 c13 cz
    generalize hV : (((w_5.setCell ⟨w_1.heap.size, 3, none⟩ (.int .i64 vc3)).setCell ⟨w_1.heap.size, 4, none⟩ (.int .i64 vc4)).setCell ⟨w_1.heap.size, 5, none⟩ (.int .i64 vc5)) = V0 at hX hI ⊢
    clear hV
    refine (next_call w (w.heap.size + 1 + 1) (w.heap.size + 1) ws 6 V0 hI).mono ?_
    rintro e w_6 (⟨vc6, hv, rfl, hI_6, hg_6⟩ | ⟨hv, rfl, hpb⟩)
    rotate_left
    · have h2 := HQ.out
      rw [hv, Option.bind_none] at h2
      have HQ2 := Lib.hid h2
      clear h2 hv
      have HPB := Lib.hid (hI.below)
      subst hpb
      go_wp2_with fail
      exact ⟨rfl, .inr ⟨HQ2.out, rfl, HPB.out⟩⟩
    have h2 := HQ.out
    rw [hv, Option.bind_some] at h2
    clear HQ
    have HQ := Lib.hid h2
    clear h2 hv
    have hX_6 := hX.grown hg_6
    clear hX hI hg_6
    go_wp2_with fail
    refine (next_call w (w.heap.size + 1 + 1) (w.heap.size + 1) ws 7 w_6 hI_6).mono ?_
    rintro e w_7 (⟨vc7, hv, rfl, hI_7, hg_7⟩ | ⟨hv, rfl, hpb⟩)
    rotate_left
    · have h2 := HQ.out
      rw [hv, Option.bind_none] at h2
      have HQ2 := Lib.hid h2
      clear h2 hv
      have HPB := Lib.hid (hI_6.below)
      subst hpb
      go_wp2_with fail
      exact ⟨rfl, .inr ⟨HQ2.out, rfl, HPB.out⟩⟩
    have h2 := HQ.out
    rw [hv, Option.bind_some] at h2
    clear HQ
    have HQ := Lib.hid h2
    clear h2 hv
    have hX_7 := hX_6.grown hg_7
    clear hX_6 hI_6 hg_7
    obtain ⟨c0, c1, c2, c3, c4, c5, c6, c7, c8, c9, c10, c11, c12, c13⟩ := hX_7.cells
    have cz := hX_7.fx
    have HX := Lib.hid hX_7
    have HI := Lib.hid hI_7
    clear hX_7 hI_7
    go_wp2_with fail
    have hX := ((HX.out.set 6 (.string vc6) ⟨a, b, 1, vc3, vc4, vc5, vc6, ⟨#[]⟩, 0, 0, 0, 0, 0, 0⟩ (by decide) rfl).set 7 (.string vc7) ⟨a, b, 1, vc3, vc4, vc5, vc6, vc7, 0, 0, 0, 0, 0, 0⟩ (by decide) rfl)
    have hI := ((HI.out.set w_1.heap.size 6 (.string vc6) (by omega) (by omega) (by omega)).set w_1.heap.size 7 (.string vc7) (by omega) (by omega) (by omega))
    clear HX HI c0 c1 c2 c3 c4 c5 c6 c7 c8 c9 c10 c11 c12 c13 cz
    generalize hV : ((w_7.setCell ⟨w_1.heap.size, 6, none⟩ (.string vc6)).setCell ⟨w_1.heap.size, 7, none⟩ (.string vc7)) = V1 at hX hI ⊢
    clear hV
    refine (number_call w (w.heap.size + 1 + 1) (w.heap.size + 1) ws 8 V1 hI hHZ.out hG).mono ?_
    rintro e w_8 (⟨vc8, hv, rfl, hI_8, hg_8⟩ | ⟨hv, rfl, hpb⟩)
    rotate_left
    · have h2 := HQ.out
      rw [hv, Option.bind_none] at h2
      have HQ2 := Lib.hid h2
      clear h2 hv
      have HPB := Lib.hid hpb
      clear hpb
      go_wp2_with fail
      exact ⟨rfl, .inr ⟨HQ2.out, rfl, HPB.out⟩⟩
    have h2 := HQ.out
    rw [hv, Option.bind_some] at h2
    clear HQ
    have HQ := Lib.hid h2
    clear h2 hv
    have hX_8 := hX.grown hg_8
    clear hX hI hg_8
    go_wp2_with fail
    refine (number_call w (w.heap.size + 1 + 1) (w.heap.size + 1) ws 9 w_8 hI_8 hHZ.out hG).mono ?_
    rintro e w_9 (⟨vc9, hv, rfl, hI_9, hg_9⟩ | ⟨hv, rfl, hpb⟩)
    rotate_left
    · have h2 := HQ.out
      rw [hv, Option.bind_none] at h2
      have HQ2 := Lib.hid h2
      clear h2 hv
      have HPB := Lib.hid hpb
      clear hpb
      go_wp2_with fail
      exact ⟨rfl, .inr ⟨HQ2.out, rfl, HPB.out⟩⟩
    have h2 := HQ.out
    rw [hv, Option.bind_some] at h2
    clear HQ
    have HQ := Lib.hid h2
    clear h2 hv
    have hX_9 := hX_8.grown hg_9
    clear hX_8 hI_8 hg_9
    go_wp2_with fail
    refine (number_call w (w.heap.size + 1 + 1) (w.heap.size + 1) ws 10 w_9 hI_9 hHZ.out hG).mono ?_
    rintro e w_10 (⟨vc10, hv, rfl, hI_10, hg_10⟩ | ⟨hv, rfl, hpb⟩)
    rotate_left
    · have h2 := HQ.out
      rw [hv, Option.bind_none] at h2
      have HQ2 := Lib.hid h2
      clear h2 hv
      have HPB := Lib.hid hpb
      clear hpb
      go_wp2_with fail
      exact ⟨rfl, .inr ⟨HQ2.out, rfl, HPB.out⟩⟩
    have h2 := HQ.out
    rw [hv, Option.bind_some] at h2
    clear HQ
    have HQ := Lib.hid h2
    clear h2 hv
    have hX_10 := hX_9.grown hg_10
    clear hX_9 hI_9 hg_10
    go_wp2_with fail
    refine (number_call w (w.heap.size + 1 + 1) (w.heap.size + 1) ws 11 w_10 hI_10 hHZ.out hG).mono ?_
    rintro e w_11 (⟨vc11, hv, rfl, hI_11, hg_11⟩ | ⟨hv, rfl, hpb⟩)
    rotate_left
    · have h2 := HQ.out
      rw [hv, Option.bind_none] at h2
      have HQ2 := Lib.hid h2
      clear h2 hv
      have HPB := Lib.hid hpb
      clear hpb
      go_wp2_with fail
      exact ⟨rfl, .inr ⟨HQ2.out, rfl, HPB.out⟩⟩
    have h2 := HQ.out
    rw [hv, Option.bind_some] at h2
    clear HQ
    have HQ := Lib.hid h2
    clear h2 hv
    have hX_11 := hX_10.grown hg_11
    clear hX_10 hI_10 hg_11
    obtain ⟨c0, c1, c2, c3, c4, c5, c6, c7, c8, c9, c10, c11, c12, c13⟩ := hX_11.cells
    have cz := hX_11.fx
    obtain ⟨d0, d1, d2, d3, d4, d5, d6, d7, d8, d9, d10, d11, d12, d13⟩ := hX_11.rcells
    have dz := hX_11.fr
    have HX := Lib.hid hX_11
    have HI := Lib.hid hI_11
    clear hX_11 hI_11
    go_wp2_with fail
    have hX := ((((HX.out.set 8 (.int .i64 vc8) ⟨a, b, 1, vc3, vc4, vc5, vc6, vc7, vc8, 0, 0, 0, 0, 0⟩ (by decide) rfl).set 9 (.int .i64 vc9) ⟨a, b, 1, vc3, vc4, vc5, vc6, vc7, vc8, vc9, 0, 0, 0, 0⟩ (by decide) rfl).set 10 (.int .i64 vc10) ⟨a, b, 1, vc3, vc4, vc5, vc6, vc7, vc8, vc9, vc10, 0, 0, 0⟩ (by decide) rfl).set 11 (.int .i64 vc11) ⟨a, b, 1, vc3, vc4, vc5, vc6, vc7, vc8, vc9, vc10, vc11, 0, 0⟩ (by decide) rfl)
    have hI := ((((HI.out.set w_1.heap.size 8 (.int .i64 vc8) (by omega) (by omega) (by omega)).set w_1.heap.size 9 (.int .i64 vc9) (by omega) (by omega) (by omega)).set w_1.heap.size 10 (.int .i64 vc10) (by omega) (by omega) (by omega)).set w_1.heap.size 11 (.int .i64 vc11) (by omega) (by omega) (by omega))
    refine bodyPost_ret (results_paper1 rfl _ _ w.heap.size ⟨a, b, 1, vc3, vc4, vc5, vc6, vc7, vc8, vc9, vc10, vc11, 0, 0⟩ rfl (set14 _ _ ⟨a, b, 1, vc3, vc4, vc5, vc6, vc7, vc8, vc9, vc10, vc11, 0, 0⟩ Paper.zero hX.rcells)) rfl ?_
    exact .inl ⟨_, HQ.out, rfl, set14_below _ (Nat.le_refl _) ⟨a, b, 1, vc3, vc4, vc5, vc6, vc7, vc8, vc9, vc10, vc11, 0, 0⟩ hI.below⟩
  · rw [hi]
    have h2 := HQ.out
    rw [hk, if_neg (by decide), if_pos rfl] at h2
    clear HQ
    have HQ := Lib.hid h2
    clear h2 hk
    go_wp2_with fail
    have hX := HX.out.set 2 (.int .u8 2) ⟨a, b, 2, 0, 0, 0, ⟨#[]⟩, ⟨#[]⟩, 0, 0, 0, 0, 0, 0⟩ (by decide) rfl
    have hI := HI.out.set w_1.heap.size 2 (.int .u8 2) (by omega) (by omega) (by omega)
    clear HX HI c0 c1 c2 c3 c4 c5 c6 c7 c8 c9 c10 c11 c12 c13 cz
    have hmx : max (0 : Int) 2 = 2 := by decide
    rw [hmx]
    clear hmx
    generalize hV : w'.setCell ⟨w_1.heap.size, 2, none⟩ (.int .u8 2) = V at hX hI ⊢
    clear hV w'
    refine (number_call w (w.heap.size + 1 + 1) (w.heap.size + 1) ws 3 V hI hHZ.out hG).mono ?_
    rintro e w_3 (⟨vc3, hv, rfl, hI_3, hg_3⟩ | ⟨hv, rfl, hpb⟩)
    rotate_left
    · have h2 := HQ.out
      rw [hv, Option.bind_none] at h2
      have HQ2 := Lib.hid h2
      clear h2 hv
      have HPB := Lib.hid hpb
      clear hpb
      go_wp2_with fail
      exact ⟨rfl, .inr ⟨HQ2.out, rfl, HPB.out⟩⟩
    have h2 := HQ.out
    rw [hv, Option.bind_some] at h2
    clear HQ
    have HQ := Lib.hid h2
    clear h2 hv
    have hX_3 := hX.grown hg_3
    clear hX hI hg_3
    go_wp2_with fail
    refine (number_call w (w.heap.size + 1 + 1) (w.heap.size + 1) ws 4 w_3 hI_3 hHZ.out hG).mono ?_
    rintro e w_4 (⟨vc4, hv, rfl, hI_4, hg_4⟩ | ⟨hv, rfl, hpb⟩)
    rotate_left
    · have h2 := HQ.out
      rw [hv, Option.bind_none] at h2
      have HQ2 := Lib.hid h2
      clear h2 hv
      have HPB := Lib.hid hpb
      clear hpb
      go_wp2_with fail
      exact ⟨rfl, .inr ⟨HQ2.out, rfl, HPB.out⟩⟩
    have h2 := HQ.out
    rw [hv, Option.bind_some] at h2
    clear HQ
    have HQ := Lib.hid h2
    clear h2 hv
    have hX_4 := hX_3.grown hg_4
    clear hX_3 hI_3 hg_4
    go_wp2_with fail
    refine (number_call w (w.heap.size + 1 + 1) (w.heap.size + 1) ws 5 w_4 hI_4 hHZ.out hG).mono ?_
    rintro e w_5 (⟨vc12, hv, rfl, hI_5, hg_5⟩ | ⟨hv, rfl, hpb⟩)
    rotate_left
    · have h2 := HQ.out
      rw [hv, Option.bind_none] at h2
      have HQ2 := Lib.hid h2
      clear h2 hv
      have HPB := Lib.hid hpb
      clear hpb
      go_wp2_with fail
      exact ⟨rfl, .inr ⟨HQ2.out, rfl, HPB.out⟩⟩
    have h2 := HQ.out
    rw [hv, Option.bind_some] at h2
    clear HQ
    have HQ := Lib.hid h2
    clear h2 hv
    have hX_5 := hX_4.grown hg_5
    clear hX_4 hI_4 hg_5
    go_wp2_with fail
    refine (number_call w (w.heap.size + 1 + 1) (w.heap.size + 1) ws 6 w_5 hI_5 hHZ.out hG).mono ?_
    rintro e w_6 (⟨vc8, hv, rfl, hI_6, hg_6⟩ | ⟨hv, rfl, hpb⟩)
    rotate_left
    · have h2 := HQ.out
      rw [hv, Option.bind_none] at h2
      have HQ2 := Lib.hid h2
      clear h2 hv
      have HPB := Lib.hid hpb
      clear hpb
      go_wp2_with fail
      exact ⟨rfl, .inr ⟨HQ2.out, rfl, HPB.out⟩⟩
    have h2 := HQ.out
    rw [hv, Option.bind_some] at h2
    clear HQ
    have HQ := Lib.hid h2
    clear h2 hv
    have hX_6 := hX_5.grown hg_6
    clear hX_5 hI_5 hg_6
    go_wp2_with fail
    refine (number_call w (w.heap.size + 1 + 1) (w.heap.size + 1) ws 7 w_6 hI_6 hHZ.out hG).mono ?_
    rintro e w_7 (⟨vc9, hv, rfl, hI_7, hg_7⟩ | ⟨hv, rfl, hpb⟩)
    rotate_left
    · have h2 := HQ.out
      rw [hv, Option.bind_none] at h2
      have HQ2 := Lib.hid h2
      clear h2 hv
      have HPB := Lib.hid hpb
      clear hpb
      go_wp2_with fail
      exact ⟨rfl, .inr ⟨HQ2.out, rfl, HPB.out⟩⟩
    have h2 := HQ.out
    rw [hv, Option.bind_some] at h2
    clear HQ
    have HQ := Lib.hid h2
    clear h2 hv
    have hX_7 := hX_6.grown hg_7
    clear hX_6 hI_6 hg_7
    obtain ⟨c0, c1, c2, c3, c4, c5, c6, c7, c8, c9, c10, c11, c12, c13⟩ := hX_7.cells
    have cz := hX_7.fx
    obtain ⟨d0, d1, d2, d3, d4, d5, d6, d7, d8, d9, d10, d11, d12, d13⟩ := hX_7.rcells
    have dz := hX_7.fr
    have HX := Lib.hid hX_7
    have HI := Lib.hid hI_7
    clear hX_7 hI_7
    go_wp2_with fail
    have hX := (((((HX.out.set 3 (.int .i64 vc3) ⟨a, b, 2, vc3, 0, 0, ⟨#[]⟩, ⟨#[]⟩, 0, 0, 0, 0, 0, 0⟩ (by decide) rfl).set 4 (.int .i64 vc4) ⟨a, b, 2, vc3, vc4, 0, ⟨#[]⟩, ⟨#[]⟩, 0, 0, 0, 0, 0, 0⟩ (by decide) rfl).set 12 (.int .i64 vc12) ⟨a, b, 2, vc3, vc4, 0, ⟨#[]⟩, ⟨#[]⟩, 0, 0, 0, 0, vc12, 0⟩ (by decide) rfl).set 8 (.int .i64 vc8) ⟨a, b, 2, vc3, vc4, 0, ⟨#[]⟩, ⟨#[]⟩, vc8, 0, 0, 0, vc12, 0⟩ (by decide) rfl).set 9 (.int .i64 vc9) ⟨a, b, 2, vc3, vc4, 0, ⟨#[]⟩, ⟨#[]⟩, vc8, vc9, 0, 0, vc12, 0⟩ (by decide) rfl)
    have hI := (((((HI.out.set w_1.heap.size 3 (.int .i64 vc3) (by omega) (by omega) (by omega)).set w_1.heap.size 4 (.int .i64 vc4) (by omega) (by omega) (by omega)).set w_1.heap.size 12 (.int .i64 vc12) (by omega) (by omega) (by omega)).set w_1.heap.size 8 (.int .i64 vc8) (by omega) (by omega) (by omega)).set w_1.heap.size 9 (.int .i64 vc9) (by omega) (by omega) (by omega))
    refine bodyPost_ret (results_paper1 rfl _ _ w.heap.size ⟨a, b, 2, vc3, vc4, 0, ⟨#[]⟩, ⟨#[]⟩, vc8, vc9, 0, 0, vc12, 0⟩ rfl (set14 _ _ ⟨a, b, 2, vc3, vc4, 0, ⟨#[]⟩, ⟨#[]⟩, vc8, vc9, 0, 0, vc12, 0⟩ Paper.zero hX.rcells)) rfl ?_
    exact .inl ⟨_, HQ.out, rfl, set14_below _ (Nat.le_refl _) ⟨a, b, 2, vc3, vc4, 0, ⟨#[]⟩, ⟨#[]⟩, vc8, vc9, 0, 0, vc12, 0⟩ hI.below⟩
  · rw [hi]
    have h2 := HQ.out
    rw [hk, if_neg (by decide), if_neg (by decide), if_pos rfl] at h2
    clear HQ
    have HQ := Lib.hid h2
    clear h2 hk
    go_wp2_with fail
    have hX := HX.out.set 2 (.int .u8 3) ⟨a, b, 3, 0, 0, 0, ⟨#[]⟩, ⟨#[]⟩, 0, 0, 0, 0, 0, 0⟩ (by decide) rfl
    have hI := HI.out.set w_1.heap.size 2 (.int .u8 3) (by omega) (by omega) (by omega)
    clear HX HI c0 c1 c2 c3 c4 c5 c6 c7 c8 c9 c10 c11 c12 c13 cz
    have hmx : max (0 : Int) 3 = 3 := by decide
    rw [hmx]
    clear hmx
    generalize hV : w'.setCell ⟨w_1.heap.size, 2, none⟩ (.int .u8 3) = V at hX hI ⊢
    clear hV w'
    refine (number_call w (w.heap.size + 1 + 1) (w.heap.size + 1) ws 3 V hI hHZ.out hG).mono ?_
    rintro e w_3 (⟨vc13, hv, rfl, hI_3, hg_3⟩ | ⟨hv, rfl, hpb⟩)
    rotate_left
    · have h2 := HQ.out
      rw [hv, Option.bind_none] at h2
      have HQ2 := Lib.hid h2
      clear h2 hv
      have HPB := Lib.hid hpb
      clear hpb
      go_wp2_with fail
      exact ⟨rfl, .inr ⟨HQ2.out, rfl, HPB.out⟩⟩
    have h2 := HQ.out
    rw [hv, Option.bind_some] at h2
    clear HQ
    have HQ := Lib.hid h2
    clear h2 hv
    have hX_3 := hX.grown hg_3
    clear hX hI hg_3
    obtain ⟨c0, c1, c2, c3, c4, c5, c6, c7, c8, c9, c10, c11, c12, c13⟩ := hX_3.cells
    have cz := hX_3.fx
    obtain ⟨d0, d1, d2, d3, d4, d5, d6, d7, d8, d9, d10, d11, d12, d13⟩ := hX_3.rcells
    have dz := hX_3.fr
    have HX := Lib.hid hX_3
    have HI := Lib.hid hI_3
    clear hX_3 hI_3
    go_wp2_with fail
    have hX := (HX.out.set 13 (.int .i64 vc13) ⟨a, b, 3, 0, 0, 0, ⟨#[]⟩, ⟨#[]⟩, 0, 0, 0, 0, 0, vc13⟩ (by decide) rfl)
    have hI := (HI.out.set w_1.heap.size 13 (.int .i64 vc13) (by omega) (by omega) (by omega))
    refine bodyPost_ret (results_paper1 rfl _ _ w.heap.size ⟨a, b, 3, 0, 0, 0, ⟨#[]⟩, ⟨#[]⟩, 0, 0, 0, 0, 0, vc13⟩ rfl (set14 _ _ ⟨a, b, 3, 0, 0, 0, ⟨#[]⟩, ⟨#[]⟩, 0, 0, 0, 0, 0, vc13⟩ Paper.zero hX.rcells)) rfl ?_
    exact .inl ⟨_, HQ.out, rfl, set14_below _ (Nat.le_refl _) ⟨a, b, 3, 0, 0, 0, ⟨#[]⟩, ⟨#[]⟩, 0, 0, 0, 0, 0, vc13⟩ hI.below⟩

end Go.Proofs.YtpffpofdceppiaaGreatDoor

set_option linter.unusedSimpArgs false
set_option linter.unusedVariables false
namespace Go.Proofs.YtpffpofdceppiaaGreatDoor
open Go.RowKit Go.Shelf

/-- What a line says, if it is a paper's own line. -/
def readP (s : ByteArray) : Paper × Int :=
  match parseW (wordsOf s) with
  | none => (Paper.zero, 4)
  | some x => if (writeP x).2 = 0 ∧ (writeP x).1 = s then (x, 0) else (Paper.zero, 4)

theorem bind_some {α β : Type} {o : Option α} {f : α → Option β} {y : β} (h : o.bind f = some y) : ∃ a, o = some a ∧ f a = some y := by
  cases o with
  | none => cases h
  | some a => exact ⟨a, rfl, h⟩

theorem parseW_sizes {ws : List ByteArray} {x : Paper} {N : Nat} (h : parseW ws = some x) (hz : ∀ v ∈ ws, v.size ≤ N) : x.mark.size ≤ N ∧ x.goods.size ≤ N := by
  unfold parseW at h
  obtain ⟨a, -, h⟩ := bind_some h
  obtain ⟨b, -, h⟩ := bind_some h
  obtain ⟨c, -, h⟩ := bind_some h
  split at h
  · obtain ⟨l, -, h⟩ := bind_some h
    obtain ⟨p, -, h⟩ := bind_some h
    obtain ⟨i, -, h⟩ := bind_some h
    obtain ⟨m, hm, h⟩ := bind_some h
    obtain ⟨g, hg, h⟩ := bind_some h
    obtain ⟨lo, -, h⟩ := bind_some h
    obtain ⟨hi, -, h⟩ := bind_some h
    obtain ⟨pc, -, h⟩ := bind_some h
    obtain ⟨ow, -, h⟩ := bind_some h
    cases h
    exact ⟨hz m (List.mem_of_getElem? hm), hz g (List.mem_of_getElem? hg)⟩
  split at h
  · obtain ⟨l, -, h⟩ := bind_some h
    obtain ⟨p, -, h⟩ := bind_some h
    obtain ⟨i, -, h⟩ := bind_some h
    obtain ⟨lo, -, h⟩ := bind_some h
    obtain ⟨hi, -, h⟩ := bind_some h
    cases h
    exact ⟨Nat.zero_le _, Nat.zero_le _⟩
  split at h
  · obtain ⟨l, -, h⟩ := bind_some h
    cases h
    exact ⟨Nat.zero_le _, Nat.zero_le _⟩
  · cases h
    exact ⟨Nat.zero_le _, Nat.zero_le _⟩

theorem results_two {fn : Func} {p q : Tmp} {ty : TypeId} (h : fn.results = #[.cell p 28, .cell q ty]) (tmps : Array Value) (w : World) (b : Nat) (x : Paper) (a : Addr) (v : Value) (hp : tmps.getD p undef = .pointer (some ⟨b, 0, none⟩)) (hq : tmps.getD q undef = .pointer (some a)) (hc : PaperIn w b x) (hl : (loadVar ty a).run Tryz.prog w = .ok v w) :
    (results fn tmps).run Tryz.prog w = .ok (.tuple #[.agg x.vals.toArray, v]) w := by
  simp only [Array.getD_eq_getD_getElem?] at hp hq
  have h1 := loadVar_paper w b x hc
  simp only [results, h]
  simp [Sem.run_bind, Result.andThen, hp, hq, asAddr, hl, h1]
  rfl

theorem PaperIn.of_heap {w w' : World} {b : Nat} {x : Paper} (h : w'.heap[b]? = w.heap[b]?) (hx : PaperIn w b x) : PaperIn w' b x := by
  obtain ⟨d0, d1, d2, d3, d4, d5, d6, d7, d8, d9, d10, d11, d12, d13⟩ := hx
  exact ⟨(World.cell?_of_block (w := w) (a := ⟨b, 0, none⟩) h).trans d0, (World.cell?_of_block (w := w) (a := ⟨b, 1, none⟩) h).trans d1, (World.cell?_of_block (w := w) (a := ⟨b, 2, none⟩) h).trans d2, (World.cell?_of_block (w := w) (a := ⟨b, 3, none⟩) h).trans d3, (World.cell?_of_block (w := w) (a := ⟨b, 4, none⟩) h).trans d4, (World.cell?_of_block (w := w) (a := ⟨b, 5, none⟩) h).trans d5, (World.cell?_of_block (w := w) (a := ⟨b, 6, none⟩) h).trans d6, (World.cell?_of_block (w := w) (a := ⟨b, 7, none⟩) h).trans d7, (World.cell?_of_block (w := w) (a := ⟨b, 8, none⟩) h).trans d8, (World.cell?_of_block (w := w) (a := ⟨b, 9, none⟩) h).trans d9, (World.cell?_of_block (w := w) (a := ⟨b, 10, none⟩) h).trans d10, (World.cell?_of_block (w := w) (a := ⟨b, 11, none⟩) h).trans d11, (World.cell?_of_block (w := w) (a := ⟨b, 12, none⟩) h).trans d12, (World.cell?_of_block (w := w) (a := ⟨b, 13, none⟩) h).trans d13⟩

theorem PaperIn.lt {w : World} {b : Nat} {x : Paper} (hx : PaperIn w b x) : b < w.heap.size := by
  obtain ⟨h, _⟩ := hx
  exact cell_lt h

theorem set14_frozen (w : World) (b : Nat) (x : Paper) (a : Addr) : (((((((((((((((w.setCell ⟨b, 0, none⟩ (.int .i64 x.id)).setCell ⟨b, 1, none⟩ (.int .i64 x.known)).setCell ⟨b, 2, none⟩ (.int .u8 x.kind)).setCell ⟨b, 3, none⟩ (.int .i64 x.loss)).setCell ⟨b, 4, none⟩ (.int .i64 x.pack)).setCell ⟨b, 5, none⟩ (.int .i64 x.inn)).setCell ⟨b, 6, none⟩ (.string x.mark)).setCell ⟨b, 7, none⟩ (.string x.goods)).setCell ⟨b, 8, none⟩ (.int .i64 x.lo)).setCell ⟨b, 9, none⟩ (.int .i64 x.hi)).setCell ⟨b, 10, none⟩ (.int .i64 x.pieces)).setCell ⟨b, 11, none⟩ (.int .i64 x.owner)).setCell ⟨b, 12, none⟩ (.int .i64 x.count)).setCell ⟨b, 13, none⟩ (.int .i64 x.of))).frozen? a = w.frozen? a := by
  simp only [World.frozen?_setCell]

set_option maxRecDepth 100000 in
set_option maxHeartbeats 4000000 in
theorem read_panic (b c : Nat) (x : Paper) (k : Int) (w : World) (hx : PaperIn w b x) (hz : ∀ i, w.frozen? ⟨b, i, none⟩ = false) (hc : w.cell? ⟨c, 0, none⟩ = some (.int .i64 k)) (hcz : w.frozen? ⟨c, 0, none⟩ = false) (hne : c ≠ b) :
    CallsD Tryz.prog 87 #[.pointer (some ⟨b, 0, none⟩), .pointer (some ⟨c, 0, none⟩)] (.panicking [{ v := formlessV, recovered := false }]) w fun e u' w' =>
      e = .returned (.tuple #[]) ∧ u' = .panicking [{ v := formlessV, recovered := true }] ∧ w' = (((((((((((((((w.setCell ⟨b, 0, none⟩ (.int .i64 Paper.zero.id)).setCell ⟨b, 1, none⟩ (.int .i64 Paper.zero.known)).setCell ⟨b, 2, none⟩ (.int .u8 Paper.zero.kind)).setCell ⟨b, 3, none⟩ (.int .i64 Paper.zero.loss)).setCell ⟨b, 4, none⟩ (.int .i64 Paper.zero.pack)).setCell ⟨b, 5, none⟩ (.int .i64 Paper.zero.inn)).setCell ⟨b, 6, none⟩ (.string Paper.zero.mark)).setCell ⟨b, 7, none⟩ (.string Paper.zero.goods)).setCell ⟨b, 8, none⟩ (.int .i64 Paper.zero.lo)).setCell ⟨b, 9, none⟩ (.int .i64 Paper.zero.hi)).setCell ⟨b, 10, none⟩ (.int .i64 Paper.zero.pieces)).setCell ⟨b, 11, none⟩ (.int .i64 Paper.zero.owner)).setCell ⟨b, 12, none⟩ (.int .i64 Paper.zero.count)).setCell ⟨b, 13, none⟩ (.int .i64 Paper.zero.of)).setCell ⟨c, 0, none⟩ (.int .i64 4)).alloc (.cells #[] 93) := by
  have hlt := hx.lt
  have hlc : c < w.heap.size := cell_lt hc
  obtain ⟨d0, d1, d2, d3, d4, d5, d6, d7, d8, d9, d10, d11, d12, d13⟩ := hx
  have hac : ∀ (W : World) (i : Nat), W.heap.size = w.heap.size → (W.alloc (.cells #[] 93)).cell? ⟨b, i, none⟩ = W.cell? ⟨b, i, none⟩ := fun W i h => World.cell?_of_block (w := W) (Below.heap_alloc _ _ _ (by show b < _; omega))
  have haf : ∀ (W : World) (i : Nat), W.heap.size = w.heap.size → (W.alloc (.cells #[] 93)).frozen? ⟨b, i, none⟩ = W.frozen? ⟨b, i, none⟩ := fun W i h => World.frozen?_of_block (w := W) (Below.heap_alloc _ _ _ (by show b < _; omega))
  have hac' : ∀ (W : World) (i : Nat), W.heap.size = w.heap.size → (W.alloc (.cells #[] 93)).cell? ⟨c, i, none⟩ = W.cell? ⟨c, i, none⟩ := fun W i h => World.cell?_of_block (w := W) (Below.heap_alloc _ _ _ (by show c < _; omega))
  have haf' : ∀ (W : World) (i : Nat), W.heap.size = w.heap.size → (W.alloc (.cells #[] 93)).frozen? ⟨c, i, none⟩ = W.frozen? ⟨c, i, none⟩ := fun W i h => World.frozen?_of_block (w := W) (Below.heap_alloc _ _ _ (by show c < _; omega))
  have hne' : b ≠ c := fun e => hne e.symm
  refine callsD_of_wpS Tryz.func87 rfl fun c₀ cs hu => ?_
  simp only [Tryz.ntmps87, List.size_toArray, List.length_cons, List.length_nil, Nat.reduceAdd, Nat.reduceSub, Array.replicate_succ, Array.replicate_zero, List.push_toArray, List.append_toArray, List.nil_append, List.cons_append]
  apply wpS_seq
  apply wpS_region
  simp [wpOpsS, go_sem, recoverD, hu, Exit.thenS]
  refine wpS_of_wp ?_
  have hq : ∀ w : World, (binOp .neq 20 formlessV .nilIface).run Tryz.prog w = .ok (.bool true) w := fun w => by kernel_rfl
  have hg : ∀ w : World, (eqGuard .neq 20 (.tmp 6) (.const .nilIface) formlessV .nilIface).run Tryz.prog w = .ok () w := fun w => by kernel_rfl
  have ht : ∀ w : World, (Instr.typeAssert formlessV 20 93 true).run Tryz.prog w = .ok (.tuple #[.agg #[], .bool true]) w := fun w => by kernel_rfl
  go_wp2_with fail
  cases c₀
  simp_all [bodyPostS, results, Tryz.results87]
  rfl

theorem read_idle (b c : Nat) (w : World) :
    CallsD Tryz.prog 87 #[.pointer (some ⟨b, 0, none⟩), .pointer (some ⟨c, 0, none⟩)] .returning w fun e u' w' => e = .returned (.tuple #[]) ∧ u' = .returning ∧ w' = w := by
  refine callsD_of_wpS Tryz.func87 rfl fun c₀ cs hu => ?_
  simp only [Tryz.ntmps87, List.size_toArray, List.length_cons, List.length_nil, Nat.reduceAdd, Nat.reduceSub, Array.replicate_succ, Array.replicate_zero, List.push_toArray, List.append_toArray, List.nil_append, List.cons_append]
  apply wpS_seq
  apply wpS_region
  simp [wpOpsS, go_sem, recoverD, hu, Exit.thenS]
  refine wpS_of_wp ?_
  have hq : ∀ w : World, (binOp .neq 20 .nilIface .nilIface).run Tryz.prog w = .ok (.bool false) w := fun w => by kernel_rfl
  go_wp2_with fail
  cases c₀
  simp_all [bodyPostS, results, Tryz.results87]

theorem put14 (w : World) (b : Nat) (y x : Paper) (k0 : Int) (hx : PaperIn w b x) (hz : ∀ i, w.frozen? ⟨b, i, none⟩ = false) (hc : w.cell? ⟨b + 1, 0, none⟩ = some (.int .i64 k0)) (hcz : w.frozen? ⟨b + 1, 0, none⟩ = false) :
    PaperIn ((((((((((((((w.setCell ⟨b, 0, none⟩ (.int .i64 y.id)).setCell ⟨b, 1, none⟩ (.int .i64 y.known)).setCell ⟨b, 2, none⟩ (.int .u8 y.kind)).setCell ⟨b, 3, none⟩ (.int .i64 y.loss)).setCell ⟨b, 4, none⟩ (.int .i64 y.pack)).setCell ⟨b, 5, none⟩ (.int .i64 y.inn)).setCell ⟨b, 6, none⟩ (.string y.mark)).setCell ⟨b, 7, none⟩ (.string y.goods)).setCell ⟨b, 8, none⟩ (.int .i64 y.lo)).setCell ⟨b, 9, none⟩ (.int .i64 y.hi)).setCell ⟨b, 10, none⟩ (.int .i64 y.pieces)).setCell ⟨b, 11, none⟩ (.int .i64 y.owner)).setCell ⟨b, 12, none⟩ (.int .i64 y.count)).setCell ⟨b, 13, none⟩ (.int .i64 y.of)) b y ∧ (∀ i, (((((((((((((((w.setCell ⟨b, 0, none⟩ (.int .i64 y.id)).setCell ⟨b, 1, none⟩ (.int .i64 y.known)).setCell ⟨b, 2, none⟩ (.int .u8 y.kind)).setCell ⟨b, 3, none⟩ (.int .i64 y.loss)).setCell ⟨b, 4, none⟩ (.int .i64 y.pack)).setCell ⟨b, 5, none⟩ (.int .i64 y.inn)).setCell ⟨b, 6, none⟩ (.string y.mark)).setCell ⟨b, 7, none⟩ (.string y.goods)).setCell ⟨b, 8, none⟩ (.int .i64 y.lo)).setCell ⟨b, 9, none⟩ (.int .i64 y.hi)).setCell ⟨b, 10, none⟩ (.int .i64 y.pieces)).setCell ⟨b, 11, none⟩ (.int .i64 y.owner)).setCell ⟨b, 12, none⟩ (.int .i64 y.count)).setCell ⟨b, 13, none⟩ (.int .i64 y.of))).frozen? ⟨b, i, none⟩ = false) ∧ (((((((((((((((w.setCell ⟨b, 0, none⟩ (.int .i64 y.id)).setCell ⟨b, 1, none⟩ (.int .i64 y.known)).setCell ⟨b, 2, none⟩ (.int .u8 y.kind)).setCell ⟨b, 3, none⟩ (.int .i64 y.loss)).setCell ⟨b, 4, none⟩ (.int .i64 y.pack)).setCell ⟨b, 5, none⟩ (.int .i64 y.inn)).setCell ⟨b, 6, none⟩ (.string y.mark)).setCell ⟨b, 7, none⟩ (.string y.goods)).setCell ⟨b, 8, none⟩ (.int .i64 y.lo)).setCell ⟨b, 9, none⟩ (.int .i64 y.hi)).setCell ⟨b, 10, none⟩ (.int .i64 y.pieces)).setCell ⟨b, 11, none⟩ (.int .i64 y.owner)).setCell ⟨b, 12, none⟩ (.int .i64 y.count)).setCell ⟨b, 13, none⟩ (.int .i64 y.of))).cell? ⟨b + 1, 0, none⟩ = some (.int .i64 k0) ∧ (((((((((((((((w.setCell ⟨b, 0, none⟩ (.int .i64 y.id)).setCell ⟨b, 1, none⟩ (.int .i64 y.known)).setCell ⟨b, 2, none⟩ (.int .u8 y.kind)).setCell ⟨b, 3, none⟩ (.int .i64 y.loss)).setCell ⟨b, 4, none⟩ (.int .i64 y.pack)).setCell ⟨b, 5, none⟩ (.int .i64 y.inn)).setCell ⟨b, 6, none⟩ (.string y.mark)).setCell ⟨b, 7, none⟩ (.string y.goods)).setCell ⟨b, 8, none⟩ (.int .i64 y.lo)).setCell ⟨b, 9, none⟩ (.int .i64 y.hi)).setCell ⟨b, 10, none⟩ (.int .i64 y.pieces)).setCell ⟨b, 11, none⟩ (.int .i64 y.owner)).setCell ⟨b, 12, none⟩ (.int .i64 y.count)).setCell ⟨b, 13, none⟩ (.int .i64 y.of))).frozen? ⟨b + 1, 0, none⟩ = false ∧ Below b w ((((((((((((((w.setCell ⟨b, 0, none⟩ (.int .i64 y.id)).setCell ⟨b, 1, none⟩ (.int .i64 y.known)).setCell ⟨b, 2, none⟩ (.int .u8 y.kind)).setCell ⟨b, 3, none⟩ (.int .i64 y.loss)).setCell ⟨b, 4, none⟩ (.int .i64 y.pack)).setCell ⟨b, 5, none⟩ (.int .i64 y.inn)).setCell ⟨b, 6, none⟩ (.string y.mark)).setCell ⟨b, 7, none⟩ (.string y.goods)).setCell ⟨b, 8, none⟩ (.int .i64 y.lo)).setCell ⟨b, 9, none⟩ (.int .i64 y.hi)).setCell ⟨b, 10, none⟩ (.int .i64 y.pieces)).setCell ⟨b, 11, none⟩ (.int .i64 y.owner)).setCell ⟨b, 12, none⟩ (.int .i64 y.count)).setCell ⟨b, 13, none⟩ (.int .i64 y.of)) :=
  ⟨set14 w b y x hx, fun i => by rw [set14_frozen]; exact hz i, (World.cell?_of_block (w := w) (a := ⟨b + 1, 0, none⟩) (set14_heap w b y (b + 1) (by omega))).trans hc, by rw [set14_frozen]; exact hcz, set14_below b (Nat.le_refl _) y (Below.refl _ _)⟩

theorem put15 (w : World) (b : Nat) (y x : Paper) (k0 k : Int) (hx : PaperIn w b x) (hz : ∀ i, w.frozen? ⟨b, i, none⟩ = false) (hc : w.cell? ⟨b + 1, 0, none⟩ = some (.int .i64 k0)) (hcz : w.frozen? ⟨b + 1, 0, none⟩ = false) :
    PaperIn (((((((((((((((w.setCell ⟨b, 0, none⟩ (.int .i64 y.id)).setCell ⟨b, 1, none⟩ (.int .i64 y.known)).setCell ⟨b, 2, none⟩ (.int .u8 y.kind)).setCell ⟨b, 3, none⟩ (.int .i64 y.loss)).setCell ⟨b, 4, none⟩ (.int .i64 y.pack)).setCell ⟨b, 5, none⟩ (.int .i64 y.inn)).setCell ⟨b, 6, none⟩ (.string y.mark)).setCell ⟨b, 7, none⟩ (.string y.goods)).setCell ⟨b, 8, none⟩ (.int .i64 y.lo)).setCell ⟨b, 9, none⟩ (.int .i64 y.hi)).setCell ⟨b, 10, none⟩ (.int .i64 y.pieces)).setCell ⟨b, 11, none⟩ (.int .i64 y.owner)).setCell ⟨b, 12, none⟩ (.int .i64 y.count)).setCell ⟨b, 13, none⟩ (.int .i64 y.of)).setCell ⟨b + 1, 0, none⟩ (.int .i64 k)) b y ∧ (((((((((((((((w.setCell ⟨b, 0, none⟩ (.int .i64 y.id)).setCell ⟨b, 1, none⟩ (.int .i64 y.known)).setCell ⟨b, 2, none⟩ (.int .u8 y.kind)).setCell ⟨b, 3, none⟩ (.int .i64 y.loss)).setCell ⟨b, 4, none⟩ (.int .i64 y.pack)).setCell ⟨b, 5, none⟩ (.int .i64 y.inn)).setCell ⟨b, 6, none⟩ (.string y.mark)).setCell ⟨b, 7, none⟩ (.string y.goods)).setCell ⟨b, 8, none⟩ (.int .i64 y.lo)).setCell ⟨b, 9, none⟩ (.int .i64 y.hi)).setCell ⟨b, 10, none⟩ (.int .i64 y.pieces)).setCell ⟨b, 11, none⟩ (.int .i64 y.owner)).setCell ⟨b, 12, none⟩ (.int .i64 y.count)).setCell ⟨b, 13, none⟩ (.int .i64 y.of)).setCell ⟨b + 1, 0, none⟩ (.int .i64 k)).cell? ⟨b + 1, 0, none⟩ = some (.int .i64 k) ∧ Below b w (((((((((((((((w.setCell ⟨b, 0, none⟩ (.int .i64 y.id)).setCell ⟨b, 1, none⟩ (.int .i64 y.known)).setCell ⟨b, 2, none⟩ (.int .u8 y.kind)).setCell ⟨b, 3, none⟩ (.int .i64 y.loss)).setCell ⟨b, 4, none⟩ (.int .i64 y.pack)).setCell ⟨b, 5, none⟩ (.int .i64 y.inn)).setCell ⟨b, 6, none⟩ (.string y.mark)).setCell ⟨b, 7, none⟩ (.string y.goods)).setCell ⟨b, 8, none⟩ (.int .i64 y.lo)).setCell ⟨b, 9, none⟩ (.int .i64 y.hi)).setCell ⟨b, 10, none⟩ (.int .i64 y.pieces)).setCell ⟨b, 11, none⟩ (.int .i64 y.owner)).setCell ⟨b, 12, none⟩ (.int .i64 y.count)).setCell ⟨b, 13, none⟩ (.int .i64 y.of)).setCell ⟨b + 1, 0, none⟩ (.int .i64 k)) ∧ b + 1 < (((((((((((((((w.setCell ⟨b, 0, none⟩ (.int .i64 y.id)).setCell ⟨b, 1, none⟩ (.int .i64 y.known)).setCell ⟨b, 2, none⟩ (.int .u8 y.kind)).setCell ⟨b, 3, none⟩ (.int .i64 y.loss)).setCell ⟨b, 4, none⟩ (.int .i64 y.pack)).setCell ⟨b, 5, none⟩ (.int .i64 y.inn)).setCell ⟨b, 6, none⟩ (.string y.mark)).setCell ⟨b, 7, none⟩ (.string y.goods)).setCell ⟨b, 8, none⟩ (.int .i64 y.lo)).setCell ⟨b, 9, none⟩ (.int .i64 y.hi)).setCell ⟨b, 10, none⟩ (.int .i64 y.pieces)).setCell ⟨b, 11, none⟩ (.int .i64 y.owner)).setCell ⟨b, 12, none⟩ (.int .i64 y.count)).setCell ⟨b, 13, none⟩ (.int .i64 y.of)).setCell ⟨b + 1, 0, none⟩ (.int .i64 k)).heap.size := by
  obtain ⟨h1, h2, h3, h4, h5⟩ := put14 w b y x k0 hx hz hc hcz
  generalize ((((((((((((((w.setCell ⟨b, 0, none⟩ (.int .i64 y.id)).setCell ⟨b, 1, none⟩ (.int .i64 y.known)).setCell ⟨b, 2, none⟩ (.int .u8 y.kind)).setCell ⟨b, 3, none⟩ (.int .i64 y.loss)).setCell ⟨b, 4, none⟩ (.int .i64 y.pack)).setCell ⟨b, 5, none⟩ (.int .i64 y.inn)).setCell ⟨b, 6, none⟩ (.string y.mark)).setCell ⟨b, 7, none⟩ (.string y.goods)).setCell ⟨b, 8, none⟩ (.int .i64 y.lo)).setCell ⟨b, 9, none⟩ (.int .i64 y.hi)).setCell ⟨b, 10, none⟩ (.int .i64 y.pieces)).setCell ⟨b, 11, none⟩ (.int .i64 y.owner)).setCell ⟨b, 12, none⟩ (.int .i64 y.count)).setCell ⟨b, 13, none⟩ (.int .i64 y.of)) = v at *
  have hlt : b + 1 < v.heap.size := cell_lt h3
  exact ⟨h1.of_heap (Below.heap_setCell _ _ _ _ (by simp)), World.cell?_setCell_same' _ _ _ (by rw [h3]; rfl), h5.setCell (by show b ≤ b + 1; omega) _, by rw [World.size_setCell]; exact hlt⟩

theorem done_two {fn : Func} (h : fn.results = #[.cell 2 28, .cell 3 31]) (tmps : Array Value) (w : World) (b : Nat) (x : Paper) (k : Int) (R : Ending → World → Prop) (hp : tmps.getD 2 undef = .pointer (some ⟨b, 0, none⟩)) (hq : tmps.getD 3 undef = .pointer (some ⟨b + 1, 0, none⟩)) (hc : PaperIn w b x) (hl : w.cell? ⟨b + 1, 0, none⟩ = some (.int .i64 k)) (hR : R (.returned (.tuple #[.agg x.vals.toArray, .int .i64 k])) w) :
    Leaves Tryz.prog fn tmps R [] .returning w :=
  ⟨_, results_two h tmps w b x ⟨b + 1, 0, none⟩ (.int .i64 k) hp hq hc (by go_simp), hR⟩

theorem readP_none {s : ByteArray} (h : parseW (wordsOf s) = none) : readP s = (Paper.zero, 4) := by unfold readP; rw [h]
theorem readP_some {s : ByteArray} {x : Paper} (h : parseW (wordsOf s) = some x) : readP s = if (writeP x).2 = 0 ∧ (writeP x).1 = s then (x, 0) else (Paper.zero, 4) := by unfold readP; rw [h]

set_option maxRecDepth 100000 in
set_option maxHeartbeats 4000000 in
theorem Read_any (s : ByteArray) (w : World) (hs : s.size ≤ 50000) (hG : Gl w) :
    Calls Tryz.prog 26 #[.string s] w fun e w' => e = .returned (.tuple #[.agg (readP s).1.vals.toArray, .int .i64 (readP s).2]) ∧ Below w.heap.size w w' := by
  have hmf : ∀ (fn : Fn) (first cap : Array Value) (w : World), (Instr.makeFunc fn first cap).run Tryz.prog w = .ok (.func fn first cap) w := fun _ _ _ _ => rfl
  have hB0 : Below w.heap.size w ((w.alloc (.cells #[.int .i64 0, .int .i64 0, .int .u8 0, .int .i64 0, .int .i64 0, .int .i64 0, .string ⟨#[]⟩, .string ⟨#[]⟩, .int .i64 0, .int .i64 0, .int .i64 0, .int .i64 0, .int .i64 0, .int .i64 0] 28)).alloc (.cells #[.int .i64 0] 31)) := ((Below.refl _ w).alloc (Nat.le_refl _) _).alloc (by simp) _
  have HPA : Hid (Calls Tryz.prog 88 #[.string s] ((w.alloc (.cells #[.int .i64 0, .int .i64 0, .int .u8 0, .int .i64 0, .int .i64 0, .int .i64 0, .string ⟨#[]⟩, .string ⟨#[]⟩, .int .i64 0, .int .i64 0, .int .i64 0, .int .i64 0, .int .i64 0, .int .i64 0] 28)).alloc (.cells #[.int .i64 0] 31)) fun e w' => (∃ x, parseW (wordsOf s) = some x ∧ e = .returned (.agg #[.int .i64 x.id, .int .i64 x.known, .int .u8 x.kind, .int .i64 x.loss, .int .i64 x.pack, .int .i64 x.inn, .string x.mark, .string x.goods, .int .i64 x.lo, .int .i64 x.hi, .int .i64 x.pieces, .int .i64 x.owner, .int .i64 x.count, .int .i64 x.of]) ∧ Below ((w.alloc (.cells #[.int .i64 0, .int .i64 0, .int .u8 0, .int .i64 0, .int .i64 0, .int .i64 0, .string ⟨#[]⟩, .string ⟨#[]⟩, .int .i64 0, .int .i64 0, .int .i64 0, .int .i64 0, .int .i64 0, .int .i64 0] 28)).alloc (.cells #[.int .i64 0] 31)).heap.size ((w.alloc (.cells #[.int .i64 0, .int .i64 0, .int .u8 0, .int .i64 0, .int .i64 0, .int .i64 0, .string ⟨#[]⟩, .string ⟨#[]⟩, .int .i64 0, .int .i64 0, .int .i64 0, .int .i64 0, .int .i64 0, .int .i64 0] 28)).alloc (.cells #[.int .i64 0] 31)) w') ∨
      (parseW (wordsOf s) = none ∧ e = .panicked [{ v := formlessV, recovered := false }] ∧ Below ((w.alloc (.cells #[.int .i64 0, .int .i64 0, .int .u8 0, .int .i64 0, .int .i64 0, .int .i64 0, .string ⟨#[]⟩, .string ⟨#[]⟩, .int .i64 0, .int .i64 0, .int .i64 0, .int .i64 0, .int .i64 0, .int .i64 0] 28)).alloc (.cells #[.int .i64 0] 31)).heap.size ((w.alloc (.cells #[.int .i64 0, .int .i64 0, .int .u8 0, .int .i64 0, .int .i64 0, .int .i64 0, .string ⟨#[]⟩, .string ⟨#[]⟩, .int .i64 0, .int .i64 0, .int .i64 0, .int .i64 0, .int .i64 0, .int .i64 0] 28)).alloc (.cells #[.int .i64 0] 31)) w')) := Lib.hid (parse_any s _ hs (hG.below hB0))
  have hsz : ((w.alloc (.cells #[.int .i64 0, .int .i64 0, .int .u8 0, .int .i64 0, .int .i64 0, .int .i64 0, .string ⟨#[]⟩, .string ⟨#[]⟩, .int .i64 0, .int .i64 0, .int .i64 0, .int .i64 0, .int .i64 0, .int .i64 0] 28)).alloc (.cells #[.int .i64 0] 31)).heap.size = w.heap.size + 1 + 1 := by simp
  have hX0 : PaperIn ((w.alloc (.cells #[.int .i64 0, .int .i64 0, .int .u8 0, .int .i64 0, .int .i64 0, .int .i64 0, .string ⟨#[]⟩, .string ⟨#[]⟩, .int .i64 0, .int .i64 0, .int .i64 0, .int .i64 0, .int .i64 0, .int .i64 0] 28)).alloc (.cells #[.int .i64 0] 31)) w.heap.size Paper.zero := ⟨by go_simp; rfl, by go_simp; rfl, by go_simp; rfl, by go_simp; rfl, by go_simp; rfl, by go_simp; rfl, by go_simp; rfl, by go_simp; rfl, by go_simp; rfl, by go_simp; rfl, by go_simp; rfl, by go_simp; rfl, by go_simp; rfl, by go_simp; rfl⟩
  have hZ0 : ∀ i, ((w.alloc (.cells #[.int .i64 0, .int .i64 0, .int .u8 0, .int .i64 0, .int .i64 0, .int .i64 0, .string ⟨#[]⟩, .string ⟨#[]⟩, .int .i64 0, .int .i64 0, .int .i64 0, .int .i64 0, .int .i64 0, .int .i64 0] 28)).alloc (.cells #[.int .i64 0] 31)).frozen? ⟨w.heap.size, i, none⟩ = false := fun i => by go_simp
  have hC0 : ((w.alloc (.cells #[.int .i64 0, .int .i64 0, .int .u8 0, .int .i64 0, .int .i64 0, .int .i64 0, .string ⟨#[]⟩, .string ⟨#[]⟩, .int .i64 0, .int .i64 0, .int .i64 0, .int .i64 0, .int .i64 0, .int .i64 0] 28)).alloc (.cells #[.int .i64 0] 31)).cell? ⟨w.heap.size + 1, 0, none⟩ = some (.int .i64 0) := by go_simp
  have hF0 : ((w.alloc (.cells #[.int .i64 0, .int .i64 0, .int .u8 0, .int .i64 0, .int .i64 0, .int .i64 0, .string ⟨#[]⟩, .string ⟨#[]⟩, .int .i64 0, .int .i64 0, .int .i64 0, .int .i64 0, .int .i64 0, .int .i64 0] 28)).alloc (.cells #[.int .i64 0] 31)).frozen? ⟨w.heap.size + 1, 0, none⟩ = false := by go_simp
  have HG := Lib.hid hG
  clear hG
  go_enter_defers Tryz.func26, Tryz.ntmps26
  go_wp2_with fail
  generalize ((w.alloc (.cells #[.int .i64 0, .int .i64 0, .int .u8 0, .int .i64 0, .int .i64 0, .int .i64 0, .string ⟨#[]⟩, .string ⟨#[]⟩, .int .i64 0, .int .i64 0, .int .i64 0, .int .i64 0, .int .i64 0, .int .i64 0] 28)).alloc (.cells #[.int .i64 0] 31)) = W0 at *
  refine HPA.out.mono ?_
  rintro e w1 (⟨x, hp, rfl, hB1⟩ | ⟨hp, rfl, hB1⟩)
  · have hx := parseW_sizes hp (wordsOf_size s)
    have HRP := Lib.hid (readP_some hp)
    have hX1 := hX0.of_heap (hB1.block _ (by omega))
    have hZ1 : ∀ i, w1.frozen? ⟨w.heap.size, i, none⟩ = false := fun i => (World.frozen?_of_block (w := W0) (a := ⟨w.heap.size, i, none⟩) (hB1.block _ (by show w.heap.size < _; omega))).trans (hZ0 i)
    have hC1 := (World.cell?_of_block (w := W0) (a := ⟨w.heap.size + 1, 0, none⟩) (hB1.block _ (by show w.heap.size + 1 < _; omega))).trans hC0
    have hF1 := (World.frozen?_of_block (w := W0) (a := ⟨w.heap.size + 1, 0, none⟩) (hB1.block _ (by show w.heap.size + 1 < _; omega))).trans hF0
    have hBB := Lib.hid (hB0.trans (hB1.mono (by omega)))
    have HX1 := Lib.hid hX1
    obtain ⟨d0, d1, d2, d3, d4, d5, d6, d7, d8, d9, d10, d11, d12, d13⟩ := hX1
    clear hX0 hZ0 hC0 hF0 HPA hp hB0 hB1
    go_wp2_with fail
    obtain ⟨p1, p2, p3, p4, p5⟩ := put14 w1 w.heap.size x Paper.zero 0 HX1.out hZ1 hC1 hF1
    clear d0 d1 d2 d3 d4 d5 d6 d7 d8 d9 d10 d11 d12 d13 HX1
    have HB2 := Lib.hid (hBB.out.trans p5)
    have hlt2 : w.heap.size + 1 < (((((((((((((((w1.setCell ⟨w.heap.size, 0, none⟩ (.int .i64 x.id)).setCell ⟨w.heap.size, 1, none⟩ (.int .i64 x.known)).setCell ⟨w.heap.size, 2, none⟩ (.int .u8 x.kind)).setCell ⟨w.heap.size, 3, none⟩ (.int .i64 x.loss)).setCell ⟨w.heap.size, 4, none⟩ (.int .i64 x.pack)).setCell ⟨w.heap.size, 5, none⟩ (.int .i64 x.inn)).setCell ⟨w.heap.size, 6, none⟩ (.string x.mark)).setCell ⟨w.heap.size, 7, none⟩ (.string x.goods)).setCell ⟨w.heap.size, 8, none⟩ (.int .i64 x.lo)).setCell ⟨w.heap.size, 9, none⟩ (.int .i64 x.hi)).setCell ⟨w.heap.size, 10, none⟩ (.int .i64 x.pieces)).setCell ⟨w.heap.size, 11, none⟩ (.int .i64 x.owner)).setCell ⟨w.heap.size, 12, none⟩ (.int .i64 x.count)).setCell ⟨w.heap.size, 13, none⟩ (.int .i64 x.of))).heap.size := cell_lt p3
    clear p5 hBB hZ1 hC1 hF1
    generalize hV : (((((((((((((((w1.setCell ⟨w.heap.size, 0, none⟩ (.int .i64 x.id)).setCell ⟨w.heap.size, 1, none⟩ (.int .i64 x.known)).setCell ⟨w.heap.size, 2, none⟩ (.int .u8 x.kind)).setCell ⟨w.heap.size, 3, none⟩ (.int .i64 x.loss)).setCell ⟨w.heap.size, 4, none⟩ (.int .i64 x.pack)).setCell ⟨w.heap.size, 5, none⟩ (.int .i64 x.inn)).setCell ⟨w.heap.size, 6, none⟩ (.string x.mark)).setCell ⟨w.heap.size, 7, none⟩ (.string x.goods)).setCell ⟨w.heap.size, 8, none⟩ (.int .i64 x.lo)).setCell ⟨w.heap.size, 9, none⟩ (.int .i64 x.hi)).setCell ⟨w.heap.size, 10, none⟩ (.int .i64 x.pieces)).setCell ⟨w.heap.size, 11, none⟩ (.int .i64 x.owner)).setCell ⟨w.heap.size, 12, none⟩ (.int .i64 x.count)).setCell ⟨w.heap.size, 13, none⟩ (.int .i64 x.of))) = w2 at *
    clear hV
    have HW := Lib.hid (Write_any x w2 (by omega) (by omega) (HG.out.below HB2.out))
    refine HW.out.mono ?_
    rintro e w3 ⟨rfl, hb3⟩
    have hX3 := p1.of_heap (hb3.block _ (by omega))
    have hZ3 : ∀ i, w3.frozen? ⟨w.heap.size, i, none⟩ = false := fun i => (World.frozen?_of_block (w := w2) (a := ⟨w.heap.size, i, none⟩) (hb3.block _ (by show w.heap.size < _; omega))).trans (p2 i)
    have hC3 := (World.cell?_of_block (w := w2) (a := ⟨w.heap.size + 1, 0, none⟩) (hb3.block _ hlt2)).trans p3
    have hF3 := (World.frozen?_of_block (w := w2) (a := ⟨w.heap.size + 1, 0, none⟩) (hb3.block _ hlt2)).trans p4
    have HB3 := Lib.hid (HB2.out.trans (hb3.mono (by omega)))
    have HX3 := Lib.hid hX3
    obtain ⟨d0, d1, d2, d3, d4, d5, d6, d7, d8, d9, d10, d11, d12, d13⟩ := hX3
    clear HW hb3 p1 p2 p3 p4 HB2
    have hwp : (writeP x).2 = 0 ∨ (writeP x).2 = 1 := by unfold writeP; split; exact .inl rfl; exact .inr rfl
    generalize writeP x = lw at *
    obtain ⟨l, er⟩ := lw
    dsimp only at hwp HRP ⊢
    rcases hwp with rfl | rfl
    · by_cases hls : l = s
      · subst hls
        have hE : Hid (readP l = (x, 0)) := by show _ = _; rw [HRP.out, if_pos ⟨rfl, rfl⟩]
        clear HRP
        go_wp2_with fail
        obtain ⟨q1, q2, q3, q4⟩ := put15 w3 w.heap.size x x 0 0 HX3.out hZ3 hC3 hF3
        refine leaves_cons (f := 87) (args := #[.pointer (some ⟨w.heap.size, 0, none⟩), .pointer (some ⟨w.heap.size + 1, 0, none⟩)]) (by simp) (by simp [go_sem]) ?_
        refine (read_idle w.heap.size (w.heap.size + 1) _).mono ?_
        rintro e u' w'' ⟨rfl, rfl, rfl⟩
        exact done_two rfl _ _ w.heap.size x 0 _ rfl rfl q1 q2 ⟨by rw [hE.out], HB3.out.trans q3⟩
      · have hne : (l.toList == s.toList) = false := (Lib.bytes_beq_false_iff _ _).2 hls
        have hE : Hid (readP s = (Paper.zero, 4)) := by show _ = _; rw [HRP.out, if_neg (fun h => hls h.2)]
        clear HRP
        go_wp2_with fail
        obtain ⟨q1, q2, q3, q4⟩ := put15 w3 w.heap.size Paper.zero x 0 4 HX3.out hZ3 hC3 hF3
        refine leaves_cons (f := 87) (args := #[.pointer (some ⟨w.heap.size, 0, none⟩), .pointer (some ⟨w.heap.size + 1, 0, none⟩)]) (by simp) (by simp [go_sem]) ?_
        refine (read_idle w.heap.size (w.heap.size + 1) _).mono ?_
        rintro e u' w'' ⟨rfl, rfl, rfl⟩
        exact done_two rfl _ _ w.heap.size Paper.zero 4 _ rfl rfl q1 q2 ⟨by rw [hE.out], HB3.out.trans q3⟩
    · have hE : Hid (readP s = (Paper.zero, 4)) := by show _ = _; rw [HRP.out, if_neg (fun h => absurd h.1 (by decide))]
      clear HRP
      go_wp2_with fail
      obtain ⟨q1, q2, q3, q4⟩ := put15 w3 w.heap.size Paper.zero x 0 4 HX3.out hZ3 hC3 hF3
      refine leaves_cons (f := 87) (args := #[.pointer (some ⟨w.heap.size, 0, none⟩), .pointer (some ⟨w.heap.size + 1, 0, none⟩)]) (by simp) (by simp [go_sem]) ?_
      refine (read_idle w.heap.size (w.heap.size + 1) _).mono ?_
      rintro e u' w'' ⟨rfl, rfl, rfl⟩
      exact done_two rfl _ _ w.heap.size Paper.zero 4 _ rfl rfl q1 q2 ⟨by rw [hE.out], HB3.out.trans q3⟩
  · have hX1 := hX0.of_heap (hB1.block _ (by omega))
    have hZ1 : ∀ i, w1.frozen? ⟨w.heap.size, i, none⟩ = false := fun i => (World.frozen?_of_block (w := W0) (a := ⟨w.heap.size, i, none⟩) (hB1.block _ (by show w.heap.size < _; omega))).trans (hZ0 i)
    have hC1 := (World.cell?_of_block (w := W0) (a := ⟨w.heap.size + 1, 0, none⟩) (hB1.block _ (by show w.heap.size + 1 < _; omega))).trans hC0
    have hF1 := (World.frozen?_of_block (w := W0) (a := ⟨w.heap.size + 1, 0, none⟩) (hB1.block _ (by show w.heap.size + 1 < _; omega))).trans hF0
    go_wp2_with fail
    obtain ⟨q1, q2, q3, q4⟩ := put15 w1 w.heap.size Paper.zero Paper.zero 0 4 hX1 hZ1 hC1 hF1
    refine leaves_cons (f := 87) (args := #[.pointer (some ⟨w.heap.size, 0, none⟩), .pointer (some ⟨w.heap.size + 1, 0, none⟩)]) (by simp) (by simp [go_sem]) ?_
    refine (read_panic w.heap.size (w.heap.size + 1) Paper.zero 0 w1 hX1 hZ1 hC1 hF1 (by omega)).mono ?_
    rintro e u' w'' ⟨rfl, rfl, rfl⟩
    refine done_two rfl _ _ w.heap.size Paper.zero 4 _ rfl rfl (q1.of_heap (Below.heap_alloc _ _ _ (by omega))) ((World.cell?_of_block (a := ⟨w.heap.size + 1, 0, none⟩) (Below.heap_alloc _ _ _ q4)).trans q2) ⟨by rw [readP_none hp], (hB0.trans (hB1.mono (by omega))).trans (q3.alloc (by omega) _)⟩

end Go.Proofs.YtpffpofdceppiaaGreatDoor
