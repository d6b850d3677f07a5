/- A part of the proof that laganlaw01.CargoTexts answers true at every input and leaves its arguments as they were; the conditions are those of the given row and card, nothing else. -/
import Derived.Test.YtpffpofdceppiaaGreatDoorKR10
import Derived.Test.YtpffpofdceppiaaGreatDoorKP7
import Derived.Deep.RegionLaw
set_option linter.unusedSimpArgs false
set_option linter.unusedVariables false
namespace Go.Proofs.YtpffpofdceppiaaGreatDoor
open Go.RowKit Go.Shelf
theorem len4 {α : Type} (l : List α) (h : l.length = 4) : ∃ a0 a1 a2 a3, l = [a0, a1, a2, a3] := by
  obtain ⟨a0, l, rfl⟩ : ∃ a t, l = a :: t := by cases l with | nil => simp at h | cons a t => exact ⟨a, t, rfl⟩
  obtain ⟨a1, l, rfl⟩ : ∃ a t, l = a :: t := by cases l with | nil => simp at h | cons a t => exact ⟨a, t, rfl⟩
  obtain ⟨a2, l, rfl⟩ : ∃ a t, l = a :: t := by cases l with | nil => simp at h | cons a t => exact ⟨a, t, rfl⟩
  obtain ⟨a3, l, rfl⟩ : ∃ a t, l = a :: t := by cases l with | nil => simp at h | cons a t => exact ⟨a, t, rfl⟩
  have : l = [] := by cases l with | nil => rfl | cons a t => simp at h
  subst this
  exact ⟨a0, a1, a2, a3, rfl⟩
theorem len8 {α : Type} (l : List α) (h : l.length = 8) : ∃ a0 a1 a2 a3 a4 a5 a6 a7, l = [a0, a1, a2, a3, a4, a5, a6, a7] := by
  obtain ⟨a0, l, rfl⟩ : ∃ a t, l = a :: t := by cases l with | nil => simp at h | cons a t => exact ⟨a, t, rfl⟩
  obtain ⟨a1, l, rfl⟩ : ∃ a t, l = a :: t := by cases l with | nil => simp at h | cons a t => exact ⟨a, t, rfl⟩
  obtain ⟨a2, l, rfl⟩ : ∃ a t, l = a :: t := by cases l with | nil => simp at h | cons a t => exact ⟨a, t, rfl⟩
  obtain ⟨a3, l, rfl⟩ : ∃ a t, l = a :: t := by cases l with | nil => simp at h | cons a t => exact ⟨a, t, rfl⟩
  obtain ⟨a4, l, rfl⟩ : ∃ a t, l = a :: t := by cases l with | nil => simp at h | cons a t => exact ⟨a, t, rfl⟩
  obtain ⟨a5, l, rfl⟩ : ∃ a t, l = a :: t := by cases l with | nil => simp at h | cons a t => exact ⟨a, t, rfl⟩
  obtain ⟨a6, l, rfl⟩ : ∃ a t, l = a :: t := by cases l with | nil => simp at h | cons a t => exact ⟨a, t, rfl⟩
  obtain ⟨a7, l, rfl⟩ : ∃ a t, l = a :: t := by cases l with | nil => simp at h | cons a t => exact ⟨a, t, rfl⟩
  have : l = [] := by cases l with | nil => rfl | cons a t => simp at h
  subst this
  exact ⟨a0, a1, a2, a3, a4, a5, a6, a7, rfl⟩
theorem len12 {α : Type} (l : List α) (h : l.length = 12) : ∃ a0 a1 a2 a3 a4 a5 a6 a7 a8 a9 a10 a11, l = [a0, a1, a2, a3, a4, a5, a6, a7, a8, a9, a10, a11] := by
  obtain ⟨a0, l, rfl⟩ : ∃ a t, l = a :: t := by cases l with | nil => simp at h | cons a t => exact ⟨a, t, rfl⟩
  obtain ⟨a1, l, rfl⟩ : ∃ a t, l = a :: t := by cases l with | nil => simp at h | cons a t => exact ⟨a, t, rfl⟩
  obtain ⟨a2, l, rfl⟩ : ∃ a t, l = a :: t := by cases l with | nil => simp at h | cons a t => exact ⟨a, t, rfl⟩
  obtain ⟨a3, l, rfl⟩ : ∃ a t, l = a :: t := by cases l with | nil => simp at h | cons a t => exact ⟨a, t, rfl⟩
  obtain ⟨a4, l, rfl⟩ : ∃ a t, l = a :: t := by cases l with | nil => simp at h | cons a t => exact ⟨a, t, rfl⟩
  obtain ⟨a5, l, rfl⟩ : ∃ a t, l = a :: t := by cases l with | nil => simp at h | cons a t => exact ⟨a, t, rfl⟩
  obtain ⟨a6, l, rfl⟩ : ∃ a t, l = a :: t := by cases l with | nil => simp at h | cons a t => exact ⟨a, t, rfl⟩
  obtain ⟨a7, l, rfl⟩ : ∃ a t, l = a :: t := by cases l with | nil => simp at h | cons a t => exact ⟨a, t, rfl⟩
  obtain ⟨a8, l, rfl⟩ : ∃ a t, l = a :: t := by cases l with | nil => simp at h | cons a t => exact ⟨a, t, rfl⟩
  obtain ⟨a9, l, rfl⟩ : ∃ a t, l = a :: t := by cases l with | nil => simp at h | cons a t => exact ⟨a, t, rfl⟩
  obtain ⟨a10, l, rfl⟩ : ∃ a t, l = a :: t := by cases l with | nil => simp at h | cons a t => exact ⟨a, t, rfl⟩
  obtain ⟨a11, l, rfl⟩ : ∃ a t, l = a :: t := by cases l with | nil => simp at h | cons a t => exact ⟨a, t, rfl⟩
  have : l = [] := by cases l with | nil => rfl | cons a t => simp at h
  subst this
  exact ⟨a0, a1, a2, a3, a4, a5, a6, a7, a8, a9, a10, a11, rfl⟩

set_option maxRecDepth 100000 in
set_option maxHeartbeats 8000000 in
theorem ReadR_4 (s : ByteArray) (w : World) (hs : s.size ≤ 5000) (hlen : (wordsR s).length = 4) :
    Calls Tryz.prog 27 #[.string s] w fun e w' => e = .returned (.tuple #[.agg (readRP s).1.vals.toArray, .int .i64 (readRP s).2]) ∧ Below w.heap.size w w' := by
  have hB0 : Below w.heap.size w (w.alloc (.cells #[.int .i64 0, .int .i64 0, .int .u8 0, .int .i64 0, .int .i64 0, .int .i64 0, .string ⟨#[]⟩, .string ⟨#[]⟩, .int .i64 0, .int .i64 0, .int .i64 0, .int .i64 0, .int .i64 0, .int .i64 0] 28)) := (Below.refl _ w).alloc (Nat.le_refl _) _
  have hz : ∀ i u, Paper.zero.vals[i]? = some u → (w.alloc (.cells #[.int .i64 0, .int .i64 0, .int .u8 0, .int .i64 0, .int .i64 0, .int .i64 0, .string ⟨#[]⟩, .string ⟨#[]⟩, .int .i64 0, .int .i64 0, .int .i64 0, .int .i64 0, .int .i64 0, .int .i64 0] 28)).cell? ⟨w.heap.size, 0 + i, none⟩ = some u := fun i u hu => by
    rw [Nat.zero_add, World.cell?_alloc_new, ← hu]; simp [Paper.vals, Paper.zero]
  have z0 : ∀ i, (w.alloc (.cells #[.int .i64 0, .int .i64 0, .int .u8 0, .int .i64 0, .int .i64 0, .int .i64 0, .string ⟨#[]⟩, .string ⟨#[]⟩, .int .i64 0, .int .i64 0, .int .i64 0, .int .i64 0, .int .i64 0, .int .i64 0] 28)).frozen? ⟨w.heap.size, i, none⟩ = false := fun i => by go_simp
  have hlt0 : w.heap.size < (w.alloc (.cells #[.int .i64 0, .int .i64 0, .int .u8 0, .int .i64 0, .int .i64 0, .int .i64 0, .string ⟨#[]⟩, .string ⟨#[]⟩, .int .i64 0, .int .i64 0, .int .i64 0, .int .i64 0, .int .i64 0, .int .i64 0] 28)).heap.size := by simp
  have HWd := Lib.hid (WordsR_any s (w.alloc (.cells #[.int .i64 0, .int .i64 0, .int .u8 0, .int .i64 0, .int .i64 0, .int .i64 0, .string ⟨#[]⟩, .string ⟨#[]⟩, .int .i64 0, .int .i64 0, .int .i64 0, .int .i64 0, .int .i64 0, .int .i64 0] 28)) (by omega))
  have hsz : ∀ x ∈ wordsR s, x.size ≤ 5000 := fun x hx => by rw [← wordsOf_eq] at hx; have := wordsOf_size s x hx; omega
  have HR : Hid (readRP s = match candR (wordsR s) with | none => (Paper.zero, 4) | some x => if (writeP x).2 = 0 ∧ (writeP x).1 = s then (x, 0) else (Paper.zero, 4)) := by show _ = _; rfl
  obtain ⟨a0, a1, a2, a3, hws⟩ := len4 _ hlen
  rw [hws] at HWd hsz HR
  clear hws hlen
  have za0 : a0.size ≤ 5000 := hsz a0 (by simp)
  have za1 : a1.size ≤ 5000 := hsz a1 (by simp)
  have za2 : a2.size ≤ 5000 := hsz a2 (by simp)
  have za3 : a3.size ≤ 5000 := hsz a3 (by simp)
  have y0 : a0.size ≤ maxLen := by unfold maxLen; omega
  have y1 : a1.size ≤ maxLen := by unfold maxLen; omega
  have y3 : a3.size ≤ maxLen := by unfold maxLen; omega
  have HC : Hid (candR [a0, a1, a2, a3] = some ⟨(numR a0), (numR a1), 3, 0, 0, 0, ⟨#[]⟩, ⟨#[]⟩, 0, 0, 0, 0, 0, (numR a3)⟩) := by show _ = _; rfl
  have HW := Lib.hid (fun W => WriteR_any ⟨(numR a0), (numR a1), 3, 0, 0, 0, ⟨#[]⟩, ⟨#[]⟩, 0, 0, 0, 0, 0, (numR a3)⟩ W (by show (⟨#[]⟩ : ByteArray).size ≤ 10000; first | omega | decide) (by show (⟨#[]⟩ : ByteArray).size ≤ 10000; first | omega | decide))
  have HR2 : Hid (readRP s = if (writeP ⟨(numR a0), (numR a1), 3, 0, 0, 0, ⟨#[]⟩, ⟨#[]⟩, 0, 0, 0, 0, 0, (numR a3)⟩).2 = 0 ∧ (writeP ⟨(numR a0), (numR a1), 3, 0, 0, 0, ⟨#[]⟩, ⟨#[]⟩, 0, 0, 0, 0, 0, (numR a3)⟩).1 = s then (⟨(numR a0), (numR a1), 3, 0, 0, 0, ⟨#[]⟩, ⟨#[]⟩, 0, 0, 0, 0, 0, (numR a3)⟩, 0) else (Paper.zero, 4)) := by show _ = _; rw [HR.out, HC.out]
  clear HR HC hsz
  have hwp : (writeP ⟨(numR a0), (numR a1), 3, 0, 0, 0, ⟨#[]⟩, ⟨#[]⟩, 0, 0, 0, 0, 0, (numR a3)⟩).2 = 0 ∨ (writeP ⟨(numR a0), (numR a1), 3, 0, 0, 0, ⟨#[]⟩, ⟨#[]⟩, 0, 0, 0, 0, 0, (numR a3)⟩).2 = 1 := by unfold writeP; split; exact .inl rfl; exact .inr rfl
  generalize writeP ⟨(numR a0), (numR a1), 3, 0, 0, 0, ⟨#[]⟩, ⟨#[]⟩, 0, 0, 0, 0, 0, (numR a3)⟩ = lw at *
  obtain ⟨l, er⟩ := lw
  dsimp only at hwp HR2 HW
  have HW : Hid (∀ W, Calls Tryz.prog 25 #[.agg #[.int .i64 (numR a0), .int .i64 (numR a1), .int .u8 3, .int .i64 0, .int .i64 0, .int .i64 0, .string ⟨#[]⟩, .string ⟨#[]⟩, .int .i64 0, .int .i64 0, .int .i64 0, .int .i64 0, .int .i64 0, .int .i64 (numR a3)]] W fun e w' => e = .returned (.tuple #[.string l, .int .i64 er]) ∧ Below W.heap.size W w') := HW
  go_enter Tryz.func27, Tryz.ntmps27
  go_wp2_with fail
  refine HWd.out.mono ?_
  rintro e w1 ⟨v, rfl, hrows, hb1⟩
  obtain ⟨ad, c, rfl, g1, g2, g3⟩ := hrows
  obtain ⟨b, off, rfl, hbs, hcell⟩ := g3 (by simp at g1; omega)
  unfold maxLen at g2
  have r0 : w1.cell? ⟨b, off, none⟩ = some (.string a0) := hcell 0 (by simp) 0 _ rfl
  have r1 : w1.cell? ⟨b, off + 1, none⟩ = some (.string a1) := hcell 1 (by simp) 0 _ rfl
  have r2 : w1.cell? ⟨b, off + 2, none⟩ = some (.string a2) := hcell 2 (by simp) 0 _ rfl
  have r3 : w1.cell? ⟨b, off + 3, none⟩ = some (.string a3) := hcell 3 (by simp) 0 _ rfl
  have HB1 := Lib.hid (hB0.trans (hb1.mono hB0.size))
  obtain ⟨c0, c1, c2, c3, c4, c5, c6, c7, c8, c9, c10, c11, c12, c13⟩ := paper_cells (w := w1) (b := w.heap.size) (o := 0) Paper.zero (fun i u hu => (hb1.cell (p := ⟨w.heap.size, 0 + i, none⟩) hlt0).trans (hz i u hu))
  have PZ := Lib.hid (show PaperIn w1 w.heap.size Paper.zero from ⟨c0, c1, c2, c3, c4, c5, c6, c7, c8, c9, c10, c11, c12, c13⟩)
  have FZ : Hid (∀ i, w1.frozen? ⟨w.heap.size, i, none⟩ = false) := fun i => (hb1.frozen (p := ⟨w.heap.size, i, none⟩) hlt0).trans (z0 i)
  have hl1 := keepL hlt0 hb1
  clear c0 c1 c2 c3 c4 c5 c6 c7 c8 c9 c10 c11 c12 c13 hb1 hB0 hz z0 hlt0 HWd hcell g3
  simp only [List.length_cons, List.length_nil, Nat.reduceAdd, Nat.zero_add] at g1
  go_wp2_with fail
  have q0 : w1.drew.cell? ⟨b, off, none⟩ = some (.string a0) := r0
  have q1 : w1.drew.cell? ⟨b, off + 1, none⟩ = some (.string a1) := r1
  have t0 : (w1.drew.alloc (.cells #[.int .i64 0, .int .i64 0, .int .u8 0, .int .i64 0, .int .i64 0, .int .i64 0, .string ⟨#[]⟩, .string ⟨#[]⟩, .int .i64 0, .int .i64 0, .int .i64 0, .int .i64 0, .int .i64 0, .int .i64 0] 28)).cell? ⟨b, off, none⟩ = some (.string a0) := cell_al (W := w1.drew) (cell_lt (w := w1) r0) r0 (.cells #[.int .i64 0, .int .i64 0, .int .u8 0, .int .i64 0, .int .i64 0, .int .i64 0, .string ⟨#[]⟩, .string ⟨#[]⟩, .int .i64 0, .int .i64 0, .int .i64 0, .int .i64 0, .int .i64 0, .int .i64 0] 28)
  have t1 : (w1.drew.alloc (.cells #[.int .i64 0, .int .i64 0, .int .u8 0, .int .i64 0, .int .i64 0, .int .i64 0, .string ⟨#[]⟩, .string ⟨#[]⟩, .int .i64 0, .int .i64 0, .int .i64 0, .int .i64 0, .int .i64 0, .int .i64 0] 28)).cell? ⟨b, off + 1, none⟩ = some (.string a1) := cell_al (W := w1.drew) (cell_lt (w := w1) r1) r1 (.cells #[.int .i64 0, .int .i64 0, .int .u8 0, .int .i64 0, .int .i64 0, .int .i64 0, .string ⟨#[]⟩, .string ⟨#[]⟩, .int .i64 0, .int .i64 0, .int .i64 0, .int .i64 0, .int .i64 0, .int .i64 0] 28)
  have hbne : b ≠ w1.heap.size := by have : b < w1.heap.size := cell_lt (w := w1) r0; omega
  have u0 := (World.cell?_of_block (a := ⟨b, off, none⟩) (set14_heap (w1.drew.alloc (.cells #[.int .i64 0, .int .i64 0, .int .u8 0, .int .i64 0, .int .i64 0, .int .i64 0, .string ⟨#[]⟩, .string ⟨#[]⟩, .int .i64 0, .int .i64 0, .int .i64 0, .int .i64 0, .int .i64 0, .int .i64 0] 28)) w1.heap.size (⟨numR a0, numR a1, 0, 0, 0, 0, ⟨#[]⟩, ⟨#[]⟩, 0, 0, 0, 0, 0, 0⟩ : Paper) b hbne)).trans t0
  have u1 := (World.cell?_of_block (a := ⟨b, off + 1, none⟩) (set14_heap (w1.drew.alloc (.cells #[.int .i64 0, .int .i64 0, .int .u8 0, .int .i64 0, .int .i64 0, .int .i64 0, .string ⟨#[]⟩, .string ⟨#[]⟩, .int .i64 0, .int .i64 0, .int .i64 0, .int .i64 0, .int .i64 0, .int .i64 0] 28)) w1.heap.size (⟨numR a0, numR a1, 0, 0, 0, 0, ⟨#[]⟩, ⟨#[]⟩, 0, 0, 0, 0, 0, 0⟩ : Paper) b hbne)).trans t1
  dsimp only at u0 u1
  go_cut [5] from 24 to 32 (fun s5 wx => s5 = .pointer (some ⟨w1.heap.size, 0, none⟩) ∧ wx = (w1.alloc (.cells #[.int .i64 (numR a0), .int .i64 (numR a1), .int .u8 0, .int .i64 0, .int .i64 0, .int .i64 0, .string ⟨#[]⟩, .string ⟨#[]⟩, .int .i64 0, .int .i64 0, .int .i64 0, .int .i64 0, .int .i64 0, .int .i64 0] 28)).drew)
  case first =>
    go_region_law (first | (go_simp; go_at_call 90; refine (NumberR_any _ _ ?_).mono ?_; assumption; rintro e w' ⟨rfl, rfl⟩))
    all_goals go_wp2_with fail
    all_goals go_meet
    all_goals exact ⟨rfl, rfl⟩
  case rest =>
  obtain ⟨rfl, rfl⟩ := hcut
  have hbd : b < w1.heap.size := cell_lt (w := w1) (a := ⟨b, off, none⟩) r0
  clear hbs q0 q1 t0 t1 u0 u1 hbne
  have hB1 : w.heap.size ≤ w1.heap.size := HB1.out.size
  have HB2 : Hid (Below w.heap.size w (w1.alloc (.cells #[.int .i64 (numR a0), .int .i64 (numR a1), .int .u8 0, .int .i64 0, .int .i64 0, .int .i64 0, .string ⟨#[]⟩, .string ⟨#[]⟩, .int .i64 0, .int .i64 0, .int .i64 0, .int .i64 0, .int .i64 0, .int .i64 0] 28)).drew) := (HB1.out.alloc HB1.out.size _).drew
  have hne : b ≠ w1.heap.size := by omega
  have hne2 : w.heap.size ≠ w1.heap.size := by omega
  have FX : ∀ i, (w1.alloc (.cells #[.int .i64 (numR a0), .int .i64 (numR a1), .int .u8 0, .int .i64 0, .int .i64 0, .int .i64 0, .string ⟨#[]⟩, .string ⟨#[]⟩, .int .i64 0, .int .i64 0, .int .i64 0, .int .i64 0, .int .i64 0, .int .i64 0] 28)).drew.frozen? ⟨w1.heap.size, i, none⟩ = false := fun i => by go_simp
  have hh : ∀ k, k < w1.heap.size → (w1.alloc (.cells #[.int .i64 (numR a0), .int .i64 (numR a1), .int .u8 0, .int .i64 0, .int .i64 0, .int .i64 0, .string ⟨#[]⟩, .string ⟨#[]⟩, .int .i64 0, .int .i64 0, .int .i64 0, .int .i64 0, .int .i64 0, .int .i64 0] 28)).drew.heap[k]? = w1.heap[k]? := fun k hk => Below.heap_alloc _ _ _ hk
  have PZ2 := Lib.hid (PZ.out.of_heap (hh _ hl1))
  have FZ2 : ∀ i, (w1.alloc (.cells #[.int .i64 (numR a0), .int .i64 (numR a1), .int .u8 0, .int .i64 0, .int .i64 0, .int .i64 0, .string ⟨#[]⟩, .string ⟨#[]⟩, .int .i64 0, .int .i64 0, .int .i64 0, .int .i64 0, .int .i64 0, .int .i64 0] 28)).drew.frozen? ⟨w.heap.size, i, none⟩ = false := fun i => (World.frozen?_of_block (w := w1) (a := ⟨w.heap.size, i, none⟩) (hh _ hl1)).trans (FZ.out i)
  have d0 : (w1.alloc (.cells #[.int .i64 (numR a0), .int .i64 (numR a1), .int .u8 0, .int .i64 0, .int .i64 0, .int .i64 0, .string ⟨#[]⟩, .string ⟨#[]⟩, .int .i64 0, .int .i64 0, .int .i64 0, .int .i64 0, .int .i64 0, .int .i64 0] 28)).drew.cell? ⟨w1.heap.size, 0, none⟩ = some (.int .i64 (numR a0)) := by go_simp
  have d1 : (w1.alloc (.cells #[.int .i64 (numR a0), .int .i64 (numR a1), .int .u8 0, .int .i64 0, .int .i64 0, .int .i64 0, .string ⟨#[]⟩, .string ⟨#[]⟩, .int .i64 0, .int .i64 0, .int .i64 0, .int .i64 0, .int .i64 0, .int .i64 0] 28)).drew.cell? ⟨w1.heap.size, 1, none⟩ = some (.int .i64 (numR a1)) := by go_simp
  have d2 : (w1.alloc (.cells #[.int .i64 (numR a0), .int .i64 (numR a1), .int .u8 0, .int .i64 0, .int .i64 0, .int .i64 0, .string ⟨#[]⟩, .string ⟨#[]⟩, .int .i64 0, .int .i64 0, .int .i64 0, .int .i64 0, .int .i64 0, .int .i64 0] 28)).drew.cell? ⟨w1.heap.size, 2, none⟩ = some (.int .u8 0) := by go_simp
  have d3 : (w1.alloc (.cells #[.int .i64 (numR a0), .int .i64 (numR a1), .int .u8 0, .int .i64 0, .int .i64 0, .int .i64 0, .string ⟨#[]⟩, .string ⟨#[]⟩, .int .i64 0, .int .i64 0, .int .i64 0, .int .i64 0, .int .i64 0, .int .i64 0] 28)).drew.cell? ⟨w1.heap.size, 3, none⟩ = some (.int .i64 0) := by go_simp
  have d4 : (w1.alloc (.cells #[.int .i64 (numR a0), .int .i64 (numR a1), .int .u8 0, .int .i64 0, .int .i64 0, .int .i64 0, .string ⟨#[]⟩, .string ⟨#[]⟩, .int .i64 0, .int .i64 0, .int .i64 0, .int .i64 0, .int .i64 0, .int .i64 0] 28)).drew.cell? ⟨w1.heap.size, 4, none⟩ = some (.int .i64 0) := by go_simp
  have d5 : (w1.alloc (.cells #[.int .i64 (numR a0), .int .i64 (numR a1), .int .u8 0, .int .i64 0, .int .i64 0, .int .i64 0, .string ⟨#[]⟩, .string ⟨#[]⟩, .int .i64 0, .int .i64 0, .int .i64 0, .int .i64 0, .int .i64 0, .int .i64 0] 28)).drew.cell? ⟨w1.heap.size, 5, none⟩ = some (.int .i64 0) := by go_simp
  have d6 : (w1.alloc (.cells #[.int .i64 (numR a0), .int .i64 (numR a1), .int .u8 0, .int .i64 0, .int .i64 0, .int .i64 0, .string ⟨#[]⟩, .string ⟨#[]⟩, .int .i64 0, .int .i64 0, .int .i64 0, .int .i64 0, .int .i64 0, .int .i64 0] 28)).drew.cell? ⟨w1.heap.size, 6, none⟩ = some (.string ⟨#[]⟩) := by go_simp
  have d7 : (w1.alloc (.cells #[.int .i64 (numR a0), .int .i64 (numR a1), .int .u8 0, .int .i64 0, .int .i64 0, .int .i64 0, .string ⟨#[]⟩, .string ⟨#[]⟩, .int .i64 0, .int .i64 0, .int .i64 0, .int .i64 0, .int .i64 0, .int .i64 0] 28)).drew.cell? ⟨w1.heap.size, 7, none⟩ = some (.string ⟨#[]⟩) := by go_simp
  have d8 : (w1.alloc (.cells #[.int .i64 (numR a0), .int .i64 (numR a1), .int .u8 0, .int .i64 0, .int .i64 0, .int .i64 0, .string ⟨#[]⟩, .string ⟨#[]⟩, .int .i64 0, .int .i64 0, .int .i64 0, .int .i64 0, .int .i64 0, .int .i64 0] 28)).drew.cell? ⟨w1.heap.size, 8, none⟩ = some (.int .i64 0) := by go_simp
  have d9 : (w1.alloc (.cells #[.int .i64 (numR a0), .int .i64 (numR a1), .int .u8 0, .int .i64 0, .int .i64 0, .int .i64 0, .string ⟨#[]⟩, .string ⟨#[]⟩, .int .i64 0, .int .i64 0, .int .i64 0, .int .i64 0, .int .i64 0, .int .i64 0] 28)).drew.cell? ⟨w1.heap.size, 9, none⟩ = some (.int .i64 0) := by go_simp
  have d10 : (w1.alloc (.cells #[.int .i64 (numR a0), .int .i64 (numR a1), .int .u8 0, .int .i64 0, .int .i64 0, .int .i64 0, .string ⟨#[]⟩, .string ⟨#[]⟩, .int .i64 0, .int .i64 0, .int .i64 0, .int .i64 0, .int .i64 0, .int .i64 0] 28)).drew.cell? ⟨w1.heap.size, 10, none⟩ = some (.int .i64 0) := by go_simp
  have d11 : (w1.alloc (.cells #[.int .i64 (numR a0), .int .i64 (numR a1), .int .u8 0, .int .i64 0, .int .i64 0, .int .i64 0, .string ⟨#[]⟩, .string ⟨#[]⟩, .int .i64 0, .int .i64 0, .int .i64 0, .int .i64 0, .int .i64 0, .int .i64 0] 28)).drew.cell? ⟨w1.heap.size, 11, none⟩ = some (.int .i64 0) := by go_simp
  have d12 : (w1.alloc (.cells #[.int .i64 (numR a0), .int .i64 (numR a1), .int .u8 0, .int .i64 0, .int .i64 0, .int .i64 0, .string ⟨#[]⟩, .string ⟨#[]⟩, .int .i64 0, .int .i64 0, .int .i64 0, .int .i64 0, .int .i64 0, .int .i64 0] 28)).drew.cell? ⟨w1.heap.size, 12, none⟩ = some (.int .i64 0) := by go_simp
  have d13 : (w1.alloc (.cells #[.int .i64 (numR a0), .int .i64 (numR a1), .int .u8 0, .int .i64 0, .int .i64 0, .int .i64 0, .string ⟨#[]⟩, .string ⟨#[]⟩, .int .i64 0, .int .i64 0, .int .i64 0, .int .i64 0, .int .i64 0, .int .i64 0] 28)).drew.cell? ⟨w1.heap.size, 13, none⟩ = some (.int .i64 0) := by go_simp
  have s0 := (World.cell?_of_block (w := w1) (a := ⟨b, off, none⟩) (hh _ hbd)).trans r0
  have s1 := (World.cell?_of_block (w := w1) (a := ⟨b, off + 1, none⟩) (hh _ hbd)).trans r1
  have s2 := (World.cell?_of_block (w := w1) (a := ⟨b, off + 2, none⟩) (hh _ hbd)).trans r2
  have s3 := (World.cell?_of_block (w := w1) (a := ⟨b, off + 3, none⟩) (hh _ hbd)).trans r3
  clear r0 r1 r2 r3 HB1 PZ FZ hh
  generalize (w1.alloc (.cells #[.int .i64 (numR a0), .int .i64 (numR a1), .int .u8 0, .int .i64 0, .int .i64 0, .int .i64 0, .string ⟨#[]⟩, .string ⟨#[]⟩, .int .i64 0, .int .i64 0, .int .i64 0, .int .i64 0, .int .i64 0, .int .i64 0] 28)).drew = W2 at *
  generalize w1.heap.size = B2 at *
  have HB2' := HB2.out.size
  have hltB : B2 < W2.heap.size := cell_lt d0
  go_wp2_with fail
  refine (NumberR_any _ _ y3).mono ?_
  rintro e w' ⟨rfl, rfl⟩
  go_wp2_with fail
  have f0 : ((W2.setCell ⟨B2, 2, none⟩ (.int .u8 3)).setCell ⟨B2, 13, none⟩ (.int .i64 (numR a3))).cell? ⟨B2, 0, none⟩ = some (.int .i64 (numR a0)) := by go_simp
  have f1 : ((W2.setCell ⟨B2, 2, none⟩ (.int .u8 3)).setCell ⟨B2, 13, none⟩ (.int .i64 (numR a3))).cell? ⟨B2, 1, none⟩ = some (.int .i64 (numR a1)) := by go_simp
  have f2 : ((W2.setCell ⟨B2, 2, none⟩ (.int .u8 3)).setCell ⟨B2, 13, none⟩ (.int .i64 (numR a3))).cell? ⟨B2, 2, none⟩ = some (.int .u8 3) := by go_simp
  have f3 : ((W2.setCell ⟨B2, 2, none⟩ (.int .u8 3)).setCell ⟨B2, 13, none⟩ (.int .i64 (numR a3))).cell? ⟨B2, 3, none⟩ = some (.int .i64 0) := by go_simp
  have f4 : ((W2.setCell ⟨B2, 2, none⟩ (.int .u8 3)).setCell ⟨B2, 13, none⟩ (.int .i64 (numR a3))).cell? ⟨B2, 4, none⟩ = some (.int .i64 0) := by go_simp
  have f5 : ((W2.setCell ⟨B2, 2, none⟩ (.int .u8 3)).setCell ⟨B2, 13, none⟩ (.int .i64 (numR a3))).cell? ⟨B2, 5, none⟩ = some (.int .i64 0) := by go_simp
  have f6 : ((W2.setCell ⟨B2, 2, none⟩ (.int .u8 3)).setCell ⟨B2, 13, none⟩ (.int .i64 (numR a3))).cell? ⟨B2, 6, none⟩ = some (.string ⟨#[]⟩) := by go_simp
  have f7 : ((W2.setCell ⟨B2, 2, none⟩ (.int .u8 3)).setCell ⟨B2, 13, none⟩ (.int .i64 (numR a3))).cell? ⟨B2, 7, none⟩ = some (.string ⟨#[]⟩) := by go_simp
  have f8 : ((W2.setCell ⟨B2, 2, none⟩ (.int .u8 3)).setCell ⟨B2, 13, none⟩ (.int .i64 (numR a3))).cell? ⟨B2, 8, none⟩ = some (.int .i64 0) := by go_simp
  have f9 : ((W2.setCell ⟨B2, 2, none⟩ (.int .u8 3)).setCell ⟨B2, 13, none⟩ (.int .i64 (numR a3))).cell? ⟨B2, 9, none⟩ = some (.int .i64 0) := by go_simp
  have f10 : ((W2.setCell ⟨B2, 2, none⟩ (.int .u8 3)).setCell ⟨B2, 13, none⟩ (.int .i64 (numR a3))).cell? ⟨B2, 10, none⟩ = some (.int .i64 0) := by go_simp
  have f11 : ((W2.setCell ⟨B2, 2, none⟩ (.int .u8 3)).setCell ⟨B2, 13, none⟩ (.int .i64 (numR a3))).cell? ⟨B2, 11, none⟩ = some (.int .i64 0) := by go_simp
  have f12 : ((W2.setCell ⟨B2, 2, none⟩ (.int .u8 3)).setCell ⟨B2, 13, none⟩ (.int .i64 (numR a3))).cell? ⟨B2, 12, none⟩ = some (.int .i64 0) := by go_simp
  have f13 : ((W2.setCell ⟨B2, 2, none⟩ (.int .u8 3)).setCell ⟨B2, 13, none⟩ (.int .i64 (numR a3))).cell? ⟨B2, 13, none⟩ = some (.int .i64 (numR a3)) := by go_simp
  have hh3 : ∀ k, k ≠ B2 → ((W2.setCell ⟨B2, 2, none⟩ (.int .u8 3)).setCell ⟨B2, 13, none⟩ (.int .i64 (numR a3))).heap[k]? = W2.heap[k]? := fun k hk => by
    exact ((Below.heap_setCell _ _ _ k hk).trans ((Below.heap_setCell _ _ _ k hk).trans rfl))
  have PZ3 := Lib.hid (PZ2.out.of_heap (hh3 _ hne2))
  have FZ3 : ∀ i, ((W2.setCell ⟨B2, 2, none⟩ (.int .u8 3)).setCell ⟨B2, 13, none⟩ (.int .i64 (numR a3))).frozen? ⟨w.heap.size, i, none⟩ = false := fun i => (World.frozen?_of_block (w := W2) (a := ⟨w.heap.size, i, none⟩) (hh3 _ hne2)).trans (FZ2 i)
  have FX3 : ∀ i, ((W2.setCell ⟨B2, 2, none⟩ (.int .u8 3)).setCell ⟨B2, 13, none⟩ (.int .i64 (numR a3))).frozen? ⟨B2, i, none⟩ = false := fun i => by
    show ((W2.setCell ⟨B2, 2, none⟩ (.int .u8 3)).setCell ⟨B2, 13, none⟩ (.int .i64 (numR a3))).frozen? _ = false
    simp only [World.frozen?_setCell]
    exact FX i
  have HB3 : Hid (Below w.heap.size w ((W2.setCell ⟨B2, 2, none⟩ (.int .u8 3)).setCell ⟨B2, 13, none⟩ (.int .i64 (numR a3)))) := ((HB2.out.setCell (by show w.heap.size ≤ B2; exact hB1) _).setCell (by show w.heap.size ≤ B2; exact hB1) _)
  clear d0 d1 d2 d3 d4 d5 d6 d7 d8 d9 d10 d11 d12 d13 FX FZ2 hh3 PZ2 HB2 HB2' hltB s0 s1 s2 s3
  generalize ((W2.setCell ⟨B2, 2, none⟩ (.int .u8 3)).setCell ⟨B2, 13, none⟩ (.int .i64 (numR a3))) = W3 at *
  have hltB : B2 < W3.heap.size := cell_lt f0
  have PZ2 := PZ3
  have FZ2 := FZ3
  have FX := FX3
  have HB2 := HB3
  have HB2' := HB2.out.size
  clear PZ3 FZ3 FX3 HB3
  have d0 := f0
  have d1 := f1
  have d2 := f2
  have d3 := f3
  have d4 := f4
  have d5 := f5
  have d6 := f6
  have d7 := f7
  have d8 := f8
  have d9 := f9
  have d10 := f10
  have d11 := f11
  have d12 := f12
  have d13 := f13
  clear f0 f1 f2 f3 f4 f5 f6 f7 f8 f9 f10 f11 f12 f13
  refine (HW.out _).mono ?_
  rintro e w9 ⟨rfl, hb9⟩
  have PZ9 := Lib.hid (PZ2.out.of_heap (hb9.block _ (cell_lt (w := W3) (a := ⟨w.heap.size, 0, none⟩) PZ2.out.1)))
  have FZ9 : ∀ i, w9.frozen? ⟨w.heap.size, i, none⟩ = false := fun i => (World.frozen?_of_block (w := W3) (a := ⟨w.heap.size, i, none⟩) (hb9.block _ (cell_lt (w := W3) (a := ⟨w.heap.size, 0, none⟩) PZ2.out.1))).trans (FZ2 i)
  have HB9 := Lib.hid (keepB HB2.out hb9)
  replace d0 := keepS hb9 hltB d0
  replace d1 := keepS hb9 hltB d1
  replace d2 := keepS hb9 hltB d2
  replace d3 := keepS hb9 hltB d3
  replace d4 := keepS hb9 hltB d4
  replace d5 := keepS hb9 hltB d5
  replace d6 := keepS hb9 hltB d6
  replace d7 := keepS hb9 hltB d7
  replace d8 := keepS hb9 hltB d8
  replace d9 := keepS hb9 hltB d9
  replace d10 := keepS hb9 hltB d10
  replace d11 := keepS hb9 hltB d11
  replace d12 := keepS hb9 hltB d12
  replace d13 := keepS hb9 hltB d13
  have q := PZ9.out
  obtain ⟨p0, p1, p2, p3, p4, p5, p6, p7, p8, p9, p10, p11, p12, p13⟩ := q
  simp only [Paper.zero] at p0 p1 p2 p3 p4 p5 p6 p7 p8 p9 p10 p11 p12 p13
  clear PZ2 FZ2 FX HB2 HB2' hb9 hltB HW hl1 hB1
  rcases hwp with rfl | rfl
  · by_cases hls : l = s
    · subst hls
      have hE : Hid (readRP l = (⟨(numR a0), (numR a1), 3, 0, 0, 0, ⟨#[]⟩, ⟨#[]⟩, 0, 0, 0, 0, 0, (numR a3)⟩, 0)) := by show _ = _; rw [HR2.out, if_pos ⟨rfl, rfl⟩]
      clear HR2
      go_wp2_with fail
      refine bodyPost_ret (results_paper rfl _ _ w.heap.size ⟨(numR a0), (numR a1), 3, 0, 0, 0, ⟨#[]⟩, ⟨#[]⟩, 0, 0, 0, 0, 0, (numR a3)⟩ rfl (set14 w9 _ ⟨(numR a0), (numR a1), 3, 0, 0, 0, ⟨#[]⟩, ⟨#[]⟩, 0, 0, 0, 0, 0, (numR a3)⟩ Paper.zero PZ9.out)) rfl ?_
      exact ⟨by rw [hE.out]; rfl, set14_below _ (Nat.le_refl _) ⟨(numR a0), (numR a1), 3, 0, 0, 0, ⟨#[]⟩, ⟨#[]⟩, 0, 0, 0, 0, 0, (numR a3)⟩ HB9.out⟩
    · have hne9 : (l.toList == s.toList) = false := (Lib.bytes_beq_false_iff _ _).2 hls
      have hE : Hid (readRP s = (Paper.zero, 4)) := by show _ = _; rw [HR2.out, if_neg (fun h => hls h.2)]
      clear HR2
      go_wp2_with fail
      refine bodyPost_ret (results_paper rfl _ _ w.heap.size Paper.zero rfl (set14 w9 _ Paper.zero Paper.zero PZ9.out)) rfl ?_
      exact ⟨by rw [hE.out]; rfl, set14_below _ (Nat.le_refl _) Paper.zero HB9.out⟩
  · have hE : Hid (readRP s = (Paper.zero, 4)) := by show _ = _; rw [HR2.out, if_neg (fun h => absurd h.1 (by decide))]
    clear HR2
    go_wp2_with fail
    refine bodyPost_ret (results_paper rfl _ _ w.heap.size Paper.zero rfl (set14 w9 _ Paper.zero Paper.zero PZ9.out)) rfl ?_
    exact ⟨by rw [hE.out]; rfl, set14_below _ (Nat.le_refl _) Paper.zero HB9.out⟩

set_option maxRecDepth 100000 in
set_option maxHeartbeats 8000000 in
theorem ReadR_8 (s : ByteArray) (w : World) (hs : s.size ≤ 5000) (hlen : (wordsR s).length = 8) :
    Calls Tryz.prog 27 #[.string s] w fun e w' => e = .returned (.tuple #[.agg (readRP s).1.vals.toArray, .int .i64 (readRP s).2]) ∧ Below w.heap.size w w' := by
  have hB0 : Below w.heap.size w (w.alloc (.cells #[.int .i64 0, .int .i64 0, .int .u8 0, .int .i64 0, .int .i64 0, .int .i64 0, .string ⟨#[]⟩, .string ⟨#[]⟩, .int .i64 0, .int .i64 0, .int .i64 0, .int .i64 0, .int .i64 0, .int .i64 0] 28)) := (Below.refl _ w).alloc (Nat.le_refl _) _
  have hz : ∀ i u, Paper.zero.vals[i]? = some u → (w.alloc (.cells #[.int .i64 0, .int .i64 0, .int .u8 0, .int .i64 0, .int .i64 0, .int .i64 0, .string ⟨#[]⟩, .string ⟨#[]⟩, .int .i64 0, .int .i64 0, .int .i64 0, .int .i64 0, .int .i64 0, .int .i64 0] 28)).cell? ⟨w.heap.size, 0 + i, none⟩ = some u := fun i u hu => by
    rw [Nat.zero_add, World.cell?_alloc_new, ← hu]; simp [Paper.vals, Paper.zero]
  have z0 : ∀ i, (w.alloc (.cells #[.int .i64 0, .int .i64 0, .int .u8 0, .int .i64 0, .int .i64 0, .int .i64 0, .string ⟨#[]⟩, .string ⟨#[]⟩, .int .i64 0, .int .i64 0, .int .i64 0, .int .i64 0, .int .i64 0, .int .i64 0] 28)).frozen? ⟨w.heap.size, i, none⟩ = false := fun i => by go_simp
  have hlt0 : w.heap.size < (w.alloc (.cells #[.int .i64 0, .int .i64 0, .int .u8 0, .int .i64 0, .int .i64 0, .int .i64 0, .string ⟨#[]⟩, .string ⟨#[]⟩, .int .i64 0, .int .i64 0, .int .i64 0, .int .i64 0, .int .i64 0, .int .i64 0] 28)).heap.size := by simp
  have HWd := Lib.hid (WordsR_any s (w.alloc (.cells #[.int .i64 0, .int .i64 0, .int .u8 0, .int .i64 0, .int .i64 0, .int .i64 0, .string ⟨#[]⟩, .string ⟨#[]⟩, .int .i64 0, .int .i64 0, .int .i64 0, .int .i64 0, .int .i64 0, .int .i64 0] 28)) (by omega))
  have hsz : ∀ x ∈ wordsR s, x.size ≤ 5000 := fun x hx => by rw [← wordsOf_eq] at hx; have := wordsOf_size s x hx; omega
  have HR : Hid (readRP s = match candR (wordsR s) with | none => (Paper.zero, 4) | some x => if (writeP x).2 = 0 ∧ (writeP x).1 = s then (x, 0) else (Paper.zero, 4)) := by show _ = _; rfl
  obtain ⟨a0, a1, a2, a3, a4, a5, a6, a7, hws⟩ := len8 _ hlen
  rw [hws] at HWd hsz HR
  clear hws hlen
  have za0 : a0.size ≤ 5000 := hsz a0 (by simp)
  have za1 : a1.size ≤ 5000 := hsz a1 (by simp)
  have za2 : a2.size ≤ 5000 := hsz a2 (by simp)
  have za3 : a3.size ≤ 5000 := hsz a3 (by simp)
  have za4 : a4.size ≤ 5000 := hsz a4 (by simp)
  have za5 : a5.size ≤ 5000 := hsz a5 (by simp)
  have za6 : a6.size ≤ 5000 := hsz a6 (by simp)
  have za7 : a7.size ≤ 5000 := hsz a7 (by simp)
  have y0 : a0.size ≤ maxLen := by unfold maxLen; omega
  have y1 : a1.size ≤ maxLen := by unfold maxLen; omega
  have y3 : a3.size ≤ maxLen := by unfold maxLen; omega
  have y4 : a4.size ≤ maxLen := by unfold maxLen; omega
  have y5 : a5.size ≤ maxLen := by unfold maxLen; omega
  have y6 : a6.size ≤ maxLen := by unfold maxLen; omega
  have y7 : a7.size ≤ maxLen := by unfold maxLen; omega
  have HC : Hid (candR [a0, a1, a2, a3, a4, a5, a6, a7] = some ⟨(numR a0), (numR a1), 2, (numR a3), (numR a4), 0, ⟨#[]⟩, ⟨#[]⟩, (numR a6), (numR a7), 0, 0, (numR a5), 0⟩) := by show _ = _; rfl
  have HW := Lib.hid (fun W => WriteR_any ⟨(numR a0), (numR a1), 2, (numR a3), (numR a4), 0, ⟨#[]⟩, ⟨#[]⟩, (numR a6), (numR a7), 0, 0, (numR a5), 0⟩ W (by show (⟨#[]⟩ : ByteArray).size ≤ 10000; first | omega | decide) (by show (⟨#[]⟩ : ByteArray).size ≤ 10000; first | omega | decide))
  have HR2 : Hid (readRP s = if (writeP ⟨(numR a0), (numR a1), 2, (numR a3), (numR a4), 0, ⟨#[]⟩, ⟨#[]⟩, (numR a6), (numR a7), 0, 0, (numR a5), 0⟩).2 = 0 ∧ (writeP ⟨(numR a0), (numR a1), 2, (numR a3), (numR a4), 0, ⟨#[]⟩, ⟨#[]⟩, (numR a6), (numR a7), 0, 0, (numR a5), 0⟩).1 = s then (⟨(numR a0), (numR a1), 2, (numR a3), (numR a4), 0, ⟨#[]⟩, ⟨#[]⟩, (numR a6), (numR a7), 0, 0, (numR a5), 0⟩, 0) else (Paper.zero, 4)) := by show _ = _; rw [HR.out, HC.out]
  clear HR HC hsz
  have hwp : (writeP ⟨(numR a0), (numR a1), 2, (numR a3), (numR a4), 0, ⟨#[]⟩, ⟨#[]⟩, (numR a6), (numR a7), 0, 0, (numR a5), 0⟩).2 = 0 ∨ (writeP ⟨(numR a0), (numR a1), 2, (numR a3), (numR a4), 0, ⟨#[]⟩, ⟨#[]⟩, (numR a6), (numR a7), 0, 0, (numR a5), 0⟩).2 = 1 := by unfold writeP; split; exact .inl rfl; exact .inr rfl
  generalize writeP ⟨(numR a0), (numR a1), 2, (numR a3), (numR a4), 0, ⟨#[]⟩, ⟨#[]⟩, (numR a6), (numR a7), 0, 0, (numR a5), 0⟩ = lw at *
  obtain ⟨l, er⟩ := lw
  dsimp only at hwp HR2 HW
  have HW : Hid (∀ W, Calls Tryz.prog 25 #[.agg #[.int .i64 (numR a0), .int .i64 (numR a1), .int .u8 2, .int .i64 (numR a3), .int .i64 (numR a4), .int .i64 0, .string ⟨#[]⟩, .string ⟨#[]⟩, .int .i64 (numR a6), .int .i64 (numR a7), .int .i64 0, .int .i64 0, .int .i64 (numR a5), .int .i64 0]] W fun e w' => e = .returned (.tuple #[.string l, .int .i64 er]) ∧ Below W.heap.size W w') := HW
  go_enter Tryz.func27, Tryz.ntmps27
  go_wp2_with fail
  refine HWd.out.mono ?_
  rintro e w1 ⟨v, rfl, hrows, hb1⟩
  obtain ⟨ad, c, rfl, g1, g2, g3⟩ := hrows
  obtain ⟨b, off, rfl, hbs, hcell⟩ := g3 (by simp at g1; omega)
  unfold maxLen at g2
  have r0 : w1.cell? ⟨b, off, none⟩ = some (.string a0) := hcell 0 (by simp) 0 _ rfl
  have r1 : w1.cell? ⟨b, off + 1, none⟩ = some (.string a1) := hcell 1 (by simp) 0 _ rfl
  have r2 : w1.cell? ⟨b, off + 2, none⟩ = some (.string a2) := hcell 2 (by simp) 0 _ rfl
  have r3 : w1.cell? ⟨b, off + 3, none⟩ = some (.string a3) := hcell 3 (by simp) 0 _ rfl
  have r4 : w1.cell? ⟨b, off + 4, none⟩ = some (.string a4) := hcell 4 (by simp) 0 _ rfl
  have r5 : w1.cell? ⟨b, off + 5, none⟩ = some (.string a5) := hcell 5 (by simp) 0 _ rfl
  have r6 : w1.cell? ⟨b, off + 6, none⟩ = some (.string a6) := hcell 6 (by simp) 0 _ rfl
  have r7 : w1.cell? ⟨b, off + 7, none⟩ = some (.string a7) := hcell 7 (by simp) 0 _ rfl
  have HB1 := Lib.hid (hB0.trans (hb1.mono hB0.size))
  obtain ⟨c0, c1, c2, c3, c4, c5, c6, c7, c8, c9, c10, c11, c12, c13⟩ := paper_cells (w := w1) (b := w.heap.size) (o := 0) Paper.zero (fun i u hu => (hb1.cell (p := ⟨w.heap.size, 0 + i, none⟩) hlt0).trans (hz i u hu))
  have PZ := Lib.hid (show PaperIn w1 w.heap.size Paper.zero from ⟨c0, c1, c2, c3, c4, c5, c6, c7, c8, c9, c10, c11, c12, c13⟩)
  have FZ : Hid (∀ i, w1.frozen? ⟨w.heap.size, i, none⟩ = false) := fun i => (hb1.frozen (p := ⟨w.heap.size, i, none⟩) hlt0).trans (z0 i)
  have hl1 := keepL hlt0 hb1
  clear c0 c1 c2 c3 c4 c5 c6 c7 c8 c9 c10 c11 c12 c13 hb1 hB0 hz z0 hlt0 HWd hcell g3
  simp only [List.length_cons, List.length_nil, Nat.reduceAdd, Nat.zero_add] at g1
  go_wp2_with fail
  have q0 : w1.drew.cell? ⟨b, off, none⟩ = some (.string a0) := r0
  have q1 : w1.drew.cell? ⟨b, off + 1, none⟩ = some (.string a1) := r1
  have t0 : (w1.drew.alloc (.cells #[.int .i64 0, .int .i64 0, .int .u8 0, .int .i64 0, .int .i64 0, .int .i64 0, .string ⟨#[]⟩, .string ⟨#[]⟩, .int .i64 0, .int .i64 0, .int .i64 0, .int .i64 0, .int .i64 0, .int .i64 0] 28)).cell? ⟨b, off, none⟩ = some (.string a0) := cell_al (W := w1.drew) (cell_lt (w := w1) r0) r0 (.cells #[.int .i64 0, .int .i64 0, .int .u8 0, .int .i64 0, .int .i64 0, .int .i64 0, .string ⟨#[]⟩, .string ⟨#[]⟩, .int .i64 0, .int .i64 0, .int .i64 0, .int .i64 0, .int .i64 0, .int .i64 0] 28)
  have t1 : (w1.drew.alloc (.cells #[.int .i64 0, .int .i64 0, .int .u8 0, .int .i64 0, .int .i64 0, .int .i64 0, .string ⟨#[]⟩, .string ⟨#[]⟩, .int .i64 0, .int .i64 0, .int .i64 0, .int .i64 0, .int .i64 0, .int .i64 0] 28)).cell? ⟨b, off + 1, none⟩ = some (.string a1) := cell_al (W := w1.drew) (cell_lt (w := w1) r1) r1 (.cells #[.int .i64 0, .int .i64 0, .int .u8 0, .int .i64 0, .int .i64 0, .int .i64 0, .string ⟨#[]⟩, .string ⟨#[]⟩, .int .i64 0, .int .i64 0, .int .i64 0, .int .i64 0, .int .i64 0, .int .i64 0] 28)
  have hbne : b ≠ w1.heap.size := by have : b < w1.heap.size := cell_lt (w := w1) r0; omega
  have u0 := (World.cell?_of_block (a := ⟨b, off, none⟩) (set14_heap (w1.drew.alloc (.cells #[.int .i64 0, .int .i64 0, .int .u8 0, .int .i64 0, .int .i64 0, .int .i64 0, .string ⟨#[]⟩, .string ⟨#[]⟩, .int .i64 0, .int .i64 0, .int .i64 0, .int .i64 0, .int .i64 0, .int .i64 0] 28)) w1.heap.size (⟨numR a0, numR a1, 0, 0, 0, 0, ⟨#[]⟩, ⟨#[]⟩, 0, 0, 0, 0, 0, 0⟩ : Paper) b hbne)).trans t0
  have u1 := (World.cell?_of_block (a := ⟨b, off + 1, none⟩) (set14_heap (w1.drew.alloc (.cells #[.int .i64 0, .int .i64 0, .int .u8 0, .int .i64 0, .int .i64 0, .int .i64 0, .string ⟨#[]⟩, .string ⟨#[]⟩, .int .i64 0, .int .i64 0, .int .i64 0, .int .i64 0, .int .i64 0, .int .i64 0] 28)) w1.heap.size (⟨numR a0, numR a1, 0, 0, 0, 0, ⟨#[]⟩, ⟨#[]⟩, 0, 0, 0, 0, 0, 0⟩ : Paper) b hbne)).trans t1
  dsimp only at u0 u1
  go_cut [5] from 24 to 32 (fun s5 wx => s5 = .pointer (some ⟨w1.heap.size, 0, none⟩) ∧ wx = (w1.alloc (.cells #[.int .i64 (numR a0), .int .i64 (numR a1), .int .u8 0, .int .i64 0, .int .i64 0, .int .i64 0, .string ⟨#[]⟩, .string ⟨#[]⟩, .int .i64 0, .int .i64 0, .int .i64 0, .int .i64 0, .int .i64 0, .int .i64 0] 28)).drew)
  case first =>
    go_region_law (first | (go_simp; go_at_call 90; refine (NumberR_any _ _ ?_).mono ?_; assumption; rintro e w' ⟨rfl, rfl⟩))
    all_goals go_wp2_with fail
    all_goals go_meet
    all_goals exact ⟨rfl, rfl⟩
  case rest =>
  obtain ⟨rfl, rfl⟩ := hcut
  have hbd : b < w1.heap.size := cell_lt (w := w1) (a := ⟨b, off, none⟩) r0
  clear hbs q0 q1 t0 t1 u0 u1 hbne
  have hB1 : w.heap.size ≤ w1.heap.size := HB1.out.size
  have HB2 : Hid (Below w.heap.size w (w1.alloc (.cells #[.int .i64 (numR a0), .int .i64 (numR a1), .int .u8 0, .int .i64 0, .int .i64 0, .int .i64 0, .string ⟨#[]⟩, .string ⟨#[]⟩, .int .i64 0, .int .i64 0, .int .i64 0, .int .i64 0, .int .i64 0, .int .i64 0] 28)).drew) := (HB1.out.alloc HB1.out.size _).drew
  have hne : b ≠ w1.heap.size := by omega
  have hne2 : w.heap.size ≠ w1.heap.size := by omega
  have FX : ∀ i, (w1.alloc (.cells #[.int .i64 (numR a0), .int .i64 (numR a1), .int .u8 0, .int .i64 0, .int .i64 0, .int .i64 0, .string ⟨#[]⟩, .string ⟨#[]⟩, .int .i64 0, .int .i64 0, .int .i64 0, .int .i64 0, .int .i64 0, .int .i64 0] 28)).drew.frozen? ⟨w1.heap.size, i, none⟩ = false := fun i => by go_simp
  have hh : ∀ k, k < w1.heap.size → (w1.alloc (.cells #[.int .i64 (numR a0), .int .i64 (numR a1), .int .u8 0, .int .i64 0, .int .i64 0, .int .i64 0, .string ⟨#[]⟩, .string ⟨#[]⟩, .int .i64 0, .int .i64 0, .int .i64 0, .int .i64 0, .int .i64 0, .int .i64 0] 28)).drew.heap[k]? = w1.heap[k]? := fun k hk => Below.heap_alloc _ _ _ hk
  have PZ2 := Lib.hid (PZ.out.of_heap (hh _ hl1))
  have FZ2 : ∀ i, (w1.alloc (.cells #[.int .i64 (numR a0), .int .i64 (numR a1), .int .u8 0, .int .i64 0, .int .i64 0, .int .i64 0, .string ⟨#[]⟩, .string ⟨#[]⟩, .int .i64 0, .int .i64 0, .int .i64 0, .int .i64 0, .int .i64 0, .int .i64 0] 28)).drew.frozen? ⟨w.heap.size, i, none⟩ = false := fun i => (World.frozen?_of_block (w := w1) (a := ⟨w.heap.size, i, none⟩) (hh _ hl1)).trans (FZ.out i)
  have d0 : (w1.alloc (.cells #[.int .i64 (numR a0), .int .i64 (numR a1), .int .u8 0, .int .i64 0, .int .i64 0, .int .i64 0, .string ⟨#[]⟩, .string ⟨#[]⟩, .int .i64 0, .int .i64 0, .int .i64 0, .int .i64 0, .int .i64 0, .int .i64 0] 28)).drew.cell? ⟨w1.heap.size, 0, none⟩ = some (.int .i64 (numR a0)) := by go_simp
  have d1 : (w1.alloc (.cells #[.int .i64 (numR a0), .int .i64 (numR a1), .int .u8 0, .int .i64 0, .int .i64 0, .int .i64 0, .string ⟨#[]⟩, .string ⟨#[]⟩, .int .i64 0, .int .i64 0, .int .i64 0, .int .i64 0, .int .i64 0, .int .i64 0] 28)).drew.cell? ⟨w1.heap.size, 1, none⟩ = some (.int .i64 (numR a1)) := by go_simp
  have d2 : (w1.alloc (.cells #[.int .i64 (numR a0), .int .i64 (numR a1), .int .u8 0, .int .i64 0, .int .i64 0, .int .i64 0, .string ⟨#[]⟩, .string ⟨#[]⟩, .int .i64 0, .int .i64 0, .int .i64 0, .int .i64 0, .int .i64 0, .int .i64 0] 28)).drew.cell? ⟨w1.heap.size, 2, none⟩ = some (.int .u8 0) := by go_simp
  have d3 : (w1.alloc (.cells #[.int .i64 (numR a0), .int .i64 (numR a1), .int .u8 0, .int .i64 0, .int .i64 0, .int .i64 0, .string ⟨#[]⟩, .string ⟨#[]⟩, .int .i64 0, .int .i64 0, .int .i64 0, .int .i64 0, .int .i64 0, .int .i64 0] 28)).drew.cell? ⟨w1.heap.size, 3, none⟩ = some (.int .i64 0) := by go_simp
  have d4 : (w1.alloc (.cells #[.int .i64 (numR a0), .int .i64 (numR a1), .int .u8 0, .int .i64 0, .int .i64 0, .int .i64 0, .string ⟨#[]⟩, .string ⟨#[]⟩, .int .i64 0, .int .i64 0, .int .i64 0, .int .i64 0, .int .i64 0, .int .i64 0] 28)).drew.cell? ⟨w1.heap.size, 4, none⟩ = some (.int .i64 0) := by go_simp
  have d5 : (w1.alloc (.cells #[.int .i64 (numR a0), .int .i64 (numR a1), .int .u8 0, .int .i64 0, .int .i64 0, .int .i64 0, .string ⟨#[]⟩, .string ⟨#[]⟩, .int .i64 0, .int .i64 0, .int .i64 0, .int .i64 0, .int .i64 0, .int .i64 0] 28)).drew.cell? ⟨w1.heap.size, 5, none⟩ = some (.int .i64 0) := by go_simp
  have d6 : (w1.alloc (.cells #[.int .i64 (numR a0), .int .i64 (numR a1), .int .u8 0, .int .i64 0, .int .i64 0, .int .i64 0, .string ⟨#[]⟩, .string ⟨#[]⟩, .int .i64 0, .int .i64 0, .int .i64 0, .int .i64 0, .int .i64 0, .int .i64 0] 28)).drew.cell? ⟨w1.heap.size, 6, none⟩ = some (.string ⟨#[]⟩) := by go_simp
  have d7 : (w1.alloc (.cells #[.int .i64 (numR a0), .int .i64 (numR a1), .int .u8 0, .int .i64 0, .int .i64 0, .int .i64 0, .string ⟨#[]⟩, .string ⟨#[]⟩, .int .i64 0, .int .i64 0, .int .i64 0, .int .i64 0, .int .i64 0, .int .i64 0] 28)).drew.cell? ⟨w1.heap.size, 7, none⟩ = some (.string ⟨#[]⟩) := by go_simp
  have d8 : (w1.alloc (.cells #[.int .i64 (numR a0), .int .i64 (numR a1), .int .u8 0, .int .i64 0, .int .i64 0, .int .i64 0, .string ⟨#[]⟩, .string ⟨#[]⟩, .int .i64 0, .int .i64 0, .int .i64 0, .int .i64 0, .int .i64 0, .int .i64 0] 28)).drew.cell? ⟨w1.heap.size, 8, none⟩ = some (.int .i64 0) := by go_simp
  have d9 : (w1.alloc (.cells #[.int .i64 (numR a0), .int .i64 (numR a1), .int .u8 0, .int .i64 0, .int .i64 0, .int .i64 0, .string ⟨#[]⟩, .string ⟨#[]⟩, .int .i64 0, .int .i64 0, .int .i64 0, .int .i64 0, .int .i64 0, .int .i64 0] 28)).drew.cell? ⟨w1.heap.size, 9, none⟩ = some (.int .i64 0) := by go_simp
  have d10 : (w1.alloc (.cells #[.int .i64 (numR a0), .int .i64 (numR a1), .int .u8 0, .int .i64 0, .int .i64 0, .int .i64 0, .string ⟨#[]⟩, .string ⟨#[]⟩, .int .i64 0, .int .i64 0, .int .i64 0, .int .i64 0, .int .i64 0, .int .i64 0] 28)).drew.cell? ⟨w1.heap.size, 10, none⟩ = some (.int .i64 0) := by go_simp
  have d11 : (w1.alloc (.cells #[.int .i64 (numR a0), .int .i64 (numR a1), .int .u8 0, .int .i64 0, .int .i64 0, .int .i64 0, .string ⟨#[]⟩, .string ⟨#[]⟩, .int .i64 0, .int .i64 0, .int .i64 0, .int .i64 0, .int .i64 0, .int .i64 0] 28)).drew.cell? ⟨w1.heap.size, 11, none⟩ = some (.int .i64 0) := by go_simp
  have d12 : (w1.alloc (.cells #[.int .i64 (numR a0), .int .i64 (numR a1), .int .u8 0, .int .i64 0, .int .i64 0, .int .i64 0, .string ⟨#[]⟩, .string ⟨#[]⟩, .int .i64 0, .int .i64 0, .int .i64 0, .int .i64 0, .int .i64 0, .int .i64 0] 28)).drew.cell? ⟨w1.heap.size, 12, none⟩ = some (.int .i64 0) := by go_simp
  have d13 : (w1.alloc (.cells #[.int .i64 (numR a0), .int .i64 (numR a1), .int .u8 0, .int .i64 0, .int .i64 0, .int .i64 0, .string ⟨#[]⟩, .string ⟨#[]⟩, .int .i64 0, .int .i64 0, .int .i64 0, .int .i64 0, .int .i64 0, .int .i64 0] 28)).drew.cell? ⟨w1.heap.size, 13, none⟩ = some (.int .i64 0) := by go_simp
  have s0 := (World.cell?_of_block (w := w1) (a := ⟨b, off, none⟩) (hh _ hbd)).trans r0
  have s1 := (World.cell?_of_block (w := w1) (a := ⟨b, off + 1, none⟩) (hh _ hbd)).trans r1
  have s2 := (World.cell?_of_block (w := w1) (a := ⟨b, off + 2, none⟩) (hh _ hbd)).trans r2
  have s3 := (World.cell?_of_block (w := w1) (a := ⟨b, off + 3, none⟩) (hh _ hbd)).trans r3
  have s4 := (World.cell?_of_block (w := w1) (a := ⟨b, off + 4, none⟩) (hh _ hbd)).trans r4
  have s5 := (World.cell?_of_block (w := w1) (a := ⟨b, off + 5, none⟩) (hh _ hbd)).trans r5
  have s6 := (World.cell?_of_block (w := w1) (a := ⟨b, off + 6, none⟩) (hh _ hbd)).trans r6
  have s7 := (World.cell?_of_block (w := w1) (a := ⟨b, off + 7, none⟩) (hh _ hbd)).trans r7
  clear r0 r1 r2 r3 r4 r5 r6 r7 HB1 PZ FZ hh
  generalize (w1.alloc (.cells #[.int .i64 (numR a0), .int .i64 (numR a1), .int .u8 0, .int .i64 0, .int .i64 0, .int .i64 0, .string ⟨#[]⟩, .string ⟨#[]⟩, .int .i64 0, .int .i64 0, .int .i64 0, .int .i64 0, .int .i64 0, .int .i64 0] 28)).drew = W2 at *
  generalize w1.heap.size = B2 at *
  have HB2' := HB2.out.size
  have hltB : B2 < W2.heap.size := cell_lt d0
  go_wp2_with fail
  refine (NumberR_any _ _ y3).mono ?_
  rintro e w' ⟨rfl, rfl⟩
  go_wp2_with fail
  refine (NumberR_any _ _ y4).mono ?_
  rintro e w' ⟨rfl, rfl⟩
  go_wp2_with fail
  refine (NumberR_any _ _ y5).mono ?_
  rintro e w' ⟨rfl, rfl⟩
  go_wp2_with fail
  have f0 : ((((W2.setCell ⟨B2, 2, none⟩ (.int .u8 2)).setCell ⟨B2, 3, none⟩ (.int .i64 (numR a3))).setCell ⟨B2, 4, none⟩ (.int .i64 (numR a4))).setCell ⟨B2, 12, none⟩ (.int .i64 (numR a5))).cell? ⟨B2, 0, none⟩ = some (.int .i64 (numR a0)) := by go_simp
  have f1 : ((((W2.setCell ⟨B2, 2, none⟩ (.int .u8 2)).setCell ⟨B2, 3, none⟩ (.int .i64 (numR a3))).setCell ⟨B2, 4, none⟩ (.int .i64 (numR a4))).setCell ⟨B2, 12, none⟩ (.int .i64 (numR a5))).cell? ⟨B2, 1, none⟩ = some (.int .i64 (numR a1)) := by go_simp
  have f2 : ((((W2.setCell ⟨B2, 2, none⟩ (.int .u8 2)).setCell ⟨B2, 3, none⟩ (.int .i64 (numR a3))).setCell ⟨B2, 4, none⟩ (.int .i64 (numR a4))).setCell ⟨B2, 12, none⟩ (.int .i64 (numR a5))).cell? ⟨B2, 2, none⟩ = some (.int .u8 2) := by go_simp
  have f3 : ((((W2.setCell ⟨B2, 2, none⟩ (.int .u8 2)).setCell ⟨B2, 3, none⟩ (.int .i64 (numR a3))).setCell ⟨B2, 4, none⟩ (.int .i64 (numR a4))).setCell ⟨B2, 12, none⟩ (.int .i64 (numR a5))).cell? ⟨B2, 3, none⟩ = some (.int .i64 (numR a3)) := by go_simp
  have f4 : ((((W2.setCell ⟨B2, 2, none⟩ (.int .u8 2)).setCell ⟨B2, 3, none⟩ (.int .i64 (numR a3))).setCell ⟨B2, 4, none⟩ (.int .i64 (numR a4))).setCell ⟨B2, 12, none⟩ (.int .i64 (numR a5))).cell? ⟨B2, 4, none⟩ = some (.int .i64 (numR a4)) := by go_simp
  have f5 : ((((W2.setCell ⟨B2, 2, none⟩ (.int .u8 2)).setCell ⟨B2, 3, none⟩ (.int .i64 (numR a3))).setCell ⟨B2, 4, none⟩ (.int .i64 (numR a4))).setCell ⟨B2, 12, none⟩ (.int .i64 (numR a5))).cell? ⟨B2, 5, none⟩ = some (.int .i64 0) := by go_simp
  have f6 : ((((W2.setCell ⟨B2, 2, none⟩ (.int .u8 2)).setCell ⟨B2, 3, none⟩ (.int .i64 (numR a3))).setCell ⟨B2, 4, none⟩ (.int .i64 (numR a4))).setCell ⟨B2, 12, none⟩ (.int .i64 (numR a5))).cell? ⟨B2, 6, none⟩ = some (.string ⟨#[]⟩) := by go_simp
  have f7 : ((((W2.setCell ⟨B2, 2, none⟩ (.int .u8 2)).setCell ⟨B2, 3, none⟩ (.int .i64 (numR a3))).setCell ⟨B2, 4, none⟩ (.int .i64 (numR a4))).setCell ⟨B2, 12, none⟩ (.int .i64 (numR a5))).cell? ⟨B2, 7, none⟩ = some (.string ⟨#[]⟩) := by go_simp
  have f8 : ((((W2.setCell ⟨B2, 2, none⟩ (.int .u8 2)).setCell ⟨B2, 3, none⟩ (.int .i64 (numR a3))).setCell ⟨B2, 4, none⟩ (.int .i64 (numR a4))).setCell ⟨B2, 12, none⟩ (.int .i64 (numR a5))).cell? ⟨B2, 8, none⟩ = some (.int .i64 0) := by go_simp
  have f9 : ((((W2.setCell ⟨B2, 2, none⟩ (.int .u8 2)).setCell ⟨B2, 3, none⟩ (.int .i64 (numR a3))).setCell ⟨B2, 4, none⟩ (.int .i64 (numR a4))).setCell ⟨B2, 12, none⟩ (.int .i64 (numR a5))).cell? ⟨B2, 9, none⟩ = some (.int .i64 0) := by go_simp
  have f10 : ((((W2.setCell ⟨B2, 2, none⟩ (.int .u8 2)).setCell ⟨B2, 3, none⟩ (.int .i64 (numR a3))).setCell ⟨B2, 4, none⟩ (.int .i64 (numR a4))).setCell ⟨B2, 12, none⟩ (.int .i64 (numR a5))).cell? ⟨B2, 10, none⟩ = some (.int .i64 0) := by go_simp
  have f11 : ((((W2.setCell ⟨B2, 2, none⟩ (.int .u8 2)).setCell ⟨B2, 3, none⟩ (.int .i64 (numR a3))).setCell ⟨B2, 4, none⟩ (.int .i64 (numR a4))).setCell ⟨B2, 12, none⟩ (.int .i64 (numR a5))).cell? ⟨B2, 11, none⟩ = some (.int .i64 0) := by go_simp
  have f12 : ((((W2.setCell ⟨B2, 2, none⟩ (.int .u8 2)).setCell ⟨B2, 3, none⟩ (.int .i64 (numR a3))).setCell ⟨B2, 4, none⟩ (.int .i64 (numR a4))).setCell ⟨B2, 12, none⟩ (.int .i64 (numR a5))).cell? ⟨B2, 12, none⟩ = some (.int .i64 (numR a5)) := by go_simp
  have f13 : ((((W2.setCell ⟨B2, 2, none⟩ (.int .u8 2)).setCell ⟨B2, 3, none⟩ (.int .i64 (numR a3))).setCell ⟨B2, 4, none⟩ (.int .i64 (numR a4))).setCell ⟨B2, 12, none⟩ (.int .i64 (numR a5))).cell? ⟨B2, 13, none⟩ = some (.int .i64 0) := by go_simp
  have hh3 : ∀ k, k ≠ B2 → ((((W2.setCell ⟨B2, 2, none⟩ (.int .u8 2)).setCell ⟨B2, 3, none⟩ (.int .i64 (numR a3))).setCell ⟨B2, 4, none⟩ (.int .i64 (numR a4))).setCell ⟨B2, 12, none⟩ (.int .i64 (numR a5))).heap[k]? = W2.heap[k]? := fun k hk => by
    exact ((Below.heap_setCell _ _ _ k hk).trans ((Below.heap_setCell _ _ _ k hk).trans ((Below.heap_setCell _ _ _ k hk).trans ((Below.heap_setCell _ _ _ k hk).trans rfl))))
  have PZ3 := Lib.hid (PZ2.out.of_heap (hh3 _ hne2))
  have FZ3 : ∀ i, ((((W2.setCell ⟨B2, 2, none⟩ (.int .u8 2)).setCell ⟨B2, 3, none⟩ (.int .i64 (numR a3))).setCell ⟨B2, 4, none⟩ (.int .i64 (numR a4))).setCell ⟨B2, 12, none⟩ (.int .i64 (numR a5))).frozen? ⟨w.heap.size, i, none⟩ = false := fun i => (World.frozen?_of_block (w := W2) (a := ⟨w.heap.size, i, none⟩) (hh3 _ hne2)).trans (FZ2 i)
  have FX3 : ∀ i, ((((W2.setCell ⟨B2, 2, none⟩ (.int .u8 2)).setCell ⟨B2, 3, none⟩ (.int .i64 (numR a3))).setCell ⟨B2, 4, none⟩ (.int .i64 (numR a4))).setCell ⟨B2, 12, none⟩ (.int .i64 (numR a5))).frozen? ⟨B2, i, none⟩ = false := fun i => by
    show ((((W2.setCell ⟨B2, 2, none⟩ (.int .u8 2)).setCell ⟨B2, 3, none⟩ (.int .i64 (numR a3))).setCell ⟨B2, 4, none⟩ (.int .i64 (numR a4))).setCell ⟨B2, 12, none⟩ (.int .i64 (numR a5))).frozen? _ = false
    simp only [World.frozen?_setCell]
    exact FX i
  have HB3 : Hid (Below w.heap.size w ((((W2.setCell ⟨B2, 2, none⟩ (.int .u8 2)).setCell ⟨B2, 3, none⟩ (.int .i64 (numR a3))).setCell ⟨B2, 4, none⟩ (.int .i64 (numR a4))).setCell ⟨B2, 12, none⟩ (.int .i64 (numR a5)))) := ((((HB2.out.setCell (by show w.heap.size ≤ B2; exact hB1) _).setCell (by show w.heap.size ≤ B2; exact hB1) _).setCell (by show w.heap.size ≤ B2; exact hB1) _).setCell (by show w.heap.size ≤ B2; exact hB1) _)
  have t6 := (World.cell?_of_block (w := W2) (a := ⟨b, off + 6, none⟩) (hh3 _ hne)).trans s6
  have t7 := (World.cell?_of_block (w := W2) (a := ⟨b, off + 7, none⟩) (hh3 _ hne)).trans s7
  clear d0 d1 d2 d3 d4 d5 d6 d7 d8 d9 d10 d11 d12 d13 FX FZ2 hh3 PZ2 HB2 HB2' hltB s0 s1 s2 s3 s4 s5 s6 s7
  generalize ((((W2.setCell ⟨B2, 2, none⟩ (.int .u8 2)).setCell ⟨B2, 3, none⟩ (.int .i64 (numR a3))).setCell ⟨B2, 4, none⟩ (.int .i64 (numR a4))).setCell ⟨B2, 12, none⟩ (.int .i64 (numR a5))) = W5 at *
  have hltB : B2 < W5.heap.size := cell_lt f0
  have PZ2 := PZ3
  have FZ2 := FZ3
  have FX := FX3
  have HB2 := HB3
  have HB2' := HB2.out.size
  clear PZ3 FZ3 FX3 HB3
  have d0 := f0
  have d1 := f1
  have d2 := f2
  have d3 := f3
  have d4 := f4
  have d5 := f5
  have d6 := f6
  have d7 := f7
  have d8 := f8
  have d9 := f9
  have d10 := f10
  have d11 := f11
  have d12 := f12
  have d13 := f13
  clear f0 f1 f2 f3 f4 f5 f6 f7 f8 f9 f10 f11 f12 f13
  have s6 := t6
  have s7 := t7
  clear t6 t7
  refine wp_region_still_tail 10 (by kernel_rfl) (by kernel_rfl) ?_
  simp only [List.take_succ_cons, List.take_zero, List.drop_succ_cons, List.drop_zero]
  repeat still_step
  still_call ((NumberR_any _ _ y6).mono fun _ _ h => ⟨h.1, h.2.symm⟩)
  repeat still_step
  still_call ((NumberR_any _ _ y7).mono fun _ _ h => ⟨h.1, h.2.symm⟩)
  repeat still_step
  refine wpStill_nil ?_
  change wpList _ _ _ _ _ (World.drew _)
  go_wp2_with fail
  have f0 : ((W5.setCell ⟨B2, 8, none⟩ (.int .i64 (numR a6))).setCell ⟨B2, 9, none⟩ (.int .i64 (numR a7))).drew.cell? ⟨B2, 0, none⟩ = some (.int .i64 (numR a0)) := by go_simp
  have f1 : ((W5.setCell ⟨B2, 8, none⟩ (.int .i64 (numR a6))).setCell ⟨B2, 9, none⟩ (.int .i64 (numR a7))).drew.cell? ⟨B2, 1, none⟩ = some (.int .i64 (numR a1)) := by go_simp
  have f2 : ((W5.setCell ⟨B2, 8, none⟩ (.int .i64 (numR a6))).setCell ⟨B2, 9, none⟩ (.int .i64 (numR a7))).drew.cell? ⟨B2, 2, none⟩ = some (.int .u8 2) := by go_simp
  have f3 : ((W5.setCell ⟨B2, 8, none⟩ (.int .i64 (numR a6))).setCell ⟨B2, 9, none⟩ (.int .i64 (numR a7))).drew.cell? ⟨B2, 3, none⟩ = some (.int .i64 (numR a3)) := by go_simp
  have f4 : ((W5.setCell ⟨B2, 8, none⟩ (.int .i64 (numR a6))).setCell ⟨B2, 9, none⟩ (.int .i64 (numR a7))).drew.cell? ⟨B2, 4, none⟩ = some (.int .i64 (numR a4)) := by go_simp
  have f5 : ((W5.setCell ⟨B2, 8, none⟩ (.int .i64 (numR a6))).setCell ⟨B2, 9, none⟩ (.int .i64 (numR a7))).drew.cell? ⟨B2, 5, none⟩ = some (.int .i64 0) := by go_simp
  have f6 : ((W5.setCell ⟨B2, 8, none⟩ (.int .i64 (numR a6))).setCell ⟨B2, 9, none⟩ (.int .i64 (numR a7))).drew.cell? ⟨B2, 6, none⟩ = some (.string ⟨#[]⟩) := by go_simp
  have f7 : ((W5.setCell ⟨B2, 8, none⟩ (.int .i64 (numR a6))).setCell ⟨B2, 9, none⟩ (.int .i64 (numR a7))).drew.cell? ⟨B2, 7, none⟩ = some (.string ⟨#[]⟩) := by go_simp
  have f8 : ((W5.setCell ⟨B2, 8, none⟩ (.int .i64 (numR a6))).setCell ⟨B2, 9, none⟩ (.int .i64 (numR a7))).drew.cell? ⟨B2, 8, none⟩ = some (.int .i64 (numR a6)) := by go_simp
  have f9 : ((W5.setCell ⟨B2, 8, none⟩ (.int .i64 (numR a6))).setCell ⟨B2, 9, none⟩ (.int .i64 (numR a7))).drew.cell? ⟨B2, 9, none⟩ = some (.int .i64 (numR a7)) := by go_simp
  have f10 : ((W5.setCell ⟨B2, 8, none⟩ (.int .i64 (numR a6))).setCell ⟨B2, 9, none⟩ (.int .i64 (numR a7))).drew.cell? ⟨B2, 10, none⟩ = some (.int .i64 0) := by go_simp
  have f11 : ((W5.setCell ⟨B2, 8, none⟩ (.int .i64 (numR a6))).setCell ⟨B2, 9, none⟩ (.int .i64 (numR a7))).drew.cell? ⟨B2, 11, none⟩ = some (.int .i64 0) := by go_simp
  have f12 : ((W5.setCell ⟨B2, 8, none⟩ (.int .i64 (numR a6))).setCell ⟨B2, 9, none⟩ (.int .i64 (numR a7))).drew.cell? ⟨B2, 12, none⟩ = some (.int .i64 (numR a5)) := by go_simp
  have f13 : ((W5.setCell ⟨B2, 8, none⟩ (.int .i64 (numR a6))).setCell ⟨B2, 9, none⟩ (.int .i64 (numR a7))).drew.cell? ⟨B2, 13, none⟩ = some (.int .i64 0) := by go_simp
  have hh3 : ∀ k, k ≠ B2 → ((W5.setCell ⟨B2, 8, none⟩ (.int .i64 (numR a6))).setCell ⟨B2, 9, none⟩ (.int .i64 (numR a7))).drew.heap[k]? = W5.heap[k]? := fun k hk => by
    exact ((Below.heap_setCell _ _ _ k hk).trans ((Below.heap_setCell _ _ _ k hk).trans rfl))
  have PZ3 := Lib.hid (PZ2.out.of_heap (hh3 _ hne2))
  have FZ3 : ∀ i, ((W5.setCell ⟨B2, 8, none⟩ (.int .i64 (numR a6))).setCell ⟨B2, 9, none⟩ (.int .i64 (numR a7))).drew.frozen? ⟨w.heap.size, i, none⟩ = false := fun i => (World.frozen?_of_block (w := W5) (a := ⟨w.heap.size, i, none⟩) (hh3 _ hne2)).trans (FZ2 i)
  have FX3 : ∀ i, ((W5.setCell ⟨B2, 8, none⟩ (.int .i64 (numR a6))).setCell ⟨B2, 9, none⟩ (.int .i64 (numR a7))).drew.frozen? ⟨B2, i, none⟩ = false := fun i => by
    show ((W5.setCell ⟨B2, 8, none⟩ (.int .i64 (numR a6))).setCell ⟨B2, 9, none⟩ (.int .i64 (numR a7))).frozen? _ = false
    simp only [World.frozen?_setCell]
    exact FX i
  have HB3 : Hid (Below w.heap.size w ((W5.setCell ⟨B2, 8, none⟩ (.int .i64 (numR a6))).setCell ⟨B2, 9, none⟩ (.int .i64 (numR a7))).drew) := ((HB2.out.setCell (by show w.heap.size ≤ B2; exact hB1) _).setCell (by show w.heap.size ≤ B2; exact hB1) _).drew
  clear d0 d1 d2 d3 d4 d5 d6 d7 d8 d9 d10 d11 d12 d13 FX FZ2 hh3 PZ2 HB2 HB2' hltB s6 s7
  generalize ((W5.setCell ⟨B2, 8, none⟩ (.int .i64 (numR a6))).setCell ⟨B2, 9, none⟩ (.int .i64 (numR a7))).drew = W3 at *
  have hltB : B2 < W3.heap.size := cell_lt f0
  have PZ2 := PZ3
  have FZ2 := FZ3
  have FX := FX3
  have HB2 := HB3
  have HB2' := HB2.out.size
  clear PZ3 FZ3 FX3 HB3
  have d0 := f0
  have d1 := f1
  have d2 := f2
  have d3 := f3
  have d4 := f4
  have d5 := f5
  have d6 := f6
  have d7 := f7
  have d8 := f8
  have d9 := f9
  have d10 := f10
  have d11 := f11
  have d12 := f12
  have d13 := f13
  clear f0 f1 f2 f3 f4 f5 f6 f7 f8 f9 f10 f11 f12 f13
  refine (HW.out _).mono ?_
  rintro e w9 ⟨rfl, hb9⟩
  have PZ9 := Lib.hid (PZ2.out.of_heap (hb9.block _ (cell_lt (w := W3) (a := ⟨w.heap.size, 0, none⟩) PZ2.out.1)))
  have FZ9 : ∀ i, w9.frozen? ⟨w.heap.size, i, none⟩ = false := fun i => (World.frozen?_of_block (w := W3) (a := ⟨w.heap.size, i, none⟩) (hb9.block _ (cell_lt (w := W3) (a := ⟨w.heap.size, 0, none⟩) PZ2.out.1))).trans (FZ2 i)
  have HB9 := Lib.hid (keepB HB2.out hb9)
  replace d0 := keepS hb9 hltB d0
  replace d1 := keepS hb9 hltB d1
  replace d2 := keepS hb9 hltB d2
  replace d3 := keepS hb9 hltB d3
  replace d4 := keepS hb9 hltB d4
  replace d5 := keepS hb9 hltB d5
  replace d6 := keepS hb9 hltB d6
  replace d7 := keepS hb9 hltB d7
  replace d8 := keepS hb9 hltB d8
  replace d9 := keepS hb9 hltB d9
  replace d10 := keepS hb9 hltB d10
  replace d11 := keepS hb9 hltB d11
  replace d12 := keepS hb9 hltB d12
  replace d13 := keepS hb9 hltB d13
  have q := PZ9.out
  obtain ⟨p0, p1, p2, p3, p4, p5, p6, p7, p8, p9, p10, p11, p12, p13⟩ := q
  simp only [Paper.zero] at p0 p1 p2 p3 p4 p5 p6 p7 p8 p9 p10 p11 p12 p13
  clear PZ2 FZ2 FX HB2 HB2' hb9 hltB HW hl1 hB1
  rcases hwp with rfl | rfl
  · by_cases hls : l = s
    · subst hls
      have hE : Hid (readRP l = (⟨(numR a0), (numR a1), 2, (numR a3), (numR a4), 0, ⟨#[]⟩, ⟨#[]⟩, (numR a6), (numR a7), 0, 0, (numR a5), 0⟩, 0)) := by show _ = _; rw [HR2.out, if_pos ⟨rfl, rfl⟩]
      clear HR2
      go_wp2_with fail
      refine bodyPost_ret (results_paper rfl _ _ w.heap.size ⟨(numR a0), (numR a1), 2, (numR a3), (numR a4), 0, ⟨#[]⟩, ⟨#[]⟩, (numR a6), (numR a7), 0, 0, (numR a5), 0⟩ rfl (set14 w9 _ ⟨(numR a0), (numR a1), 2, (numR a3), (numR a4), 0, ⟨#[]⟩, ⟨#[]⟩, (numR a6), (numR a7), 0, 0, (numR a5), 0⟩ Paper.zero PZ9.out)) rfl ?_
      exact ⟨by rw [hE.out]; rfl, set14_below _ (Nat.le_refl _) ⟨(numR a0), (numR a1), 2, (numR a3), (numR a4), 0, ⟨#[]⟩, ⟨#[]⟩, (numR a6), (numR a7), 0, 0, (numR a5), 0⟩ HB9.out⟩
    · have hne9 : (l.toList == s.toList) = false := (Lib.bytes_beq_false_iff _ _).2 hls
      have hE : Hid (readRP s = (Paper.zero, 4)) := by show _ = _; rw [HR2.out, if_neg (fun h => hls h.2)]
      clear HR2
      go_wp2_with fail
      refine bodyPost_ret (results_paper rfl _ _ w.heap.size Paper.zero rfl (set14 w9 _ Paper.zero Paper.zero PZ9.out)) rfl ?_
      exact ⟨by rw [hE.out]; rfl, set14_below _ (Nat.le_refl _) Paper.zero HB9.out⟩
  · have hE : Hid (readRP s = (Paper.zero, 4)) := by show _ = _; rw [HR2.out, if_neg (fun h => absurd h.1 (by decide))]
    clear HR2
    go_wp2_with fail
    refine bodyPost_ret (results_paper rfl _ _ w.heap.size Paper.zero rfl (set14 w9 _ Paper.zero Paper.zero PZ9.out)) rfl ?_
    exact ⟨by rw [hE.out]; rfl, set14_below _ (Nat.le_refl _) Paper.zero HB9.out⟩

set_option maxRecDepth 100000 in
set_option maxHeartbeats 8000000 in
theorem ReadR_12 (s : ByteArray) (w : World) (hs : s.size ≤ 5000) (hlen : (wordsR s).length = 12) :
    Calls Tryz.prog 27 #[.string s] w fun e w' => e = .returned (.tuple #[.agg (readRP s).1.vals.toArray, .int .i64 (readRP s).2]) ∧ Below w.heap.size w w' := by
  have hB0 : Below w.heap.size w (w.alloc (.cells #[.int .i64 0, .int .i64 0, .int .u8 0, .int .i64 0, .int .i64 0, .int .i64 0, .string ⟨#[]⟩, .string ⟨#[]⟩, .int .i64 0, .int .i64 0, .int .i64 0, .int .i64 0, .int .i64 0, .int .i64 0] 28)) := (Below.refl _ w).alloc (Nat.le_refl _) _
  have hz : ∀ i u, Paper.zero.vals[i]? = some u → (w.alloc (.cells #[.int .i64 0, .int .i64 0, .int .u8 0, .int .i64 0, .int .i64 0, .int .i64 0, .string ⟨#[]⟩, .string ⟨#[]⟩, .int .i64 0, .int .i64 0, .int .i64 0, .int .i64 0, .int .i64 0, .int .i64 0] 28)).cell? ⟨w.heap.size, 0 + i, none⟩ = some u := fun i u hu => by
    rw [Nat.zero_add, World.cell?_alloc_new, ← hu]; simp [Paper.vals, Paper.zero]
  have z0 : ∀ i, (w.alloc (.cells #[.int .i64 0, .int .i64 0, .int .u8 0, .int .i64 0, .int .i64 0, .int .i64 0, .string ⟨#[]⟩, .string ⟨#[]⟩, .int .i64 0, .int .i64 0, .int .i64 0, .int .i64 0, .int .i64 0, .int .i64 0] 28)).frozen? ⟨w.heap.size, i, none⟩ = false := fun i => by go_simp
  have hlt0 : w.heap.size < (w.alloc (.cells #[.int .i64 0, .int .i64 0, .int .u8 0, .int .i64 0, .int .i64 0, .int .i64 0, .string ⟨#[]⟩, .string ⟨#[]⟩, .int .i64 0, .int .i64 0, .int .i64 0, .int .i64 0, .int .i64 0, .int .i64 0] 28)).heap.size := by simp
  have HWd := Lib.hid (WordsR_any s (w.alloc (.cells #[.int .i64 0, .int .i64 0, .int .u8 0, .int .i64 0, .int .i64 0, .int .i64 0, .string ⟨#[]⟩, .string ⟨#[]⟩, .int .i64 0, .int .i64 0, .int .i64 0, .int .i64 0, .int .i64 0, .int .i64 0] 28)) (by omega))
  have hsz : ∀ x ∈ wordsR s, x.size ≤ 5000 := fun x hx => by rw [← wordsOf_eq] at hx; have := wordsOf_size s x hx; omega
  have HR : Hid (readRP s = match candR (wordsR s) with | none => (Paper.zero, 4) | some x => if (writeP x).2 = 0 ∧ (writeP x).1 = s then (x, 0) else (Paper.zero, 4)) := by show _ = _; rfl
  obtain ⟨a0, a1, a2, a3, a4, a5, a6, a7, a8, a9, a10, a11, hws⟩ := len12 _ hlen
  rw [hws] at HWd hsz HR
  clear hws hlen
  have za0 : a0.size ≤ 5000 := hsz a0 (by simp)
  have za1 : a1.size ≤ 5000 := hsz a1 (by simp)
  have za2 : a2.size ≤ 5000 := hsz a2 (by simp)
  have za3 : a3.size ≤ 5000 := hsz a3 (by simp)
  have za4 : a4.size ≤ 5000 := hsz a4 (by simp)
  have za5 : a5.size ≤ 5000 := hsz a5 (by simp)
  have za6 : a6.size ≤ 5000 := hsz a6 (by simp)
  have za7 : a7.size ≤ 5000 := hsz a7 (by simp)
  have za8 : a8.size ≤ 5000 := hsz a8 (by simp)
  have za9 : a9.size ≤ 5000 := hsz a9 (by simp)
  have za10 : a10.size ≤ 5000 := hsz a10 (by simp)
  have za11 : a11.size ≤ 5000 := hsz a11 (by simp)
  have y0 : a0.size ≤ maxLen := by unfold maxLen; omega
  have y1 : a1.size ≤ maxLen := by unfold maxLen; omega
  have y3 : a3.size ≤ maxLen := by unfold maxLen; omega
  have y4 : a4.size ≤ maxLen := by unfold maxLen; omega
  have y5 : a5.size ≤ maxLen := by unfold maxLen; omega
  have y8 : a8.size ≤ maxLen := by unfold maxLen; omega
  have y9 : a9.size ≤ maxLen := by unfold maxLen; omega
  have y10 : a10.size ≤ maxLen := by unfold maxLen; omega
  have y11 : a11.size ≤ maxLen := by unfold maxLen; omega
  have HC : Hid (candR [a0, a1, a2, a3, a4, a5, a6, a7, a8, a9, a10, a11] = some ⟨(numR a0), (numR a1), 1, (numR a3), (numR a4), (numR a5), a6, a7, (numR a8), (numR a9), (numR a10), (numR a11), 0, 0⟩) := by show _ = _; rfl
  have HW := Lib.hid (fun W => WriteR_any ⟨(numR a0), (numR a1), 1, (numR a3), (numR a4), (numR a5), a6, a7, (numR a8), (numR a9), (numR a10), (numR a11), 0, 0⟩ W (by show a6.size ≤ 10000; first | omega | decide) (by show a7.size ≤ 10000; first | omega | decide))
  have HR2 : Hid (readRP s = if (writeP ⟨(numR a0), (numR a1), 1, (numR a3), (numR a4), (numR a5), a6, a7, (numR a8), (numR a9), (numR a10), (numR a11), 0, 0⟩).2 = 0 ∧ (writeP ⟨(numR a0), (numR a1), 1, (numR a3), (numR a4), (numR a5), a6, a7, (numR a8), (numR a9), (numR a10), (numR a11), 0, 0⟩).1 = s then (⟨(numR a0), (numR a1), 1, (numR a3), (numR a4), (numR a5), a6, a7, (numR a8), (numR a9), (numR a10), (numR a11), 0, 0⟩, 0) else (Paper.zero, 4)) := by show _ = _; rw [HR.out, HC.out]
  clear HR HC hsz
  have hwp : (writeP ⟨(numR a0), (numR a1), 1, (numR a3), (numR a4), (numR a5), a6, a7, (numR a8), (numR a9), (numR a10), (numR a11), 0, 0⟩).2 = 0 ∨ (writeP ⟨(numR a0), (numR a1), 1, (numR a3), (numR a4), (numR a5), a6, a7, (numR a8), (numR a9), (numR a10), (numR a11), 0, 0⟩).2 = 1 := by unfold writeP; split; exact .inl rfl; exact .inr rfl
  generalize writeP ⟨(numR a0), (numR a1), 1, (numR a3), (numR a4), (numR a5), a6, a7, (numR a8), (numR a9), (numR a10), (numR a11), 0, 0⟩ = lw at *
  obtain ⟨l, er⟩ := lw
  dsimp only at hwp HR2 HW
  have HW : Hid (∀ W, Calls Tryz.prog 25 #[.agg #[.int .i64 (numR a0), .int .i64 (numR a1), .int .u8 1, .int .i64 (numR a3), .int .i64 (numR a4), .int .i64 (numR a5), .string a6, .string a7, .int .i64 (numR a8), .int .i64 (numR a9), .int .i64 (numR a10), .int .i64 (numR a11), .int .i64 0, .int .i64 0]] W fun e w' => e = .returned (.tuple #[.string l, .int .i64 er]) ∧ Below W.heap.size W w') := HW
  go_enter Tryz.func27, Tryz.ntmps27
  go_wp2_with fail
  refine HWd.out.mono ?_
  rintro e w1 ⟨v, rfl, hrows, hb1⟩
  obtain ⟨ad, c, rfl, g1, g2, g3⟩ := hrows
  obtain ⟨b, off, rfl, hbs, hcell⟩ := g3 (by simp at g1; omega)
  unfold maxLen at g2
  have r0 : w1.cell? ⟨b, off, none⟩ = some (.string a0) := hcell 0 (by simp) 0 _ rfl
  have r1 : w1.cell? ⟨b, off + 1, none⟩ = some (.string a1) := hcell 1 (by simp) 0 _ rfl
  have r2 : w1.cell? ⟨b, off + 2, none⟩ = some (.string a2) := hcell 2 (by simp) 0 _ rfl
  have r3 : w1.cell? ⟨b, off + 3, none⟩ = some (.string a3) := hcell 3 (by simp) 0 _ rfl
  have r4 : w1.cell? ⟨b, off + 4, none⟩ = some (.string a4) := hcell 4 (by simp) 0 _ rfl
  have r5 : w1.cell? ⟨b, off + 5, none⟩ = some (.string a5) := hcell 5 (by simp) 0 _ rfl
  have r6 : w1.cell? ⟨b, off + 6, none⟩ = some (.string a6) := hcell 6 (by simp) 0 _ rfl
  have r7 : w1.cell? ⟨b, off + 7, none⟩ = some (.string a7) := hcell 7 (by simp) 0 _ rfl
  have r8 : w1.cell? ⟨b, off + 8, none⟩ = some (.string a8) := hcell 8 (by simp) 0 _ rfl
  have r9 : w1.cell? ⟨b, off + 9, none⟩ = some (.string a9) := hcell 9 (by simp) 0 _ rfl
  have r10 : w1.cell? ⟨b, off + 10, none⟩ = some (.string a10) := hcell 10 (by simp) 0 _ rfl
  have r11 : w1.cell? ⟨b, off + 11, none⟩ = some (.string a11) := hcell 11 (by simp) 0 _ rfl
  have HB1 := Lib.hid (hB0.trans (hb1.mono hB0.size))
  obtain ⟨c0, c1, c2, c3, c4, c5, c6, c7, c8, c9, c10, c11, c12, c13⟩ := paper_cells (w := w1) (b := w.heap.size) (o := 0) Paper.zero (fun i u hu => (hb1.cell (p := ⟨w.heap.size, 0 + i, none⟩) hlt0).trans (hz i u hu))
  have PZ := Lib.hid (show PaperIn w1 w.heap.size Paper.zero from ⟨c0, c1, c2, c3, c4, c5, c6, c7, c8, c9, c10, c11, c12, c13⟩)
  have FZ : Hid (∀ i, w1.frozen? ⟨w.heap.size, i, none⟩ = false) := fun i => (hb1.frozen (p := ⟨w.heap.size, i, none⟩) hlt0).trans (z0 i)
  have hl1 := keepL hlt0 hb1
  clear c0 c1 c2 c3 c4 c5 c6 c7 c8 c9 c10 c11 c12 c13 hb1 hB0 hz z0 hlt0 HWd hcell g3
  simp only [List.length_cons, List.length_nil, Nat.reduceAdd, Nat.zero_add] at g1
  go_wp2_with fail
  have q0 : w1.drew.cell? ⟨b, off, none⟩ = some (.string a0) := r0
  have q1 : w1.drew.cell? ⟨b, off + 1, none⟩ = some (.string a1) := r1
  have t0 : (w1.drew.alloc (.cells #[.int .i64 0, .int .i64 0, .int .u8 0, .int .i64 0, .int .i64 0, .int .i64 0, .string ⟨#[]⟩, .string ⟨#[]⟩, .int .i64 0, .int .i64 0, .int .i64 0, .int .i64 0, .int .i64 0, .int .i64 0] 28)).cell? ⟨b, off, none⟩ = some (.string a0) := cell_al (W := w1.drew) (cell_lt (w := w1) r0) r0 (.cells #[.int .i64 0, .int .i64 0, .int .u8 0, .int .i64 0, .int .i64 0, .int .i64 0, .string ⟨#[]⟩, .string ⟨#[]⟩, .int .i64 0, .int .i64 0, .int .i64 0, .int .i64 0, .int .i64 0, .int .i64 0] 28)
  have t1 : (w1.drew.alloc (.cells #[.int .i64 0, .int .i64 0, .int .u8 0, .int .i64 0, .int .i64 0, .int .i64 0, .string ⟨#[]⟩, .string ⟨#[]⟩, .int .i64 0, .int .i64 0, .int .i64 0, .int .i64 0, .int .i64 0, .int .i64 0] 28)).cell? ⟨b, off + 1, none⟩ = some (.string a1) := cell_al (W := w1.drew) (cell_lt (w := w1) r1) r1 (.cells #[.int .i64 0, .int .i64 0, .int .u8 0, .int .i64 0, .int .i64 0, .int .i64 0, .string ⟨#[]⟩, .string ⟨#[]⟩, .int .i64 0, .int .i64 0, .int .i64 0, .int .i64 0, .int .i64 0, .int .i64 0] 28)
  have hbne : b ≠ w1.heap.size := by have : b < w1.heap.size := cell_lt (w := w1) r0; omega
  have u0 := (World.cell?_of_block (a := ⟨b, off, none⟩) (set14_heap (w1.drew.alloc (.cells #[.int .i64 0, .int .i64 0, .int .u8 0, .int .i64 0, .int .i64 0, .int .i64 0, .string ⟨#[]⟩, .string ⟨#[]⟩, .int .i64 0, .int .i64 0, .int .i64 0, .int .i64 0, .int .i64 0, .int .i64 0] 28)) w1.heap.size (⟨numR a0, numR a1, 0, 0, 0, 0, ⟨#[]⟩, ⟨#[]⟩, 0, 0, 0, 0, 0, 0⟩ : Paper) b hbne)).trans t0
  have u1 := (World.cell?_of_block (a := ⟨b, off + 1, none⟩) (set14_heap (w1.drew.alloc (.cells #[.int .i64 0, .int .i64 0, .int .u8 0, .int .i64 0, .int .i64 0, .int .i64 0, .string ⟨#[]⟩, .string ⟨#[]⟩, .int .i64 0, .int .i64 0, .int .i64 0, .int .i64 0, .int .i64 0, .int .i64 0] 28)) w1.heap.size (⟨numR a0, numR a1, 0, 0, 0, 0, ⟨#[]⟩, ⟨#[]⟩, 0, 0, 0, 0, 0, 0⟩ : Paper) b hbne)).trans t1
  dsimp only at u0 u1
  go_cut [5] from 24 to 32 (fun s5 wx => s5 = .pointer (some ⟨w1.heap.size, 0, none⟩) ∧ wx = (w1.alloc (.cells #[.int .i64 (numR a0), .int .i64 (numR a1), .int .u8 0, .int .i64 0, .int .i64 0, .int .i64 0, .string ⟨#[]⟩, .string ⟨#[]⟩, .int .i64 0, .int .i64 0, .int .i64 0, .int .i64 0, .int .i64 0, .int .i64 0] 28)).drew)
  case first =>
    go_region_law (first | (go_simp; go_at_call 90; refine (NumberR_any _ _ ?_).mono ?_; assumption; rintro e w' ⟨rfl, rfl⟩))
    all_goals go_wp2_with fail
    all_goals go_meet
    all_goals exact ⟨rfl, rfl⟩
  case rest =>
  obtain ⟨rfl, rfl⟩ := hcut
  have hbd : b < w1.heap.size := cell_lt (w := w1) (a := ⟨b, off, none⟩) r0
  clear hbs q0 q1 t0 t1 u0 u1 hbne
  have hB1 : w.heap.size ≤ w1.heap.size := HB1.out.size
  have HB2 : Hid (Below w.heap.size w (w1.alloc (.cells #[.int .i64 (numR a0), .int .i64 (numR a1), .int .u8 0, .int .i64 0, .int .i64 0, .int .i64 0, .string ⟨#[]⟩, .string ⟨#[]⟩, .int .i64 0, .int .i64 0, .int .i64 0, .int .i64 0, .int .i64 0, .int .i64 0] 28)).drew) := (HB1.out.alloc HB1.out.size _).drew
  have hne : b ≠ w1.heap.size := by omega
  have hne2 : w.heap.size ≠ w1.heap.size := by omega
  have FX : ∀ i, (w1.alloc (.cells #[.int .i64 (numR a0), .int .i64 (numR a1), .int .u8 0, .int .i64 0, .int .i64 0, .int .i64 0, .string ⟨#[]⟩, .string ⟨#[]⟩, .int .i64 0, .int .i64 0, .int .i64 0, .int .i64 0, .int .i64 0, .int .i64 0] 28)).drew.frozen? ⟨w1.heap.size, i, none⟩ = false := fun i => by go_simp
  have hh : ∀ k, k < w1.heap.size → (w1.alloc (.cells #[.int .i64 (numR a0), .int .i64 (numR a1), .int .u8 0, .int .i64 0, .int .i64 0, .int .i64 0, .string ⟨#[]⟩, .string ⟨#[]⟩, .int .i64 0, .int .i64 0, .int .i64 0, .int .i64 0, .int .i64 0, .int .i64 0] 28)).drew.heap[k]? = w1.heap[k]? := fun k hk => Below.heap_alloc _ _ _ hk
  have PZ2 := Lib.hid (PZ.out.of_heap (hh _ hl1))
  have FZ2 : ∀ i, (w1.alloc (.cells #[.int .i64 (numR a0), .int .i64 (numR a1), .int .u8 0, .int .i64 0, .int .i64 0, .int .i64 0, .string ⟨#[]⟩, .string ⟨#[]⟩, .int .i64 0, .int .i64 0, .int .i64 0, .int .i64 0, .int .i64 0, .int .i64 0] 28)).drew.frozen? ⟨w.heap.size, i, none⟩ = false := fun i => (World.frozen?_of_block (w := w1) (a := ⟨w.heap.size, i, none⟩) (hh _ hl1)).trans (FZ.out i)
  have d0 : (w1.alloc (.cells #[.int .i64 (numR a0), .int .i64 (numR a1), .int .u8 0, .int .i64 0, .int .i64 0, .int .i64 0, .string ⟨#[]⟩, .string ⟨#[]⟩, .int .i64 0, .int .i64 0, .int .i64 0, .int .i64 0, .int .i64 0, .int .i64 0] 28)).drew.cell? ⟨w1.heap.size, 0, none⟩ = some (.int .i64 (numR a0)) := by go_simp
  have d1 : (w1.alloc (.cells #[.int .i64 (numR a0), .int .i64 (numR a1), .int .u8 0, .int .i64 0, .int .i64 0, .int .i64 0, .string ⟨#[]⟩, .string ⟨#[]⟩, .int .i64 0, .int .i64 0, .int .i64 0, .int .i64 0, .int .i64 0, .int .i64 0] 28)).drew.cell? ⟨w1.heap.size, 1, none⟩ = some (.int .i64 (numR a1)) := by go_simp
  have d2 : (w1.alloc (.cells #[.int .i64 (numR a0), .int .i64 (numR a1), .int .u8 0, .int .i64 0, .int .i64 0, .int .i64 0, .string ⟨#[]⟩, .string ⟨#[]⟩, .int .i64 0, .int .i64 0, .int .i64 0, .int .i64 0, .int .i64 0, .int .i64 0] 28)).drew.cell? ⟨w1.heap.size, 2, none⟩ = some (.int .u8 0) := by go_simp
  have d3 : (w1.alloc (.cells #[.int .i64 (numR a0), .int .i64 (numR a1), .int .u8 0, .int .i64 0, .int .i64 0, .int .i64 0, .string ⟨#[]⟩, .string ⟨#[]⟩, .int .i64 0, .int .i64 0, .int .i64 0, .int .i64 0, .int .i64 0, .int .i64 0] 28)).drew.cell? ⟨w1.heap.size, 3, none⟩ = some (.int .i64 0) := by go_simp
  have d4 : (w1.alloc (.cells #[.int .i64 (numR a0), .int .i64 (numR a1), .int .u8 0, .int .i64 0, .int .i64 0, .int .i64 0, .string ⟨#[]⟩, .string ⟨#[]⟩, .int .i64 0, .int .i64 0, .int .i64 0, .int .i64 0, .int .i64 0, .int .i64 0] 28)).drew.cell? ⟨w1.heap.size, 4, none⟩ = some (.int .i64 0) := by go_simp
  have d5 : (w1.alloc (.cells #[.int .i64 (numR a0), .int .i64 (numR a1), .int .u8 0, .int .i64 0, .int .i64 0, .int .i64 0, .string ⟨#[]⟩, .string ⟨#[]⟩, .int .i64 0, .int .i64 0, .int .i64 0, .int .i64 0, .int .i64 0, .int .i64 0] 28)).drew.cell? ⟨w1.heap.size, 5, none⟩ = some (.int .i64 0) := by go_simp
  have d6 : (w1.alloc (.cells #[.int .i64 (numR a0), .int .i64 (numR a1), .int .u8 0, .int .i64 0, .int .i64 0, .int .i64 0, .string ⟨#[]⟩, .string ⟨#[]⟩, .int .i64 0, .int .i64 0, .int .i64 0, .int .i64 0, .int .i64 0, .int .i64 0] 28)).drew.cell? ⟨w1.heap.size, 6, none⟩ = some (.string ⟨#[]⟩) := by go_simp
  have d7 : (w1.alloc (.cells #[.int .i64 (numR a0), .int .i64 (numR a1), .int .u8 0, .int .i64 0, .int .i64 0, .int .i64 0, .string ⟨#[]⟩, .string ⟨#[]⟩, .int .i64 0, .int .i64 0, .int .i64 0, .int .i64 0, .int .i64 0, .int .i64 0] 28)).drew.cell? ⟨w1.heap.size, 7, none⟩ = some (.string ⟨#[]⟩) := by go_simp
  have d8 : (w1.alloc (.cells #[.int .i64 (numR a0), .int .i64 (numR a1), .int .u8 0, .int .i64 0, .int .i64 0, .int .i64 0, .string ⟨#[]⟩, .string ⟨#[]⟩, .int .i64 0, .int .i64 0, .int .i64 0, .int .i64 0, .int .i64 0, .int .i64 0] 28)).drew.cell? ⟨w1.heap.size, 8, none⟩ = some (.int .i64 0) := by go_simp
  have d9 : (w1.alloc (.cells #[.int .i64 (numR a0), .int .i64 (numR a1), .int .u8 0, .int .i64 0, .int .i64 0, .int .i64 0, .string ⟨#[]⟩, .string ⟨#[]⟩, .int .i64 0, .int .i64 0, .int .i64 0, .int .i64 0, .int .i64 0, .int .i64 0] 28)).drew.cell? ⟨w1.heap.size, 9, none⟩ = some (.int .i64 0) := by go_simp
  have d10 : (w1.alloc (.cells #[.int .i64 (numR a0), .int .i64 (numR a1), .int .u8 0, .int .i64 0, .int .i64 0, .int .i64 0, .string ⟨#[]⟩, .string ⟨#[]⟩, .int .i64 0, .int .i64 0, .int .i64 0, .int .i64 0, .int .i64 0, .int .i64 0] 28)).drew.cell? ⟨w1.heap.size, 10, none⟩ = some (.int .i64 0) := by go_simp
  have d11 : (w1.alloc (.cells #[.int .i64 (numR a0), .int .i64 (numR a1), .int .u8 0, .int .i64 0, .int .i64 0, .int .i64 0, .string ⟨#[]⟩, .string ⟨#[]⟩, .int .i64 0, .int .i64 0, .int .i64 0, .int .i64 0, .int .i64 0, .int .i64 0] 28)).drew.cell? ⟨w1.heap.size, 11, none⟩ = some (.int .i64 0) := by go_simp
  have d12 : (w1.alloc (.cells #[.int .i64 (numR a0), .int .i64 (numR a1), .int .u8 0, .int .i64 0, .int .i64 0, .int .i64 0, .string ⟨#[]⟩, .string ⟨#[]⟩, .int .i64 0, .int .i64 0, .int .i64 0, .int .i64 0, .int .i64 0, .int .i64 0] 28)).drew.cell? ⟨w1.heap.size, 12, none⟩ = some (.int .i64 0) := by go_simp
  have d13 : (w1.alloc (.cells #[.int .i64 (numR a0), .int .i64 (numR a1), .int .u8 0, .int .i64 0, .int .i64 0, .int .i64 0, .string ⟨#[]⟩, .string ⟨#[]⟩, .int .i64 0, .int .i64 0, .int .i64 0, .int .i64 0, .int .i64 0, .int .i64 0] 28)).drew.cell? ⟨w1.heap.size, 13, none⟩ = some (.int .i64 0) := by go_simp
  have s0 := (World.cell?_of_block (w := w1) (a := ⟨b, off, none⟩) (hh _ hbd)).trans r0
  have s1 := (World.cell?_of_block (w := w1) (a := ⟨b, off + 1, none⟩) (hh _ hbd)).trans r1
  have s2 := (World.cell?_of_block (w := w1) (a := ⟨b, off + 2, none⟩) (hh _ hbd)).trans r2
  have s3 := (World.cell?_of_block (w := w1) (a := ⟨b, off + 3, none⟩) (hh _ hbd)).trans r3
  have s4 := (World.cell?_of_block (w := w1) (a := ⟨b, off + 4, none⟩) (hh _ hbd)).trans r4
  have s5 := (World.cell?_of_block (w := w1) (a := ⟨b, off + 5, none⟩) (hh _ hbd)).trans r5
  have s6 := (World.cell?_of_block (w := w1) (a := ⟨b, off + 6, none⟩) (hh _ hbd)).trans r6
  have s7 := (World.cell?_of_block (w := w1) (a := ⟨b, off + 7, none⟩) (hh _ hbd)).trans r7
  have s8 := (World.cell?_of_block (w := w1) (a := ⟨b, off + 8, none⟩) (hh _ hbd)).trans r8
  have s9 := (World.cell?_of_block (w := w1) (a := ⟨b, off + 9, none⟩) (hh _ hbd)).trans r9
  have s10 := (World.cell?_of_block (w := w1) (a := ⟨b, off + 10, none⟩) (hh _ hbd)).trans r10
  have s11 := (World.cell?_of_block (w := w1) (a := ⟨b, off + 11, none⟩) (hh _ hbd)).trans r11
  clear r0 r1 r2 r3 r4 r5 r6 r7 r8 r9 r10 r11 HB1 PZ FZ hh
  generalize (w1.alloc (.cells #[.int .i64 (numR a0), .int .i64 (numR a1), .int .u8 0, .int .i64 0, .int .i64 0, .int .i64 0, .string ⟨#[]⟩, .string ⟨#[]⟩, .int .i64 0, .int .i64 0, .int .i64 0, .int .i64 0, .int .i64 0, .int .i64 0] 28)).drew = W2 at *
  generalize w1.heap.size = B2 at *
  have HB2' := HB2.out.size
  have hltB : B2 < W2.heap.size := cell_lt d0
  go_wp2_with fail
  refine (NumberR_any _ _ y3).mono ?_
  rintro e w' ⟨rfl, rfl⟩
  go_wp2_with fail
  refine (NumberR_any _ _ y4).mono ?_
  rintro e w' ⟨rfl, rfl⟩
  go_wp2_with fail
  refine (NumberR_any _ _ y5).mono ?_
  rintro e w' ⟨rfl, rfl⟩
  go_wp2_with fail
  have f0 : ((((((W2.setCell ⟨B2, 2, none⟩ (.int .u8 1)).setCell ⟨B2, 3, none⟩ (.int .i64 (numR a3))).setCell ⟨B2, 4, none⟩ (.int .i64 (numR a4))).setCell ⟨B2, 5, none⟩ (.int .i64 (numR a5))).setCell ⟨B2, 6, none⟩ (.string a6)).setCell ⟨B2, 7, none⟩ (.string a7)).cell? ⟨B2, 0, none⟩ = some (.int .i64 (numR a0)) := by go_simp
  have f1 : ((((((W2.setCell ⟨B2, 2, none⟩ (.int .u8 1)).setCell ⟨B2, 3, none⟩ (.int .i64 (numR a3))).setCell ⟨B2, 4, none⟩ (.int .i64 (numR a4))).setCell ⟨B2, 5, none⟩ (.int .i64 (numR a5))).setCell ⟨B2, 6, none⟩ (.string a6)).setCell ⟨B2, 7, none⟩ (.string a7)).cell? ⟨B2, 1, none⟩ = some (.int .i64 (numR a1)) := by go_simp
  have f2 : ((((((W2.setCell ⟨B2, 2, none⟩ (.int .u8 1)).setCell ⟨B2, 3, none⟩ (.int .i64 (numR a3))).setCell ⟨B2, 4, none⟩ (.int .i64 (numR a4))).setCell ⟨B2, 5, none⟩ (.int .i64 (numR a5))).setCell ⟨B2, 6, none⟩ (.string a6)).setCell ⟨B2, 7, none⟩ (.string a7)).cell? ⟨B2, 2, none⟩ = some (.int .u8 1) := by go_simp
  have f3 : ((((((W2.setCell ⟨B2, 2, none⟩ (.int .u8 1)).setCell ⟨B2, 3, none⟩ (.int .i64 (numR a3))).setCell ⟨B2, 4, none⟩ (.int .i64 (numR a4))).setCell ⟨B2, 5, none⟩ (.int .i64 (numR a5))).setCell ⟨B2, 6, none⟩ (.string a6)).setCell ⟨B2, 7, none⟩ (.string a7)).cell? ⟨B2, 3, none⟩ = some (.int .i64 (numR a3)) := by go_simp
  have f4 : ((((((W2.setCell ⟨B2, 2, none⟩ (.int .u8 1)).setCell ⟨B2, 3, none⟩ (.int .i64 (numR a3))).setCell ⟨B2, 4, none⟩ (.int .i64 (numR a4))).setCell ⟨B2, 5, none⟩ (.int .i64 (numR a5))).setCell ⟨B2, 6, none⟩ (.string a6)).setCell ⟨B2, 7, none⟩ (.string a7)).cell? ⟨B2, 4, none⟩ = some (.int .i64 (numR a4)) := by go_simp
  have f5 : ((((((W2.setCell ⟨B2, 2, none⟩ (.int .u8 1)).setCell ⟨B2, 3, none⟩ (.int .i64 (numR a3))).setCell ⟨B2, 4, none⟩ (.int .i64 (numR a4))).setCell ⟨B2, 5, none⟩ (.int .i64 (numR a5))).setCell ⟨B2, 6, none⟩ (.string a6)).setCell ⟨B2, 7, none⟩ (.string a7)).cell? ⟨B2, 5, none⟩ = some (.int .i64 (numR a5)) := by go_simp
  have f6 : ((((((W2.setCell ⟨B2, 2, none⟩ (.int .u8 1)).setCell ⟨B2, 3, none⟩ (.int .i64 (numR a3))).setCell ⟨B2, 4, none⟩ (.int .i64 (numR a4))).setCell ⟨B2, 5, none⟩ (.int .i64 (numR a5))).setCell ⟨B2, 6, none⟩ (.string a6)).setCell ⟨B2, 7, none⟩ (.string a7)).cell? ⟨B2, 6, none⟩ = some (.string a6) := by go_simp
  have f7 : ((((((W2.setCell ⟨B2, 2, none⟩ (.int .u8 1)).setCell ⟨B2, 3, none⟩ (.int .i64 (numR a3))).setCell ⟨B2, 4, none⟩ (.int .i64 (numR a4))).setCell ⟨B2, 5, none⟩ (.int .i64 (numR a5))).setCell ⟨B2, 6, none⟩ (.string a6)).setCell ⟨B2, 7, none⟩ (.string a7)).cell? ⟨B2, 7, none⟩ = some (.string a7) := by go_simp
  have f8 : ((((((W2.setCell ⟨B2, 2, none⟩ (.int .u8 1)).setCell ⟨B2, 3, none⟩ (.int .i64 (numR a3))).setCell ⟨B2, 4, none⟩ (.int .i64 (numR a4))).setCell ⟨B2, 5, none⟩ (.int .i64 (numR a5))).setCell ⟨B2, 6, none⟩ (.string a6)).setCell ⟨B2, 7, none⟩ (.string a7)).cell? ⟨B2, 8, none⟩ = some (.int .i64 0) := by go_simp
  have f9 : ((((((W2.setCell ⟨B2, 2, none⟩ (.int .u8 1)).setCell ⟨B2, 3, none⟩ (.int .i64 (numR a3))).setCell ⟨B2, 4, none⟩ (.int .i64 (numR a4))).setCell ⟨B2, 5, none⟩ (.int .i64 (numR a5))).setCell ⟨B2, 6, none⟩ (.string a6)).setCell ⟨B2, 7, none⟩ (.string a7)).cell? ⟨B2, 9, none⟩ = some (.int .i64 0) := by go_simp
  have f10 : ((((((W2.setCell ⟨B2, 2, none⟩ (.int .u8 1)).setCell ⟨B2, 3, none⟩ (.int .i64 (numR a3))).setCell ⟨B2, 4, none⟩ (.int .i64 (numR a4))).setCell ⟨B2, 5, none⟩ (.int .i64 (numR a5))).setCell ⟨B2, 6, none⟩ (.string a6)).setCell ⟨B2, 7, none⟩ (.string a7)).cell? ⟨B2, 10, none⟩ = some (.int .i64 0) := by go_simp
  have f11 : ((((((W2.setCell ⟨B2, 2, none⟩ (.int .u8 1)).setCell ⟨B2, 3, none⟩ (.int .i64 (numR a3))).setCell ⟨B2, 4, none⟩ (.int .i64 (numR a4))).setCell ⟨B2, 5, none⟩ (.int .i64 (numR a5))).setCell ⟨B2, 6, none⟩ (.string a6)).setCell ⟨B2, 7, none⟩ (.string a7)).cell? ⟨B2, 11, none⟩ = some (.int .i64 0) := by go_simp
  have f12 : ((((((W2.setCell ⟨B2, 2, none⟩ (.int .u8 1)).setCell ⟨B2, 3, none⟩ (.int .i64 (numR a3))).setCell ⟨B2, 4, none⟩ (.int .i64 (numR a4))).setCell ⟨B2, 5, none⟩ (.int .i64 (numR a5))).setCell ⟨B2, 6, none⟩ (.string a6)).setCell ⟨B2, 7, none⟩ (.string a7)).cell? ⟨B2, 12, none⟩ = some (.int .i64 0) := by go_simp
  have f13 : ((((((W2.setCell ⟨B2, 2, none⟩ (.int .u8 1)).setCell ⟨B2, 3, none⟩ (.int .i64 (numR a3))).setCell ⟨B2, 4, none⟩ (.int .i64 (numR a4))).setCell ⟨B2, 5, none⟩ (.int .i64 (numR a5))).setCell ⟨B2, 6, none⟩ (.string a6)).setCell ⟨B2, 7, none⟩ (.string a7)).cell? ⟨B2, 13, none⟩ = some (.int .i64 0) := by go_simp
  have hh3 : ∀ k, k ≠ B2 → ((((((W2.setCell ⟨B2, 2, none⟩ (.int .u8 1)).setCell ⟨B2, 3, none⟩ (.int .i64 (numR a3))).setCell ⟨B2, 4, none⟩ (.int .i64 (numR a4))).setCell ⟨B2, 5, none⟩ (.int .i64 (numR a5))).setCell ⟨B2, 6, none⟩ (.string a6)).setCell ⟨B2, 7, none⟩ (.string a7)).heap[k]? = W2.heap[k]? := fun k hk => by
    exact ((Below.heap_setCell _ _ _ k hk).trans ((Below.heap_setCell _ _ _ k hk).trans ((Below.heap_setCell _ _ _ k hk).trans ((Below.heap_setCell _ _ _ k hk).trans ((Below.heap_setCell _ _ _ k hk).trans ((Below.heap_setCell _ _ _ k hk).trans rfl))))))
  have PZ3 := Lib.hid (PZ2.out.of_heap (hh3 _ hne2))
  have FZ3 : ∀ i, ((((((W2.setCell ⟨B2, 2, none⟩ (.int .u8 1)).setCell ⟨B2, 3, none⟩ (.int .i64 (numR a3))).setCell ⟨B2, 4, none⟩ (.int .i64 (numR a4))).setCell ⟨B2, 5, none⟩ (.int .i64 (numR a5))).setCell ⟨B2, 6, none⟩ (.string a6)).setCell ⟨B2, 7, none⟩ (.string a7)).frozen? ⟨w.heap.size, i, none⟩ = false := fun i => (World.frozen?_of_block (w := W2) (a := ⟨w.heap.size, i, none⟩) (hh3 _ hne2)).trans (FZ2 i)
  have FX3 : ∀ i, ((((((W2.setCell ⟨B2, 2, none⟩ (.int .u8 1)).setCell ⟨B2, 3, none⟩ (.int .i64 (numR a3))).setCell ⟨B2, 4, none⟩ (.int .i64 (numR a4))).setCell ⟨B2, 5, none⟩ (.int .i64 (numR a5))).setCell ⟨B2, 6, none⟩ (.string a6)).setCell ⟨B2, 7, none⟩ (.string a7)).frozen? ⟨B2, i, none⟩ = false := fun i => by
    show ((((((W2.setCell ⟨B2, 2, none⟩ (.int .u8 1)).setCell ⟨B2, 3, none⟩ (.int .i64 (numR a3))).setCell ⟨B2, 4, none⟩ (.int .i64 (numR a4))).setCell ⟨B2, 5, none⟩ (.int .i64 (numR a5))).setCell ⟨B2, 6, none⟩ (.string a6)).setCell ⟨B2, 7, none⟩ (.string a7)).frozen? _ = false
    simp only [World.frozen?_setCell]
    exact FX i
  have HB3 : Hid (Below w.heap.size w ((((((W2.setCell ⟨B2, 2, none⟩ (.int .u8 1)).setCell ⟨B2, 3, none⟩ (.int .i64 (numR a3))).setCell ⟨B2, 4, none⟩ (.int .i64 (numR a4))).setCell ⟨B2, 5, none⟩ (.int .i64 (numR a5))).setCell ⟨B2, 6, none⟩ (.string a6)).setCell ⟨B2, 7, none⟩ (.string a7))) := ((((((HB2.out.setCell (by show w.heap.size ≤ B2; exact hB1) _).setCell (by show w.heap.size ≤ B2; exact hB1) _).setCell (by show w.heap.size ≤ B2; exact hB1) _).setCell (by show w.heap.size ≤ B2; exact hB1) _).setCell (by show w.heap.size ≤ B2; exact hB1) _).setCell (by show w.heap.size ≤ B2; exact hB1) _)
  have t8 := (World.cell?_of_block (w := W2) (a := ⟨b, off + 8, none⟩) (hh3 _ hne)).trans s8
  have t9 := (World.cell?_of_block (w := W2) (a := ⟨b, off + 9, none⟩) (hh3 _ hne)).trans s9
  have t10 := (World.cell?_of_block (w := W2) (a := ⟨b, off + 10, none⟩) (hh3 _ hne)).trans s10
  have t11 := (World.cell?_of_block (w := W2) (a := ⟨b, off + 11, none⟩) (hh3 _ hne)).trans s11
  clear d0 d1 d2 d3 d4 d5 d6 d7 d8 d9 d10 d11 d12 d13 FX FZ2 hh3 PZ2 HB2 HB2' hltB s0 s1 s2 s3 s4 s5 s6 s7 s8 s9 s10 s11
  generalize ((((((W2.setCell ⟨B2, 2, none⟩ (.int .u8 1)).setCell ⟨B2, 3, none⟩ (.int .i64 (numR a3))).setCell ⟨B2, 4, none⟩ (.int .i64 (numR a4))).setCell ⟨B2, 5, none⟩ (.int .i64 (numR a5))).setCell ⟨B2, 6, none⟩ (.string a6)).setCell ⟨B2, 7, none⟩ (.string a7)) = W5 at *
  have hltB : B2 < W5.heap.size := cell_lt f0
  have PZ2 := PZ3
  have FZ2 := FZ3
  have FX := FX3
  have HB2 := HB3
  have HB2' := HB2.out.size
  clear PZ3 FZ3 FX3 HB3
  have d0 := f0
  have d1 := f1
  have d2 := f2
  have d3 := f3
  have d4 := f4
  have d5 := f5
  have d6 := f6
  have d7 := f7
  have d8 := f8
  have d9 := f9
  have d10 := f10
  have d11 := f11
  have d12 := f12
  have d13 := f13
  clear f0 f1 f2 f3 f4 f5 f6 f7 f8 f9 f10 f11 f12 f13
  have s8 := t8
  have s9 := t9
  have s10 := t10
  have s11 := t11
  clear t8 t9 t10 t11
  refine wp_region_still_tail 10 (by kernel_rfl) (by kernel_rfl) ?_
  simp only [List.take_succ_cons, List.take_zero, List.drop_succ_cons, List.drop_zero]
  repeat still_step
  still_call ((NumberR_any _ _ y8).mono fun _ _ h => ⟨h.1, h.2.symm⟩)
  repeat still_step
  still_call ((NumberR_any _ _ y9).mono fun _ _ h => ⟨h.1, h.2.symm⟩)
  repeat still_step
  refine wpStill_nil ?_
  change wpList _ _ _ _ _ (World.drew _)
  go_wp2_with fail
  refine (NumberR_any _ _ y10).mono ?_
  rintro e w' ⟨rfl, rfl⟩
  go_wp2_with fail
  refine (NumberR_any _ _ y11).mono ?_
  rintro e w' ⟨rfl, rfl⟩
  go_wp2_with fail
  have f0 : ((((W5.setCell ⟨B2, 8, none⟩ (.int .i64 (numR a8))).setCell ⟨B2, 9, none⟩ (.int .i64 (numR a9))).setCell ⟨B2, 10, none⟩ (.int .i64 (numR a10))).setCell ⟨B2, 11, none⟩ (.int .i64 (numR a11))).drew.cell? ⟨B2, 0, none⟩ = some (.int .i64 (numR a0)) := by go_simp
  have f1 : ((((W5.setCell ⟨B2, 8, none⟩ (.int .i64 (numR a8))).setCell ⟨B2, 9, none⟩ (.int .i64 (numR a9))).setCell ⟨B2, 10, none⟩ (.int .i64 (numR a10))).setCell ⟨B2, 11, none⟩ (.int .i64 (numR a11))).drew.cell? ⟨B2, 1, none⟩ = some (.int .i64 (numR a1)) := by go_simp
  have f2 : ((((W5.setCell ⟨B2, 8, none⟩ (.int .i64 (numR a8))).setCell ⟨B2, 9, none⟩ (.int .i64 (numR a9))).setCell ⟨B2, 10, none⟩ (.int .i64 (numR a10))).setCell ⟨B2, 11, none⟩ (.int .i64 (numR a11))).drew.cell? ⟨B2, 2, none⟩ = some (.int .u8 1) := by go_simp
  have f3 : ((((W5.setCell ⟨B2, 8, none⟩ (.int .i64 (numR a8))).setCell ⟨B2, 9, none⟩ (.int .i64 (numR a9))).setCell ⟨B2, 10, none⟩ (.int .i64 (numR a10))).setCell ⟨B2, 11, none⟩ (.int .i64 (numR a11))).drew.cell? ⟨B2, 3, none⟩ = some (.int .i64 (numR a3)) := by go_simp
  have f4 : ((((W5.setCell ⟨B2, 8, none⟩ (.int .i64 (numR a8))).setCell ⟨B2, 9, none⟩ (.int .i64 (numR a9))).setCell ⟨B2, 10, none⟩ (.int .i64 (numR a10))).setCell ⟨B2, 11, none⟩ (.int .i64 (numR a11))).drew.cell? ⟨B2, 4, none⟩ = some (.int .i64 (numR a4)) := by go_simp
  have f5 : ((((W5.setCell ⟨B2, 8, none⟩ (.int .i64 (numR a8))).setCell ⟨B2, 9, none⟩ (.int .i64 (numR a9))).setCell ⟨B2, 10, none⟩ (.int .i64 (numR a10))).setCell ⟨B2, 11, none⟩ (.int .i64 (numR a11))).drew.cell? ⟨B2, 5, none⟩ = some (.int .i64 (numR a5)) := by go_simp
  have f6 : ((((W5.setCell ⟨B2, 8, none⟩ (.int .i64 (numR a8))).setCell ⟨B2, 9, none⟩ (.int .i64 (numR a9))).setCell ⟨B2, 10, none⟩ (.int .i64 (numR a10))).setCell ⟨B2, 11, none⟩ (.int .i64 (numR a11))).drew.cell? ⟨B2, 6, none⟩ = some (.string a6) := by go_simp
  have f7 : ((((W5.setCell ⟨B2, 8, none⟩ (.int .i64 (numR a8))).setCell ⟨B2, 9, none⟩ (.int .i64 (numR a9))).setCell ⟨B2, 10, none⟩ (.int .i64 (numR a10))).setCell ⟨B2, 11, none⟩ (.int .i64 (numR a11))).drew.cell? ⟨B2, 7, none⟩ = some (.string a7) := by go_simp
  have f8 : ((((W5.setCell ⟨B2, 8, none⟩ (.int .i64 (numR a8))).setCell ⟨B2, 9, none⟩ (.int .i64 (numR a9))).setCell ⟨B2, 10, none⟩ (.int .i64 (numR a10))).setCell ⟨B2, 11, none⟩ (.int .i64 (numR a11))).drew.cell? ⟨B2, 8, none⟩ = some (.int .i64 (numR a8)) := by go_simp
  have f9 : ((((W5.setCell ⟨B2, 8, none⟩ (.int .i64 (numR a8))).setCell ⟨B2, 9, none⟩ (.int .i64 (numR a9))).setCell ⟨B2, 10, none⟩ (.int .i64 (numR a10))).setCell ⟨B2, 11, none⟩ (.int .i64 (numR a11))).drew.cell? ⟨B2, 9, none⟩ = some (.int .i64 (numR a9)) := by go_simp
  have f10 : ((((W5.setCell ⟨B2, 8, none⟩ (.int .i64 (numR a8))).setCell ⟨B2, 9, none⟩ (.int .i64 (numR a9))).setCell ⟨B2, 10, none⟩ (.int .i64 (numR a10))).setCell ⟨B2, 11, none⟩ (.int .i64 (numR a11))).drew.cell? ⟨B2, 10, none⟩ = some (.int .i64 (numR a10)) := by go_simp
  have f11 : ((((W5.setCell ⟨B2, 8, none⟩ (.int .i64 (numR a8))).setCell ⟨B2, 9, none⟩ (.int .i64 (numR a9))).setCell ⟨B2, 10, none⟩ (.int .i64 (numR a10))).setCell ⟨B2, 11, none⟩ (.int .i64 (numR a11))).drew.cell? ⟨B2, 11, none⟩ = some (.int .i64 (numR a11)) := by go_simp
  have f12 : ((((W5.setCell ⟨B2, 8, none⟩ (.int .i64 (numR a8))).setCell ⟨B2, 9, none⟩ (.int .i64 (numR a9))).setCell ⟨B2, 10, none⟩ (.int .i64 (numR a10))).setCell ⟨B2, 11, none⟩ (.int .i64 (numR a11))).drew.cell? ⟨B2, 12, none⟩ = some (.int .i64 0) := by go_simp
  have f13 : ((((W5.setCell ⟨B2, 8, none⟩ (.int .i64 (numR a8))).setCell ⟨B2, 9, none⟩ (.int .i64 (numR a9))).setCell ⟨B2, 10, none⟩ (.int .i64 (numR a10))).setCell ⟨B2, 11, none⟩ (.int .i64 (numR a11))).drew.cell? ⟨B2, 13, none⟩ = some (.int .i64 0) := by go_simp
  have hh3 : ∀ k, k ≠ B2 → ((((W5.setCell ⟨B2, 8, none⟩ (.int .i64 (numR a8))).setCell ⟨B2, 9, none⟩ (.int .i64 (numR a9))).setCell ⟨B2, 10, none⟩ (.int .i64 (numR a10))).setCell ⟨B2, 11, none⟩ (.int .i64 (numR a11))).drew.heap[k]? = W5.heap[k]? := fun k hk => by
    exact ((Below.heap_setCell _ _ _ k hk).trans ((Below.heap_setCell _ _ _ k hk).trans ((Below.heap_setCell _ _ _ k hk).trans ((Below.heap_setCell _ _ _ k hk).trans rfl))))
  have PZ3 := Lib.hid (PZ2.out.of_heap (hh3 _ hne2))
  have FZ3 : ∀ i, ((((W5.setCell ⟨B2, 8, none⟩ (.int .i64 (numR a8))).setCell ⟨B2, 9, none⟩ (.int .i64 (numR a9))).setCell ⟨B2, 10, none⟩ (.int .i64 (numR a10))).setCell ⟨B2, 11, none⟩ (.int .i64 (numR a11))).drew.frozen? ⟨w.heap.size, i, none⟩ = false := fun i => (World.frozen?_of_block (w := W5) (a := ⟨w.heap.size, i, none⟩) (hh3 _ hne2)).trans (FZ2 i)
  have FX3 : ∀ i, ((((W5.setCell ⟨B2, 8, none⟩ (.int .i64 (numR a8))).setCell ⟨B2, 9, none⟩ (.int .i64 (numR a9))).setCell ⟨B2, 10, none⟩ (.int .i64 (numR a10))).setCell ⟨B2, 11, none⟩ (.int .i64 (numR a11))).drew.frozen? ⟨B2, i, none⟩ = false := fun i => by
    show ((((W5.setCell ⟨B2, 8, none⟩ (.int .i64 (numR a8))).setCell ⟨B2, 9, none⟩ (.int .i64 (numR a9))).setCell ⟨B2, 10, none⟩ (.int .i64 (numR a10))).setCell ⟨B2, 11, none⟩ (.int .i64 (numR a11))).frozen? _ = false
    simp only [World.frozen?_setCell]
    exact FX i
  have HB3 : Hid (Below w.heap.size w ((((W5.setCell ⟨B2, 8, none⟩ (.int .i64 (numR a8))).setCell ⟨B2, 9, none⟩ (.int .i64 (numR a9))).setCell ⟨B2, 10, none⟩ (.int .i64 (numR a10))).setCell ⟨B2, 11, none⟩ (.int .i64 (numR a11))).drew) := ((((HB2.out.setCell (by show w.heap.size ≤ B2; exact hB1) _).setCell (by show w.heap.size ≤ B2; exact hB1) _).setCell (by show w.heap.size ≤ B2; exact hB1) _).setCell (by show w.heap.size ≤ B2; exact hB1) _).drew
  clear d0 d1 d2 d3 d4 d5 d6 d7 d8 d9 d10 d11 d12 d13 FX FZ2 hh3 PZ2 HB2 HB2' hltB s8 s9 s10 s11
  generalize ((((W5.setCell ⟨B2, 8, none⟩ (.int .i64 (numR a8))).setCell ⟨B2, 9, none⟩ (.int .i64 (numR a9))).setCell ⟨B2, 10, none⟩ (.int .i64 (numR a10))).setCell ⟨B2, 11, none⟩ (.int .i64 (numR a11))).drew = W3 at *
  have hltB : B2 < W3.heap.size := cell_lt f0
  have PZ2 := PZ3
  have FZ2 := FZ3
  have FX := FX3
  have HB2 := HB3
  have HB2' := HB2.out.size
  clear PZ3 FZ3 FX3 HB3
  have d0 := f0
  have d1 := f1
  have d2 := f2
  have d3 := f3
  have d4 := f4
  have d5 := f5
  have d6 := f6
  have d7 := f7
  have d8 := f8
  have d9 := f9
  have d10 := f10
  have d11 := f11
  have d12 := f12
  have d13 := f13
  clear f0 f1 f2 f3 f4 f5 f6 f7 f8 f9 f10 f11 f12 f13
  refine (HW.out _).mono ?_
  rintro e w9 ⟨rfl, hb9⟩
  have PZ9 := Lib.hid (PZ2.out.of_heap (hb9.block _ (cell_lt (w := W3) (a := ⟨w.heap.size, 0, none⟩) PZ2.out.1)))
  have FZ9 : ∀ i, w9.frozen? ⟨w.heap.size, i, none⟩ = false := fun i => (World.frozen?_of_block (w := W3) (a := ⟨w.heap.size, i, none⟩) (hb9.block _ (cell_lt (w := W3) (a := ⟨w.heap.size, 0, none⟩) PZ2.out.1))).trans (FZ2 i)
  have HB9 := Lib.hid (keepB HB2.out hb9)
  replace d0 := keepS hb9 hltB d0
  replace d1 := keepS hb9 hltB d1
  replace d2 := keepS hb9 hltB d2
  replace d3 := keepS hb9 hltB d3
  replace d4 := keepS hb9 hltB d4
  replace d5 := keepS hb9 hltB d5
  replace d6 := keepS hb9 hltB d6
  replace d7 := keepS hb9 hltB d7
  replace d8 := keepS hb9 hltB d8
  replace d9 := keepS hb9 hltB d9
  replace d10 := keepS hb9 hltB d10
  replace d11 := keepS hb9 hltB d11
  replace d12 := keepS hb9 hltB d12
  replace d13 := keepS hb9 hltB d13
  have q := PZ9.out
  obtain ⟨p0, p1, p2, p3, p4, p5, p6, p7, p8, p9, p10, p11, p12, p13⟩ := q
  simp only [Paper.zero] at p0 p1 p2 p3 p4 p5 p6 p7 p8 p9 p10 p11 p12 p13
  clear PZ2 FZ2 FX HB2 HB2' hb9 hltB HW hl1 hB1
  rcases hwp with rfl | rfl
  · by_cases hls : l = s
    · subst hls
      have hE : Hid (readRP l = (⟨(numR a0), (numR a1), 1, (numR a3), (numR a4), (numR a5), a6, a7, (numR a8), (numR a9), (numR a10), (numR a11), 0, 0⟩, 0)) := by show _ = _; rw [HR2.out, if_pos ⟨rfl, rfl⟩]
      clear HR2
      go_wp2_with fail
      refine bodyPost_ret (results_paper rfl _ _ w.heap.size ⟨(numR a0), (numR a1), 1, (numR a3), (numR a4), (numR a5), a6, a7, (numR a8), (numR a9), (numR a10), (numR a11), 0, 0⟩ rfl (set14 w9 _ ⟨(numR a0), (numR a1), 1, (numR a3), (numR a4), (numR a5), a6, a7, (numR a8), (numR a9), (numR a10), (numR a11), 0, 0⟩ Paper.zero PZ9.out)) rfl ?_
      exact ⟨by rw [hE.out]; rfl, set14_below _ (Nat.le_refl _) ⟨(numR a0), (numR a1), 1, (numR a3), (numR a4), (numR a5), a6, a7, (numR a8), (numR a9), (numR a10), (numR a11), 0, 0⟩ HB9.out⟩
    · have hne9 : (l.toList == s.toList) = false := (Lib.bytes_beq_false_iff _ _).2 hls
      have hE : Hid (readRP s = (Paper.zero, 4)) := by show _ = _; rw [HR2.out, if_neg (fun h => hls h.2)]
      clear HR2
      go_wp2_with fail
      refine bodyPost_ret (results_paper rfl _ _ w.heap.size Paper.zero rfl (set14 w9 _ Paper.zero Paper.zero PZ9.out)) rfl ?_
      exact ⟨by rw [hE.out]; rfl, set14_below _ (Nat.le_refl _) Paper.zero HB9.out⟩
  · have hE : Hid (readRP s = (Paper.zero, 4)) := by show _ = _; rw [HR2.out, if_neg (fun h => absurd h.1 (by decide))]
    clear HR2
    go_wp2_with fail
    refine bodyPost_ret (results_paper rfl _ _ w.heap.size Paper.zero rfl (set14 w9 _ Paper.zero Paper.zero PZ9.out)) rfl ?_
    exact ⟨by rw [hE.out]; rfl, set14_below _ (Nat.le_refl _) Paper.zero HB9.out⟩

set_option maxRecDepth 100000 in
set_option maxHeartbeats 4000000 in
theorem ReadR_bad (s : ByteArray) (w : World) (hs : s.size ≤ 5000) (h4 : (wordsR s).length ≠ 4) (h8 : (wordsR s).length ≠ 8) (h12 : (wordsR s).length ≠ 12) :
    Calls Tryz.prog 27 #[.string s] w fun e w' => e = .returned (.tuple #[.agg (readRP s).1.vals.toArray, .int .i64 (readRP s).2]) ∧ Below w.heap.size w w' := by
  have hB0 : Below w.heap.size w (w.alloc (.cells #[.int .i64 0, .int .i64 0, .int .u8 0, .int .i64 0, .int .i64 0, .int .i64 0, .string ⟨#[]⟩, .string ⟨#[]⟩, .int .i64 0, .int .i64 0, .int .i64 0, .int .i64 0, .int .i64 0, .int .i64 0] 28)) := (Below.refl _ w).alloc (Nat.le_refl _) _
  have hz : ∀ i u, Paper.zero.vals[i]? = some u → (w.alloc (.cells #[.int .i64 0, .int .i64 0, .int .u8 0, .int .i64 0, .int .i64 0, .int .i64 0, .string ⟨#[]⟩, .string ⟨#[]⟩, .int .i64 0, .int .i64 0, .int .i64 0, .int .i64 0, .int .i64 0, .int .i64 0] 28)).cell? ⟨w.heap.size, 0 + i, none⟩ = some u := fun i u hu => by
    rw [Nat.zero_add, World.cell?_alloc_new, ← hu]; simp [Paper.vals, Paper.zero]
  have z0 : ∀ i, (w.alloc (.cells #[.int .i64 0, .int .i64 0, .int .u8 0, .int .i64 0, .int .i64 0, .int .i64 0, .string ⟨#[]⟩, .string ⟨#[]⟩, .int .i64 0, .int .i64 0, .int .i64 0, .int .i64 0, .int .i64 0, .int .i64 0] 28)).frozen? ⟨w.heap.size, i, none⟩ = false := fun i => by go_simp
  have hlt0 : w.heap.size < (w.alloc (.cells #[.int .i64 0, .int .i64 0, .int .u8 0, .int .i64 0, .int .i64 0, .int .i64 0, .string ⟨#[]⟩, .string ⟨#[]⟩, .int .i64 0, .int .i64 0, .int .i64 0, .int .i64 0, .int .i64 0, .int .i64 0] 28)).heap.size := by simp
  have HWd := Lib.hid (WordsR_any s (w.alloc (.cells #[.int .i64 0, .int .i64 0, .int .u8 0, .int .i64 0, .int .i64 0, .int .i64 0, .string ⟨#[]⟩, .string ⟨#[]⟩, .int .i64 0, .int .i64 0, .int .i64 0, .int .i64 0, .int .i64 0, .int .i64 0] 28)) (by omega))
  have HR : Hid (readRP s = (Paper.zero, 4)) := by
    show _ = _
    unfold readRP candR
    simp only [if_neg h4, if_neg h8, if_neg h12]
  generalize wordsR s = ws at *
  have k4 : (((ws.length : Nat) : Int) != 4) = true := by rw [bne_iff_ne]; omega
  have k8 : (((ws.length : Nat) : Int) != 8) = true := by rw [bne_iff_ne]; omega
  have k12 : (((ws.length : Nat) : Int) != 12) = true := by rw [bne_iff_ne]; omega
  clear h4 h8 h12
  go_enter Tryz.func27, Tryz.ntmps27
  go_wp2_with fail
  refine HWd.out.mono ?_
  rintro e w1 ⟨v, rfl, hrows, hb1⟩
  obtain ⟨ad, c, rfl, g1, g2, g3⟩ := hrows
  have HB1 := Lib.hid (hB0.trans (hb1.mono hB0.size))
  obtain ⟨c0, c1, c2, c3, c4, c5, c6, c7, c8, c9, c10, c11, c12, c13⟩ := paper_cells (w := w1) (b := w.heap.size) (o := 0) Paper.zero (fun i u hu => (hb1.cell (p := ⟨w.heap.size, 0 + i, none⟩) hlt0).trans (hz i u hu))
  have PZ := Lib.hid (show PaperIn w1 w.heap.size Paper.zero from ⟨c0, c1, c2, c3, c4, c5, c6, c7, c8, c9, c10, c11, c12, c13⟩)
  have FZ : ∀ i, w1.frozen? ⟨w.heap.size, i, none⟩ = false := fun i => (hb1.frozen (p := ⟨w.heap.size, i, none⟩) hlt0).trans (z0 i)
  simp only [Nat.zero_add, Paper.zero] at c0 c1 c2 c3 c4 c5 c6 c7 c8 c9 c10 c11 c12 c13
  clear hb1 hB0 hz z0 hlt0 HWd g3
  go_wp2_with fail
  refine bodyPost_ret (results_paper rfl _ _ w.heap.size Paper.zero rfl (set14 w1 _ Paper.zero Paper.zero PZ.out)) rfl ?_
  exact ⟨by rw [HR.out]; rfl, set14_below _ (Nat.le_refl _) Paper.zero HB1.out⟩

theorem ReadR_any (s : ByteArray) (w : World) (hs : s.size ≤ 5000) :
    Calls Tryz.prog 27 #[.string s] w fun e w' => e = .returned (.tuple #[.agg (readRP s).1.vals.toArray, .int .i64 (readRP s).2]) ∧ Below w.heap.size w w' := by
  by_cases h4 : (wordsR s).length = 4
  · exact ReadR_4 s w hs h4
  by_cases h8 : (wordsR s).length = 8
  · exact ReadR_8 s w hs h8
  by_cases h12 : (wordsR s).length = 12
  · exact ReadR_12 s w hs h12
  exact ReadR_bad s w hs h4 h8 h12

end Go.Proofs.YtpffpofdceppiaaGreatDoor
