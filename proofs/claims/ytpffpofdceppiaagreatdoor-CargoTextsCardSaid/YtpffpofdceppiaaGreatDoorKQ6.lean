/- A part of the proof that laganlaw01.CargoTexts answers true at every input and leaves its arguments as they were; the conditions are those of the given row and card, nothing else. -/
import Derived.Test.YtpffpofdceppiaaGreatDoorKQ2
import Derived.Carry
import Derived.Test.YtpffpofdceppiaaGreatDoorKQ5
import Derived.ChangeArms
set_option linter.unusedSimpArgs false
set_option linter.unusedVariables false
namespace Go.Proofs.YtpffpofdceppiaaGreatDoor
open Go.RowKit Go.Shelf Go.ChangeShapes Go.WideShapes Go.ChangeAt Go.ChangeMaps

theorem c3 : Tryz.prog.cellsOf 3 = 1 := by kernel_rfl
theorem c5 : Tryz.prog.cellsOf 5 = 1 := by kernel_rfl
theorem c9 : Tryz.prog.cellsOf 9 = 1 := by kernel_rfl
theorem c26 : Tryz.prog.cellsOf 26 = 2 := by kernel_rfl
theorem c28 : Tryz.prog.cellsOf 28 = 14 := by kernel_rfl

section
variable {H : Type} {enc : TypeId × Value → H} {w : World} {base : Nat} {sp : Nat → Bool} {held : Bool}

theorem int_at {n : Nat} {c : Value} {o : Option (DataW H × List MemPlace)} (h : DataW.trod enc Tryz.prog w base sp held n 3 [c] = o) (ho : o.isSome = true) : ∃ k : Int, c = .int .i64 k := by
  obtain ⟨y, rfl⟩ := Option.isSome_iff_exists.1 ho
  obtain ⟨k, e, _⟩ := DataW.trod_int Tryz.underlying3 h
  simp at e
  exact ⟨k, e⟩
theorem byte_at {n : Nat} {c : Value} {o : Option (DataW H × List MemPlace)} (h : DataW.trod enc Tryz.prog w base sp held n 5 [c] = o) (ho : o.isSome = true) : ∃ k : Int, c = .int .u8 k := by
  obtain ⟨y, rfl⟩ := Option.isSome_iff_exists.1 ho
  obtain ⟨k, e, _⟩ := DataW.trod_int Tryz.underlying5 h
  simp at e
  exact ⟨k, e⟩
theorem string_at {n : Nat} {c : Value} {o : Option (DataW H × List MemPlace)} (h : DataW.trod enc Tryz.prog w base sp held n 9 [c] = o) (ho : o.isSome = true) : ∃ s : ByteArray, c = .string s ∧ s.size ≤ maxLen := by
  obtain ⟨y, rfl⟩ := Option.isSome_iff_exists.1 ho
  obtain ⟨s, e, _, hs⟩ := DataW.trod_string Tryz.underlying9 h
  simp at e
  exact ⟨s, e, hs⟩
theorem span_at {n : Nat} {c d : Value} {o : Option (DataW H × List MemPlace)} (h : DataW.trod enc Tryz.prog w base sp held n 26 [c, d] = o) (ho : o.isSome = true) : ∃ k l : Int, c = .int .i64 k ∧ d = .int .i64 l := by
  obtain ⟨y, rfl⟩ := Option.isSome_iff_exists.1 ho
  obtain ⟨xs, m, rfl, _, hl, hx, hf⟩ := DataW.trod_struct Tryz.underlying26 h
  have h0 := hf 0 _ rfl
  have h1 := hf 1 _ rfl
  simp [c3] at h0 h1 hx
  obtain ⟨k, e0⟩ := int_at h0 (by rw [List.getElem?_eq_getElem (by omega)]; rfl)
  obtain ⟨l, e1⟩ := int_at h1 (by rw [List.getElem?_eq_getElem (by omega)]; rfl)
  exact ⟨k, l, e0, e1⟩

theorem len14 {α : Type} (l : List α) (h : l.length = 14) : ∃ a0 a1 a2 a3 a4 a5 a6 a7 a8 a9 a10 a11 a12 a13, l = [a0, a1, a2, a3, a4, a5, a6, a7, a8, a9, a10, a11, a12, a13] := by
  obtain ⟨a0, l, rfl⟩ : ∃ a t, l = a :: t := by cases l with | nil => simp at h | cons a t => exact ⟨a, t, rfl⟩
  obtain ⟨a1, l, rfl⟩ : ∃ a t, l = a :: t := by cases l with | nil => simp at h | cons a t => exact ⟨a, t, rfl⟩
  obtain ⟨a2, l, rfl⟩ : ∃ a t, l = a :: t := by cases l with | nil => simp at h | cons a t => exact ⟨a, t, rfl⟩
  obtain ⟨a3, l, rfl⟩ : ∃ a t, l = a :: t := by cases l with | nil => simp at h | cons a t => exact ⟨a, t, rfl⟩
  obtain ⟨a4, l, rfl⟩ : ∃ a t, l = a :: t := by cases l with | nil => simp at h | cons a t => exact ⟨a, t, rfl⟩
  obtain ⟨a5, l, rfl⟩ : ∃ a t, l = a :: t := by cases l with | nil => simp at h | cons a t => exact ⟨a, t, rfl⟩
  obtain ⟨a6, l, rfl⟩ : ∃ a t, l = a :: t := by cases l with | nil => simp at h | cons a t => exact ⟨a, t, rfl⟩
  obtain ⟨a7, l, rfl⟩ : ∃ a t, l = a :: t := by cases l with | nil => simp at h | cons a t => exact ⟨a, t, rfl⟩
  obtain ⟨a8, l, rfl⟩ : ∃ a t, l = a :: t := by cases l with | nil => simp at h | cons a t => exact ⟨a, t, rfl⟩
  obtain ⟨a9, l, rfl⟩ : ∃ a t, l = a :: t := by cases l with | nil => simp at h | cons a t => exact ⟨a, t, rfl⟩
  obtain ⟨a10, l, rfl⟩ : ∃ a t, l = a :: t := by cases l with | nil => simp at h | cons a t => exact ⟨a, t, rfl⟩
  obtain ⟨a11, l, rfl⟩ : ∃ a t, l = a :: t := by cases l with | nil => simp at h | cons a t => exact ⟨a, t, rfl⟩
  obtain ⟨a12, l, rfl⟩ : ∃ a t, l = a :: t := by cases l with | nil => simp at h | cons a t => exact ⟨a, t, rfl⟩
  obtain ⟨a13, l, rfl⟩ : ∃ a t, l = a :: t := by cases l with | nil => simp at h | cons a t => exact ⟨a, t, rfl⟩
  have : l = [] := by cases l with | nil => rfl | cons a t => simp at h
  subst this
  exact ⟨a0, a1, a2, a3, a4, a5, a6, a7, a8, a9, a10, a11, a12, a13, rfl⟩

set_option maxRecDepth 100000 in
set_option maxRecDepth 100000 in
/-- What reads as a paper is one. -/
theorem cells_paper {fuel : Nat} {cs : List Value} {y : DataW H × List MemPlace} (h : DataW.trod enc Tryz.prog w base sp held fuel 28 cs = some y) : ∃ x : Paper, cs = x.vals ∧ x.mark.size ≤ maxLen ∧ x.goods.size ≤ maxLen := by
  obtain ⟨xs, n, rfl, _, hl, hx, hf⟩ := DataW.trod_struct Tryz.underlying28 h
  rw [c28] at hl
  obtain ⟨a0, a1, a2, a3, a4, a5, a6, a7, a8, a9, a10, a11, a12, a13, rfl⟩ := len14 cs hl
  have h0 := hf 0 _ rfl
  have h1 := hf 1 _ rfl
  have h2 := hf 2 _ rfl
  have h3 := hf 3 _ rfl
  have h4 := hf 4 _ rfl
  have h5 := hf 5 _ rfl
  have h6 := hf 6 _ rfl
  have h7 := hf 7 _ rfl
  have h8 := hf 8 _ rfl
  have h9 := hf 9 _ rfl
  have h10 := hf 10 _ rfl
  have h11 := hf 11 _ rfl
  have h12 := hf 12 _ rfl
  simp [c3, c5, c9, c26] at h0 h1 h2 h3 h4 h5 h6 h7 h8 h9 h10 h11 h12 hx
  obtain ⟨n0, rfl⟩ := int_at h0 (by rw [List.getElem?_eq_getElem (by omega)]; rfl)
  obtain ⟨n1, rfl⟩ := int_at h1 (by rw [List.getElem?_eq_getElem (by omega)]; rfl)
  obtain ⟨n2, rfl⟩ := byte_at h2 (by rw [List.getElem?_eq_getElem (by omega)]; rfl)
  obtain ⟨n3, rfl⟩ := int_at h3 (by rw [List.getElem?_eq_getElem (by omega)]; rfl)
  obtain ⟨n4, rfl⟩ := int_at h4 (by rw [List.getElem?_eq_getElem (by omega)]; rfl)
  obtain ⟨n5, rfl⟩ := int_at h5 (by rw [List.getElem?_eq_getElem (by omega)]; rfl)
  obtain ⟨n6, rfl, z6⟩ := string_at h6 (by rw [List.getElem?_eq_getElem (by omega)]; rfl)
  obtain ⟨n7, rfl, z7⟩ := string_at h7 (by rw [List.getElem?_eq_getElem (by omega)]; rfl)
  obtain ⟨n8, n9, rfl, rfl⟩ := span_at h8 (by rw [List.getElem?_eq_getElem (by omega)]; rfl)
  obtain ⟨n10, rfl⟩ := int_at h9 (by rw [List.getElem?_eq_getElem (by omega)]; rfl)
  obtain ⟨n11, rfl⟩ := int_at h10 (by rw [List.getElem?_eq_getElem (by omega)]; rfl)
  obtain ⟨n12, rfl⟩ := int_at h11 (by rw [List.getElem?_eq_getElem (by omega)]; rfl)
  obtain ⟨n13, rfl⟩ := int_at h12 (by rw [List.getElem?_eq_getElem (by omega)]; rfl)
  exact ⟨⟨n0, n1, n2, n3, n4, n5, n6, n7, n8, n9, n10, n11, n12, n13⟩, rfl, z6, z7⟩

set_option maxRecDepth 100000 in
/-- A paper by value. -/
theorem open_paper {r : Reach} {b0 : Nat} {v : Value} {d : DataW H} {p : List MemPlace} (hv : Value.okWide Tryz.prog w r b0 28 v) (h : DataW.Trod enc Tryz.prog w base sp held 28 v d p) : ∃ x : Paper, v = .agg x.vals.toArray ∧ x.mark.size ≤ maxLen ∧ x.goods.size ≤ maxLen := by
  obtain ⟨cs, rfl, hsz⟩ := okWide_struct Tryz.underlying28 hv
  obtain ⟨fuel, hf⟩ := h
  obtain ⟨x, e, h1, h2⟩ := cells_paper (cs := cs.toList) (by simpa [Value.cells] using hf)
  refine ⟨x, ?_, h1, h2⟩
  rw [← e]
end

set_option maxRecDepth 100000 in
theorem texts_lifted (os : Os) (started : os.Started) (H : Type) (enc : TypeId × Value → H) :
    ReturnsInHanded {} Tryz.checked os 4 .any (fun w args => (Rows.cargoTextsSpec.pre enc Tryz.prog Tryz.f4 Rows.cargoTextsRow.domain false w args ∧ laidMetH Tryz.prog LD w) ∧ sizedMet enc Tryz.prog Tryz.f4 (OpenSpec.ofChange Rows.cargoTextsSpec) false w args)
      (Rows.cargoTextsSpec.post enc Tryz.prog Tryz.f4 false true false false) := by
  refine YtpffpofdceppiaaGreatDoor_wrap (C := Tryz.checked) (X := fun w _ => laidMetH Tryz.prog LD w) (fun _ _ _ hh h => h.of_heap hh) own started (by kernel_rfl) Tryz.func4
    (ChangeSpec.witness_shaped (enc := enc) (C := Tryz.checked) (os := os) (X := fun w _ => laidMetH Tryz.prog LD w) false (World.laidAll Tryz.prog os LD) #[.agg #[.int .i64 0, .int .i64 0, .int .u8 0, .int .i64 0, .int .i64 0, .int .i64 0, .string ⟨#[]⟩, .string ⟨#[]⟩, .int .i64 0, .int .i64 0, .int .i64 0, .int .i64 0, .int .i64 0, .int .i64 0], .string ⟨#[]⟩] 8 (World.laidAll_os _ _ _)
      (door_shaped os _) (by kernel_rfl) (by kernel_rfl) (by kernel_rfl) (door_met os _)) ?_
  intro W base args ds gs before hval0 hW hc _ hL hsh _
  have hval : ∀ (j : Nat) t v, Tryz.f4.params[j]? = some t → args[j]? = some v → Value.okWide Tryz.prog W .any base t v := hval0
  have hW' := hW
  obtain ⟨p, q, hA0, hV, rfl, _, _⟩ := hW
  have hA : DataW.TrodAll enc Tryz.prog W 0 (fun _ => true) true Tryz.f4.params.toList args.toList ds p := hA0
  rw [Tryz.params4] at hA hval
  have hlt := hA.lt
  obtain ⟨v0, v1, d0, d1, p0, p1, rfl, rfl, rfl, h0, h1⟩ := trodAll_two hA
  obtain ⟨rfl, rfl⟩ := trodVars_none hV
  obtain ⟨x, rfl, m1, m2⟩ := open_paper (hval 0 28 v0 rfl rfl) h0
  obtain ⟨t, rfl, rfl, rfl, wt⟩ := open_string Tryz.underlying9 (hval 1 9 v1 rfl rfl) h1
  refine (CargoTexts_any x t W (gl_of_laid hL hsh) m1 m2 wt).mono fun e W' ⟨he, hb⟩ => ?_
  subst he
  refine ⟨_, rfl, _, _, _, [], p0 ++ [], [], hW', ?_, ?_, ?_, hb.frame _, fun h => by cases h⟩
  · exact trodAll_mk1 (shut_bool Tryz.underlying4 true)
  · exact trodAll_mk2 (Below.trod laidOut (by kernel_rfl) (of_decide_eq_true (by kernel_rfl)) h0 hb (fun z hz => hlt z (List.mem_append_left _ hz))) (shut_string Tryz.underlying9 wt)
  · rfl

end Go.Proofs.YtpffpofdceppiaaGreatDoor
