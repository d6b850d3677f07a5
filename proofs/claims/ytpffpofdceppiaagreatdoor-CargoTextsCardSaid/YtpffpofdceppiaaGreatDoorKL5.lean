/- A part of the proof that laganlaw01.CargoTexts answers true at every input and leaves its arguments as they were; the conditions are those of the given row and card, nothing else. -/
import Derived.Test.YtpffpofdceppiaaGreatDoorKR6
import Derived.Test.YtpffpofdceppiaaGreatDoorKP7
import Derived.Lib.SplitLaws
import Derived.Lib.AtoiTie
set_option linter.unusedSimpArgs false
set_option linter.unusedVariables false
namespace Go.Proofs.YtpffpofdceppiaaGreatDoor
open Go.RowKit Go.Shelf

theorem splitK_cut : ∀ l : List UInt8, Lib.splitK [32] 0 (Lib.count l [32]) l = cutW l
  | [] => rfl
  | c :: l => by
    have ih := splitK_cut l
    by_cases hc : c = 32
    · subst hc
      rw [Lib.count_cons_eq, Nat.add_comm]
      have hi : Lib.index ((32 : UInt8) :: l) [32] = 0 := by simp [Lib.index, List.isPrefixOf]
      show (if Lib.index ((32 : UInt8) :: l) [32] == -1 then _ else _) = _
      rw [hi]
      rw [if_neg (by decide)]
      show _ = if (32 : UInt8) = 32 then [] :: cutW l else _
      rw [if_pos rfl, ← ih]
      rfl
    · rw [Lib.count_cons_ne c 32 l hc]
      have hcut : cutW (c :: l) = match cutW l with | [] => [[c]] | h :: t => (c :: h) :: t := if_neg hc
      rw [hcut, ← ih]
      cases hk : Lib.count l [32] with
      | zero => rfl
      | succ k =>
        have hne : ¬ (Lib.index l [32] == -1) = true := fun e => by
          have := Lib.count_miss (beq_iff_eq.1 e)
          omega
        obtain ⟨i, hi⟩ : ∃ i : Nat, Lib.index l [32] = i := ⟨(Lib.index l [32]).toNat, by
          have := Lib.index_ge l [32]
          have : ¬ Lib.index l [32] = -1 := fun e => hne (beq_iff_eq.2 e)
          omega⟩
        have hi' : Lib.index (c :: l) [32] = (i : Int) + 1 := by
          show (if [32].isPrefixOf (c :: l) then _ else _) = _
          rw [if_neg (by simp [List.isPrefixOf]; exact fun e => hc e.symm), if_neg hne, hi]
        show (if Lib.index (c :: l) [32] == -1 then _ else _) = match (if Lib.index l [32] == -1 then _ else _ : List (List UInt8)) with | [] => [[c]] | h :: t => (c :: h) :: t
        rw [hi, hi', if_neg (by rw [beq_iff_eq]; omega), if_neg (by rw [beq_iff_eq]; omega)]
        have e1 : ((i : Int) + 1).toNat = i + 1 := by omega
        rw [e1]
        show (c :: l).take (i + 1 + 0) :: Lib.splitK [32] 0 k ((c :: l).drop (i + 1 + 1)) = (c :: l.take (i + 0)) :: Lib.splitK [32] 0 k (l.drop (i + 1))
        rfl

theorem cutW_join : ∀ ws : List (List UInt8), ws ≠ [] → (∀ a ∈ ws, ∀ c ∈ a, c ≠ 32) → cutW (Lib.join ws [32]) = ws
  | [], h, _ => absurd rfl h
  | [a], _, h => by rw [Lib.join_one]; exact cutW_free a (h a List.mem_cons_self)
  | a :: b :: ws, _, h => by
    have e : Lib.join (a :: b :: ws) [32] = a ++ 32 :: Lib.join (b :: ws) [32] := by
      simp [Lib.join, List.intercalate, List.intersperse]
    rw [e, cutW_at a _ (h a List.mem_cons_self), cutW_join (b :: ws) (by simp) (fun x hx => h x (List.mem_cons_of_mem _ hx))]

theorem dec_digits : ∀ (n : Nat), ∀ c ∈ Lib.decDigits n, 48 ≤ c.toNat ∧ c.toNat ≤ 57 := by
  intro n
  induction n using Nat.strongRecOn with
  | ind n ih =>
    intro c hc
    rw [Lib.decDigits] at hc
    split at hc
    · rename_i h
      rw [List.mem_singleton] at hc
      subst hc
      simp; omega
    · rename_i h
      rw [List.mem_append] at hc
      rcases hc with hc | hc
      · exact ih (n / 10) (by omega) c hc
      · rw [List.mem_singleton] at hc
        subst hc
        simp; omega

theorem decFrom_append (a : List UInt8) : ∀ (acc : Nat) (b : List UInt8), Lib.decFrom acc (a ++ b) = (Lib.decFrom acc a).bind fun m => Lib.decFrom m b := by
  induction a with
  | nil => intro acc b; rfl
  | cons c a ih =>
    intro acc b
    rw [List.cons_append]
    show (match Lib.digitVal c with | some d => Lib.decFrom (acc * 10 + d) (a ++ b) | none => none) = (match Lib.digitVal c with | some d => Lib.decFrom (acc * 10 + d) a | none => none).bind _
    cases Lib.digitVal c with
    | none => rfl
    | some d => exact ih _ b

theorem decFrom_dec : ∀ n : Nat, Lib.decFrom 0 (Lib.decDigits n) = some n := by
  intro n
  induction n using Nat.strongRecOn with
  | ind n ih =>
    rw [Lib.decDigits]
    split
    · rename_i h
      have : (UInt8.ofNat (48 + n)).toNat = 48 + n := by simp; omega
      simp only [Lib.decFrom, Lib.digitVal, this]
      rw [if_pos (by omega)]
      simp
    · rename_i h
      rw [decFrom_append, ih (n / 10) (by omega)]
      have : (UInt8.ofNat (48 + n % 10)).toNat = 48 + n % 10 := by simp; omega
      simp only [Option.bind_some, Lib.decFrom, Lib.digitVal, this]
      rw [if_pos (by omega)]
      simp; omega

theorem dec_ne_nil (n : Nat) : Lib.decDigits n ≠ [] := by
  intro h
  have := Lib.decDigits_length n
  rw [h] at this
  have h1 := Lib.nDigits_pos n
  simp at this
  omega

theorem nDigits_le : ∀ (k n : Nat), n < 10 ^ (k + 1) → Lib.nDigits n ≤ k + 1
  | 0, n, h => by rw [Lib.nDigits_small (by simpa using h)]; exact Nat.le_refl _
  | k + 1, n, h => by
    by_cases h10 : n < 10
    · rw [Lib.nDigits_small h10]; omega
    · have h1 := nDigits_le k (n / 10) (by rw [Nat.pow_succ] at h; omega)
      rw [Lib.nDigits_big h10]
      omega

theorem dec_len {n : Nat} (h : n ≤ 1000000000) : (Lib.decDigits n).length ≤ 10 := by
  rw [Lib.decDigits_length]
  exact nDigits_le 9 n (by omega)

theorem atoi_dec {n : Nat} (h : n ≤ 1000000000) : Lib.atoiAll (Lib.decDigits n) = .ok (n : Int) := by
  have hl := dec_len h
  rw [Lib.atoiAll_short _ (by omega)]
  cases hd : Lib.decDigits n with
  | nil => exact absurd hd (dec_ne_nil n)
  | cons c r =>
    have hm := dec_digits n c (by rw [hd]; exact List.mem_cons_self)
    have h45 : ¬ c = 45 := by intro e; subst e; simp at hm
    have h43 : ¬ c = 43 := by intro e; subst e; simp at hm
    have hf := decFrom_dec n
    rw [hd] at hf
    simp [Lib.atoi, h45, h43, Lib.decNat, hf, Lib.NumEnd.ofOption]

theorem fold_dec : ∀ n : Nat, (Lib.decDigits n).foldl (fun n c => 10 * n + ((c.toNat : Nat) : Int) - 48) (0 : Int) = (n : Int) := by
  intro n
  induction n using Nat.strongRecOn with
  | ind n ih =>
    rw [Lib.decDigits]
    split
    · rename_i h
      have : (UInt8.ofNat (48 + n)).toNat = 48 + n := by simp; omega
      simp only [List.foldl, this]
      omega
    · rename_i h
      have : (UInt8.ofNat (48 + n % 10)).toNat = 48 + n % 10 := by simp; omega
      rw [List.foldl_append, ih (n / 10) (by omega)]
      simp only [List.foldl, this]
      omega

theorem numR_dec {n : Nat} (h : n ≤ 1000000000) : numR ⟨(Lib.decDigits n).toArray⟩ = (n : Int) := by
  have hs : (⟨(Lib.decDigits n).toArray⟩ : ByteArray).size = (Lib.decDigits n).length := by show (Lib.decDigits n).toArray.size = _; simp
  have hl := dec_len h
  unfold numR
  have hall : (⟨(Lib.decDigits n).toArray⟩ : ByteArray).data.toList.all okDig = true := by
    show (Lib.decDigits n).all okDig = true
    rw [List.all_eq_true]
    intro c hc
    have := dec_digits n c hc
    unfold okDig
    rw [decide_eq_true (by omega), decide_eq_true (by omega)]
    rfl
  rw [if_pos ⟨by rw [hs]; omega, hall⟩]
  unfold numTo
  rw [hs]
  show ((Lib.decDigits n).take _).foldl _ _ = _
  rw [List.take_length, fold_dec]

theorem wordsOf_eq (s : ByteArray) : wordsOf s = wordsR s := by
  have h := Lib.splitB_data ⟨#[32]⟩ 0 (Lib.countB s ⟨#[32]⟩) s
  have e : Lib.splitK (⟨#[32]⟩ : ByteArray).data.toList 0 (Lib.countB s ⟨#[32]⟩) s.data.toList = cutW s.data.toList := splitK_cut s.data.toList
  rw [e] at h
  unfold wordsR
  rw [← h, List.map_map]
  have : (bw ∘ fun x : ByteArray => x.data.toList) = id := by funext x; rfl
  rw [this, List.map_id]
  rfl

/-- The words of a paper's line. -/
def wsP (x : Paper) : List (List UInt8) :=
  if x.kind = 1 then [Lib.itoa x.id, Lib.itoa x.known, pkB.data.toList, Lib.itoa x.loss, Lib.itoa x.pack, Lib.itoa x.inn, x.mark.data.toList, x.goods.data.toList, Lib.itoa x.lo, Lib.itoa x.hi, Lib.itoa x.pieces, Lib.itoa x.owner]
  else if x.kind = 2 then [Lib.itoa x.id, Lib.itoa x.known, ttB.data.toList, Lib.itoa x.loss, Lib.itoa x.pack, Lib.itoa x.count, Lib.itoa x.lo, Lib.itoa x.hi]
  else [Lib.itoa x.id, Lib.itoa x.known, vvB.data.toList, Lib.itoa x.of]

theorem join_two (a b : List UInt8) (l : List (List UInt8)) : Lib.join (a :: b :: l) [32] = a ++ 32 :: Lib.join (b :: l) [32] := by
  simp [Lib.join, List.intercalate, List.intersperse]

theorem writeB_words (x : Paper) : (writeB x).data.toList = Lib.join (wsP x) [32] := by
  have h32 : sp.data.toList = [32] := rfl
  have hbs : ∀ l, (bs l).data.toList = l := fun l => rfl
  unfold writeB wsP
  split
  · rename_i hk
    simp only [headB, kindB, hk, if_pos, ByteArray.data_append, Array.toList_append, hbs, h32, rowS, List.map, join_two, Lib.join_one, List.append_assoc, List.cons_append, List.nil_append]
  · rename_i h1
    split
    · rename_i hk
      simp only [headB, kindB, hk, if_pos, ByteArray.data_append, Array.toList_append, hbs, h32, rowS, List.map, join_two, Lib.join_one, List.append_assoc, List.cons_append, List.nil_append]
      rfl
    · rename_i h2
      simp only [headB, kindB, if_neg h1, if_neg h2, ByteArray.data_append, Array.toList_append, hbs, h32, rowS, List.map, join_two, Lib.join_one, List.append_assoc, List.cons_append, List.nil_append]

theorem itoa_nn {n : Int} (h : 0 ≤ n) : Lib.itoa n = Lib.decDigits n.toNat := by unfold Lib.itoa; rw [if_neg (by omega)]
theorem itoa_free {n : Int} (h : 0 ≤ n) : ∀ c ∈ Lib.itoa n, c ≠ 32 := by
  rw [itoa_nn h]
  intro c hc e
  have := dec_digits _ c hc
  subst e
  simp at this
theorem numW_itoa {n : Int} (h : 0 ≤ n) (h2 : n ≤ 1000000000) : numW (some (bw (Lib.itoa n))) = some n := by
  rw [itoa_nn h]
  have h1 := atoi_dec (n := n.toNat) (by omega)
  show (match Lib.atoiAll (Lib.decDigits n.toNat) with | .ok v => some v | _ => none) = _
  rw [h1]
  show some ((n.toNat : Nat) : Int) = _
  congr 1
  omega
theorem numR_itoa {n : Int} (h : 0 ≤ n) (h2 : n ≤ 1000000000) : numR (bw (Lib.itoa n)) = n := by
  rw [itoa_nn h]
  have h1 := numR_dec (n := n.toNat) (by omega)
  show numR ⟨(Lib.decDigits n.toNat).toArray⟩ = _
  rw [h1]
  omega
theorem bw_data (b : ByteArray) : bw b.data.toList = b := rfl
theorem okMark_free {c : UInt8} (h : okMark c = true) : c ≠ 32 := by rintro rfl; revert h; decide
theorem okName_free {c : UInt8} (h : okName c = true) : c ≠ 32 := by rintro rfl; revert h; decide
theorem mark_free {s : ByteArray} (h : isMark s = true) : ∀ c ∈ s.data.toList, c ≠ 32 := by
  unfold isMark at h
  rw [Bool.and_eq_true, List.all_eq_true] at h
  exact fun c hc => okMark_free (h.1 c hc)
theorem name_free {s : ByteArray} (h : isName s = true) : ∀ c ∈ s.data.toList, c ≠ 32 := by
  unfold isName at h
  rw [Bool.and_eq_true, List.all_eq_true] at h
  exact fun c hc => okName_free (h.2 c hc)
theorem pk_free : ∀ c ∈ pkB.data.toList, c ≠ 32 := by decide
theorem tt_free : ∀ c ∈ ttB.data.toList, c ≠ 32 := by decide
theorem vv_free : ∀ c ∈ vvB.data.toList, c ≠ 32 := by decide

theorem formed_shape (x : Paper) (h : formed x = true) :
    (x.kind = 1 ∧ isMark x.mark = true ∧ isName x.goods = true ∧ x.count = 0 ∧ x.of = 0) ∨
    (x.kind = 2 ∧ x.inn = 0 ∧ x.mark = ⟨#[]⟩ ∧ x.goods = ⟨#[]⟩ ∧ x.pieces = 0 ∧ x.owner = 0 ∧ x.of = 0) ∨
    (x.kind = 3 ∧ x.loss = 0 ∧ x.pack = 0 ∧ x.inn = 0 ∧ x.mark = ⟨#[]⟩ ∧ x.goods = ⟨#[]⟩ ∧ x.lo = 0 ∧ x.hi = 0 ∧ x.pieces = 0 ∧ x.owner = 0 ∧ x.count = 0) := by
  unfold formed at h
  rw [Bool.and_eq_true] at h
  obtain ⟨_, h3⟩ := h
  split at h3
  · rename_i hk
    rw [Bool.and_eq_true, decide_eq_true_eq] at h3
    obtain ⟨h4, h5⟩ := h3
    have e1 := congrArg Paper.count h5
    have e2 := congrArg Paper.of h5
    simp only [formed1, Bool.and_eq_true] at h4
    exact .inl ⟨hk, h4.1.1.1.1.2, h4.1.1.1.2, e1, e2⟩
  · split at h3
    · rename_i hk
      rw [Bool.and_eq_true, decide_eq_true_eq] at h3
      obtain ⟨h4, h5⟩ := h3
      exact .inr (.inl ⟨hk, congrArg Paper.inn h5, congrArg Paper.mark h5, congrArg Paper.goods h5, congrArg Paper.pieces h5, congrArg Paper.owner h5, congrArg Paper.of h5⟩)
    · split at h3
      · rename_i hk
        rw [Bool.and_eq_true, decide_eq_true_eq] at h3
        obtain ⟨h4, h5⟩ := h3
        exact .inr (.inr ⟨hk, congrArg Paper.loss h5, congrArg Paper.pack h5, congrArg Paper.inn h5, congrArg Paper.mark h5, congrArg Paper.goods h5, congrArg Paper.lo h5, congrArg Paper.hi h5, congrArg Paper.pieces h5, congrArg Paper.owner h5, congrArg Paper.count h5⟩)
      · cases h3

theorem wsP_free (x : Paper) (h : formed x = true) : ∀ a ∈ wsP x, ∀ c ∈ a, c ≠ 32 := by
  have hi := formed_ids x h
  have hb := formed_bounds x h
  have hs := formed_shape x h
  have F : ∀ n : Int, 0 ≤ n → ∀ c ∈ Lib.itoa n, c ≠ 32 := fun n hn => itoa_free hn
  unfold wsP
  split
  · rename_i hk
    have hs1 : isMark x.mark = true ∧ isName x.goods = true := by
      rcases hs with ⟨_, h1, h2, _⟩ | ⟨h0, _⟩ | ⟨h0, _⟩
      · exact ⟨h1, h2⟩
      · omega
      · omega
    intro a ha
    simp only [List.mem_cons, List.not_mem_nil, or_false] at ha
    rcases ha with rfl | rfl | rfl | rfl | rfl | rfl | rfl | rfl | rfl | rfl | rfl | rfl
    all_goals first | exact pk_free | exact mark_free hs1.1 | exact name_free hs1.2 | exact F _ (by omega)
  · split
    · intro a ha
      simp only [List.mem_cons, List.not_mem_nil, or_false] at ha
      rcases ha with rfl | rfl | rfl | rfl | rfl | rfl | rfl | rfl
      all_goals first | exact tt_free | exact F _ (by omega)
    · intro a ha
      simp only [List.mem_cons, List.not_mem_nil, or_false] at ha
      rcases ha with rfl | rfl | rfl | rfl
      all_goals first | exact vv_free | exact F _ (by omega)

theorem words_write (x : Paper) (h : formed x = true) : wordsR (writeB x) = (wsP x).map bw := by
  unfold wordsR
  rw [writeB_words, cutW_join _ (by unfold wsP; split <;> (try split) <;> simp) (wsP_free x h)]

/-- What the reference takes a line to mean. -/
def candR (ws : List ByteArray) : Option Paper :=
  let n := fun i => numR (ws.getD i ⟨#[]⟩)
  if ws.length = 4 then some ⟨n 0, n 1, 3, 0, 0, 0, ⟨#[]⟩, ⟨#[]⟩, 0, 0, 0, 0, 0, n 3⟩
  else if ws.length = 8 then some ⟨n 0, n 1, 2, n 3, n 4, 0, ⟨#[]⟩, ⟨#[]⟩, n 6, n 7, 0, 0, n 5, 0⟩
  else if ws.length = 12 then some ⟨n 0, n 1, 1, n 3, n 4, n 5, ws.getD 6 ⟨#[]⟩, ws.getD 7 ⟨#[]⟩, n 8, n 9, n 10, n 11, 0, 0⟩
  else none

/-- What the reference reads out of a line. -/
def readRP (s : ByteArray) : Paper × Int :=
  match candR (wordsR s) with
  | none => (Paper.zero, 4)
  | some x => if (writeP x).2 = 0 ∧ (writeP x).1 = s then (x, 0) else (Paper.zero, 4)

theorem kind_pk : kindOf pkB = 1 := by decide
theorem kind_tt : kindOf ttB = 2 := by decide
theorem kind_vv : kindOf vvB = 3 := by decide

theorem parse_write (x : Paper) (h : formed x = true) : parseW (wordsR (writeB x)) = some x := by
  have hids := formed_ids x h
  have hb := formed_bounds x h
  have hs := formed_shape x h
  rw [words_write x h]
  have F : ∀ n : Int, 0 ≤ n → n ≤ 10000000 → numW (some (bw (Lib.itoa n))) = some n := fun n h1 h2 => numW_itoa h1 (by omega)
  obtain ⟨id, known, kind, loss, pack, inn, mark, goods, lo, hi, pieces, owner, count, of⟩ := x
  simp only at hs hb hids
  rcases hs with ⟨rfl, h1, h2, rfl, rfl⟩ | ⟨rfl, rfl, rfl, rfl, rfl, rfl, rfl⟩ | ⟨rfl, rfl, rfl, rfl, rfl, rfl, rfl, rfl, rfl, rfl, rfl⟩
  · unfold wsP parseW
    simp only [if_pos, List.map, List.getElem?_cons_zero, List.getElem?_cons_succ]
    rw [F id (by omega) (by omega), F known (by omega) (by omega)]
    simp only [Option.bind_some, bw_data, kind_pk, if_pos]
    rw [F loss (by omega) (by omega), F pack (by omega) (by omega), F inn (by omega) (by omega), F lo (by omega) (by omega), F hi (by omega) (by omega), F pieces (by omega) (by omega), F owner (by omega) (by omega)]
    rfl
  · unfold wsP parseW
    simp only [show ¬ (2 : Int) = 1 by decide, if_neg, if_pos, not_false_eq_true, List.map, List.getElem?_cons_zero, List.getElem?_cons_succ]
    rw [F id (by omega) (by omega), F known (by omega) (by omega)]
    simp only [Option.bind_some, bw_data, kind_tt, show ¬ (2 : Int) = 1 by decide, if_neg, if_pos, not_false_eq_true]
    rw [F loss (by omega) (by omega), F pack (by omega) (by omega), F count (by omega) (by omega), F lo (by omega) (by omega), F hi (by omega) (by omega)]
    rfl
  · unfold wsP parseW
    simp only [show ¬ (3 : Int) = 1 by decide, show ¬ (3 : Int) = 2 by decide, if_neg, if_pos, not_false_eq_true, List.map, List.getElem?_cons_zero, List.getElem?_cons_succ]
    rw [F id (by omega) (by omega), F known (by omega) (by omega)]
    simp only [Option.bind_some, bw_data, kind_vv, show ¬ (3 : Int) = 1 by decide, show ¬ (3 : Int) = 2 by decide, if_neg, if_pos, not_false_eq_true]
    rw [F of (by omega) (by omega)]
    rfl

theorem cand_write (x : Paper) (h : formed x = true) : candR (wordsR (writeB x)) = some x := by
  have hids := formed_ids x h
  have hb := formed_bounds x h
  have hs := formed_shape x h
  rw [words_write x h]
  have F : ∀ n : Int, 0 ≤ n → n ≤ 10000000 → numR (bw (Lib.itoa n)) = n := fun n h1 h2 => numR_itoa h1 (by omega)
  obtain ⟨id, known, kind, loss, pack, inn, mark, goods, lo, hi, pieces, owner, count, of⟩ := x
  simp only at hs hb hids
  rcases hs with ⟨rfl, h1, h2, rfl, rfl⟩ | ⟨rfl, rfl, rfl, rfl, rfl, rfl, rfl⟩ | ⟨rfl, rfl, rfl, rfl, rfl, rfl, rfl, rfl, rfl, rfl, rfl⟩
  · unfold wsP candR
    simp only [if_pos, List.map, List.length_cons, List.length_nil, List.getD_cons_zero, List.getD_cons_succ, bw_data, Nat.reduceAdd, Nat.reduceEqDiff, if_neg, not_false_eq_true]
    rw [F id (by omega) (by omega), F known (by omega) (by omega), F loss (by omega) (by omega), F pack (by omega) (by omega), F inn (by omega) (by omega), F lo (by omega) (by omega), F hi (by omega) (by omega), F pieces (by omega) (by omega), F owner (by omega) (by omega)]
  · unfold wsP candR
    simp only [show ¬ (2 : Int) = 1 by decide, if_pos, List.map, List.length_cons, List.length_nil, List.getD_cons_zero, List.getD_cons_succ, bw_data, Nat.reduceAdd, Nat.reduceEqDiff, if_neg, not_false_eq_true]
    rw [F id (by omega) (by omega), F known (by omega) (by omega), F loss (by omega) (by omega), F pack (by omega) (by omega), F count (by omega) (by omega), F lo (by omega) (by omega), F hi (by omega) (by omega)]
  · unfold wsP candR
    simp only [show ¬ (3 : Int) = 1 by decide, show ¬ (3 : Int) = 2 by decide, if_pos, List.map, List.length_cons, List.length_nil, List.getD_cons_zero, List.getD_cons_succ, bw_data, Nat.reduceAdd, Nat.reduceEqDiff, if_neg, not_false_eq_true]
    rw [F id (by omega) (by omega), F known (by omega) (by omega), F of (by omega) (by omega)]

theorem writeP_good {x : Paper} {s : ByteArray} (h : (writeP x).2 = 0 ∧ (writeP x).1 = s) : formed x = true ∧ writeB x = s := by
  obtain ⟨h1, h2⟩ := h
  unfold writeP at h1 h2
  split at h1
  · rename_i hf
    rw [if_pos hf] at h2
    exact ⟨hf, h2⟩
  · cases h1

theorem writeP_formed {x : Paper} (h : formed x = true) : writeP x = (writeB x, 0) := by unfold writeP; rw [if_pos h]

theorem readP_of {x : Paper} (h : formed x = true) : readP (writeB x) = (x, 0) := by
  unfold readP
  rw [wordsOf_eq, parse_write x h]
  simp only [writeP_formed h]
  rw [if_pos ⟨trivial, trivial⟩]
theorem readRP_of {x : Paper} (h : formed x = true) : readRP (writeB x) = (x, 0) := by
  unfold readRP
  rw [cand_write x h]
  simp only [writeP_formed h]
  rw [if_pos ⟨trivial, trivial⟩]

theorem readP_cases (s : ByteArray) : (∃ x, formed x = true ∧ writeB x = s ∧ readP s = (x, 0)) ∨ ((∀ x, formed x = true → writeB x ≠ s) ∧ readP s = (Paper.zero, 4)) := by
  by_cases h : ∃ x, formed x = true ∧ writeB x = s
  · obtain ⟨x, h1, h2⟩ := h
    exact .inl ⟨x, h1, h2, by rw [← h2, readP_of h1]⟩
  · refine .inr ⟨fun x h1 h2 => h ⟨x, h1, h2⟩, ?_⟩
    unfold readP
    split
    · rfl
    · rename_i x hx
      rw [if_neg (fun hg => h ⟨x, writeP_good hg⟩)]

/-- Both read the same. -/
theorem readRP_eq (s : ByteArray) : readRP s = readP s := by
  rcases readP_cases s with ⟨x, h1, h2, h3⟩ | ⟨h1, h2⟩
  · rw [h3, ← h2, readRP_of h1]
  · rw [h2]
    unfold readRP
    split
    · rfl
    · rename_i x hx
      rw [if_neg (fun hg => h1 x (writeP_good hg).1 (writeP_good hg).2)]

theorem readP_back {s : ByteArray} (h : (readP s).2 = 0) : writeP (readP s).1 = (s, 0) := by
  rcases readP_cases s with ⟨x, h1, h2, h3⟩ | ⟨h1, h2⟩
  · rw [h3, writeP_formed h1, h2]
  · rw [h2] at h; cases h

end Go.Proofs.YtpffpofdceppiaaGreatDoor
