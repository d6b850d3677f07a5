/- A part of the proof that laganlaw01.CargoTexts answers true at every input and leaves its arguments as they were; the conditions are those of the given row and card, nothing else. -/
import Derived.Test.YtpffpofdceppiaaGreatDoorKP5
import Derived.Test.YtpffpofdceppiaaGreatDoorKP4
import Derived.Test.YtpffpofdceppiaaGreatDoorKO3
import Derived.Lib.SlBytesRow
import Derived.Laws.Concat
set_option linter.unusedSimpArgs false
set_option linter.unusedVariables false
namespace Go.Proofs.YtpffpofdceppiaaGreatDoor
open Go.RowKit Go.Shelf

theorem decDigits_rec {n : Nat} (h : ¬ n < 10) : Lib.decDigits n = Lib.decDigits (n / 10) ++ Lib.decDigits (n % 10) := by
  rw [Lib.decDigits, dif_neg h, Lib.decDigits_one (Nat.mod_lt n (by decide))]

def digB (n : Nat) : ByteArray := ⟨(Lib.decDigits n).toArray⟩
theorem digB_size {n : Nat} (h : n ≤ 1000000000) : (digB n).size ≤ 21 := by
  have h1 := Lib.itoa_length_le (n : Int) (by omega) (by omega)
  rw [Lib.itoa_nonneg] at h1
  show (Lib.decDigits n).toArray.size ≤ 21
  rw [List.size_toArray]
  omega
theorem digB_rec {n : Nat} (h : ¬ n < 10) : digB n = digB (n / 10) ++ digB (n % 10) := by
  unfold digB
  rw [decDigits_rec h]
  apply ByteArray.ext
  simp [ByteArray.data_append]

set_option maxRecDepth 100000 in
set_option maxHeartbeats 4000000 in
theorem DigitsR_any : ∀ (n : Nat), n ≤ 1000000000 → ∀ w : World, Calls Tryz.prog 86 #[.int .i64 (n : Int)] w fun e w' => e = .returned (.string (digB n)) ∧ Below w.heap.size w w' := by
  intro n
  induction n using Nat.strongRecOn with
  | ind n ih =>
    intro hn w
    by_cases h10 : n < 10
    · have hi : (n : Int) < 10 := by omega
      have hd : digB n = ⟨#[UInt8.ofNat (48 + n)]⟩ := by unfold digB; rw [Lib.decDigits_one h10]
      have hcv : (convert 153 9 (.slice (some ⟨w.heap.size, 0, none⟩) 1 1)).run Tryz.prog (w.alloc (.cells #[.int .u8 (48 + (n : Int))] 5)) = .ok (.string (digB n)) (w.alloc (.cells #[.int .u8 (48 + (n : Int))] 5)) := by
        rw [hd]
        refine Lib.run_convert_whole _ 153 5 9 Tryz.underlying153 Tryz.underlying5 Tryz.underlying9 w.heap.size 0 ⟨#[UInt8.ofNat (48 + n)]⟩ (fun i h => ?_) 1
        have h0 : i = 0 := by have : (⟨#[UInt8.ofNat (48 + n)]⟩ : ByteArray).size = 1 := rfl; omega
        subst h0
        rw [World.cell?_alloc_new]
        have e : (UInt8.ofNat (48 + n)).toNat = 48 + n := by simp; omega
        show some (Value.int .u8 (48 + (n : Int))) = some (.int .u8 (((UInt8.ofNat (48 + n)).toNat : Nat) : Int))
        rw [e]
        push_cast
        rfl
      clear ih hd
      go_enter Tryz.func86, Tryz.ntmps86
      go_wp2_with fail
      go_ret
      exact ⟨rfl, (Below.refl _ _).alloc (Nat.le_refl _) _⟩
    · have hi : ¬ (n : Int) < 10 := by omega
      have H1 := Lib.hid (ih (n / 10) (by omega) (by omega))
      have H2 := Lib.hid (ih (n % 10) (by omega) (by omega))
      clear ih
      rw [show ((n / 10 : Nat) : Int) = (n : Int) / 10 by omega] at H1
      rw [show ((n % 10 : Nat) : Int) = (n : Int) % 10 by omega] at H2
      have hs1 : (digB (n / 10)).size + (digB (n % 10)).size ≤ 9223372036854775807 := by
        have := digB_size (n := n / 10) (by omega)
        have := digB_size (n := n % 10) (by omega)
        omega
      have hadd := fun W => run_string_add_sum (P := Tryz.prog) W (digB (n / 10)) (digB (n % 10)) hs1
      have HR := Lib.hid (digB_rec h10)
      go_enter Tryz.func86, Tryz.ntmps86
      go_wp2_with fail
      refine (H1.out _).mono ?_
      rintro e w1 ⟨rfl, hb1⟩
      go_wp2_with fail
      refine (H2.out _).mono ?_
      rintro e w2 ⟨rfl, hb2⟩
      go_wp2_with fail
      go_ret
      exact ⟨by rw [HR.out]; rfl, hb1.trans (hb2.mono hb1.size)⟩

/-- A word, and behind it numbers. -/
def rowB (word : ByteArray) : List Nat → ByteArray
  | [] => word
  | n :: l => rowB (word ++ ⟨#[32]⟩ ++ digB n) l
theorem rowB_snoc (word : ByteArray) (l : List Nat) (n : Nat) : rowB word (l ++ [n]) = rowB word l ++ ⟨#[32]⟩ ++ digB n := by
  induction l generalizing word with
  | nil => rfl
  | cons m l ih => exact ih _
theorem rowB_size (word : ByteArray) (l : List Nat) (h : ∀ n ∈ l, n ≤ 1000000000) : (rowB word l).size ≤ word.size + 22 * l.length := by
  induction l generalizing word with
  | nil => simp [rowB]
  | cons m l ih =>
    have h1 := ih (word ++ ⟨#[32]⟩ ++ digB m) (fun n hn => h n (List.mem_cons_of_mem _ hn))
    have h2 := digB_size (h m List.mem_cons_self)
    rw [ByteArray.size_append, ByteArray.size_append] at h1
    have h3 : (⟨#[32]⟩ : ByteArray).size = 1 := rfl
    rw [List.length_cons]
    show (rowB (word ++ ⟨#[32]⟩ ++ digB m) l).size ≤ _
    omega

set_option maxRecDepth 100000 in
set_option maxHeartbeats 4000000 in
theorem RowR_any (word : ByteArray) (l : List Nat) (v : Value) (w : World) (hv : IntsAt w v (l.map Int.ofNat)) (hw : word.size ≤ 100000) (hl : l.length ≤ 1000) (hb : ∀ n ∈ l, n ≤ 1000000000) :
    Calls Tryz.prog 85 #[.string word, v] w fun e w' => e = .returned (.string (rowB word l)) ∧ Below w.heap.size w w' := by
  obtain ⟨a, c, rfl, h1, h2, h3⟩ := hv
  rw [List.length_map] at h1 ⊢
  have H3 := Lib.hid h3
  clear h3
  go_enter Tryz.func85, Tryz.ntmps85
  go_wp2_with fail
  go_loopw [0, 5] (fun s i wr => ∃ k : Nat, k ≤ l.length ∧ i = .int .i64 k ∧ s = .string (rowB word (l.take k)) ∧ Below w.heap.size w wr) (fun _ i _ => l.length - (intOf i).toNat)
  case atStart => exact ⟨0, Nat.zero_le _, rfl, rfl, Below.refl _ _⟩
  case round =>
    obtain ⟨k, hk, rfl, rfl, hbl⟩ := hrel
    by_cases hlt : k < l.length
    · obtain ⟨b, off, rfl, hlb, hcell⟩ := H3.out (by omega)
      have c0 := (hbl.cell (p := ⟨b, off + k * 1 + 0, none⟩) hlb).trans (hcell k (by rw [List.length_map]; exact hlt) 0 _ (by rw [List.getElem_map]; rfl))
      rw [Nat.mul_one, Nat.add_zero] at c0
      have hn := hb l[k] (List.getElem_mem hlt)
      have hT := rowB_snoc word (l.take k) l[k]
      rw [← List.take_succ_eq_append_getElem hlt] at hT
      have hz1 := rowB_size word (l.take k) (fun n hn => hb n (List.mem_of_mem_take hn))
      have hz2 : (l.take k).length ≤ 1000 := Nat.le_trans (List.length_take_le _ _) (by omega)
      have hD := fun W => DigitsR_any l[k] hn W
      have hz3 := digB_size hn
      have c0' : wr.cell? ⟨b, off + k, none⟩ = some (.int .i64 (l[k] : Int)) := c0
      clear c0 hcell
      generalize l[k] = n at *
      generalize rowB word (l.take k) = s at *
      have h32 : (⟨#[32]⟩ : ByteArray).size = 1 := rfl
      have a1 := fun W => run_string_add_sum (P := Tryz.prog) W s ⟨#[32]⟩ (by omega)
      have a2 := fun W => run_string_add_sum (P := Tryz.prog) W (s ++ ⟨#[32]⟩) (digB n) (by rw [ByteArray.size_append]; omega)
      have HD := Lib.hid hD
      have HT := Lib.hid hT
      have HB := Lib.hid hbl
      clear hD hT hbl hz1 hz2 hz3
      go_wp2_with fail
      refine (HD.out wr).mono ?_
      rintro e w2 ⟨rfl, hb2⟩
      have HB2 := Lib.hid (HB.out.trans (hb2.mono HB.out.size))
      clear HB hb2
      go_wp2_with fail
      go_roundw
      case rel => exact ⟨k + 1, by omega, by go_num, by rw [HT.out], HB2.out⟩
      case measure => simp [intOf]; omega
    · obtain rfl : k = l.length := by omega
      have HT : Hid (rowB word (l.take l.length) = rowB word l) := by show _ = _; rw [List.take_length]
      go_wp2_with fail
      go_ret
      exact ⟨by rw [HT.out]; rfl, hbl⟩

end Go.Proofs.YtpffpofdceppiaaGreatDoor

set_option linter.unusedSimpArgs false
set_option linter.unusedVariables false
namespace Go.Proofs.YtpffpofdceppiaaGreatDoor
open Go.RowKit Go.Shelf

def okDig (c : UInt8) : Bool := decide (48 ≤ ((c.toNat : Nat) : Int)) && decide (((c.toNat : Nat) : Int) ≤ 57)
def numTo (s : ByteArray) (k : Nat) : Int := (s.data.toList.take k).foldl (fun n c => 10 * n + ((c.toNat : Nat) : Int) - 48) 0
/-- What the reference reads as a number. -/
def numR (s : ByteArray) : Int := if s.size ≤ 13 ∧ s.data.toList.all okDig = true then numTo s s.size else 0

theorem numTo_succ (s : ByteArray) (k : Nat) (h : k < s.size) : numTo s (k + 1) = 10 * numTo s k + ((s[k].toNat : Nat) : Int) - 48 := by
  unfold numTo
  rw [take_snoc s k h, List.foldl_append]
  rfl

theorem numR_bad (s : ByteArray) (k : Nat) (h : k < s.size) (hb : (decide (13 < s.size) || !okDig s[k]) = true) : numR s = 0 := by
  unfold numR
  rw [if_neg]
  rintro ⟨h1, h2⟩
  have h3 : okDig s[k] = true := by
    cases h4 : okDig s[k] with
    | true => rfl
    | false => rw [all_false_of_get s k h h4] at h2; cases h2
  rw [h3] at hb
  simp at hb
  omega

set_option maxHeartbeats 2000000 in
theorem NumberR_any (s : ByteArray) (w : World) (hs : s.size ≤ maxLen) :
    Calls Tryz.prog 90 #[.string s] w fun e w' => e = .returned (.int .i64 (numR s)) ∧ w = w' := by
  unfold maxLen at hs
  go_enter Tryz.func90, Tryz.ntmps90
  go_wp2_with fail
  go_loop [3, 4] (fun v i => ∃ k : Nat, k ≤ s.size ∧ i = .int .i64 k ∧ v = .int .i64 (numTo s k) ∧ Hid (0 ≤ numTo s k ∧ numTo s k < 10 ^ k ∧ (k = 0 ∨ s.size ≤ 13) ∧ (s.data.toList.take k).all okDig = true)) (fun _ i => s.size - (intOf i).toNat)
  case atStart => exact ⟨0, Nat.zero_le _, rfl, rfl, by show _ ∧ _ ∧ _ ∧ _; exact ⟨by unfold numTo; simp, by unfold numTo; simp, .inl rfl, by simp⟩⟩
  case round =>
    obtain ⟨k, hk, rfl, rfl, hH⟩ := hrel
    by_cases hlt : k < s.size
    · have HT := Lib.hid (numTo_succ s k hlt)
      have HB := Lib.hid (numR_bad s k hlt)
      have HS := Lib.hid (take_snoc s k hlt)
      have hi1 : (k : Int) < (s.size : Int) := by omega
      have HO : Hid (okDig s[k] = (decide (48 ≤ ((s[k].toNat : Nat) : Int)) && decide (((s[k].toNat : Nat) : Int) ≤ 57))) := by show _ = _; rfl
      by_cases h13 : 13 < (s.size : Int)
      · have HR : Hid (numR s = 0) := by show _ = _; exact HB.out (by rw [decide_eq_true (by omega)]; rfl)
        go_wp2_with fail
        go_ret
        exact ⟨by rw [HR.out]; rfl, rfl⟩
      by_cases h48 : ((s[k].toNat : Nat) : Int) < 48
      · have HR : Hid (numR s = 0) := by show _ = _; exact HB.out (by rw [HO.out, decide_eq_false (by omega : ¬ 48 ≤ ((s[k].toNat : Nat) : Int))]; simp)
        go_wp2_with fail
        go_ret
        exact ⟨by rw [HR.out]; rfl, rfl⟩
      by_cases h57 : 57 < ((s[k].toNat : Nat) : Int)
      · have HR : Hid (numR s = 0) := by show _ = _; exact HB.out (by rw [HO.out, decide_eq_false (by omega : ¬ ((s[k].toNat : Nat) : Int) ≤ 57)]; simp)
        go_wp2_with fail
        go_ret
        exact ⟨by rw [HR.out]; rfl, rfl⟩
      obtain ⟨q1, q2, q3, q4⟩ := hH.out
      have hp : (10 : Int) ^ k ≤ 10 ^ 12 := by
        have : (10 : Nat) ^ k ≤ 10 ^ 12 := Nat.pow_le_pow_right (by decide) (by omega)
        exact_mod_cast this
      have hq : numTo s k < 1000000000000 := by omega
      have HP : Hid ((10 : Int) ^ (k + 1) = 10 * 10 ^ k) := by show _ = _; rw [Int.pow_succ]; omega
      have HQ := Lib.hid (⟨q1, q2, q4⟩ : _ ∧ _ ∧ _)
      have HKD : Hid (okDig s[k] = true) := by show _ = _; rw [HO.out, decide_eq_true (by omega), decide_eq_true (by omega)]; rfl
      clear q2 q3 q4 hp hH
      generalize numTo s k = n at *
      generalize hn1 : numTo s (k + 1) = n1 at *
      have HN1 := Lib.hid hn1
      clear hn1
      go_wp2_with fail
      go_round
      case measure => simp [intOf]; omega
      case rel =>
        have e1 := HT.out
        have e2 := HP.out
        obtain ⟨r1, r2, r3⟩ := HQ.out
        exact ⟨k + 1, by omega, by go_num, by rw [HN1.out, e1], by
          show _ ∧ _ ∧ _ ∧ _
          rw [HN1.out]
          exact ⟨by omega, by omega, .inr (by omega), by rw [HS.out, List.all_append, r3]; simp [HKD.out]⟩⟩
    · obtain rfl : k = s.size := by omega
      have HR : Hid (numR s = numTo s s.size) := by
        show _ = _
        obtain ⟨q1, q2, q3, q4⟩ := hH.out
        rw [List.take_of_length_le (by simp)] at q4
        unfold numR
        rw [if_pos ⟨by omega, q4⟩]
      go_wp2_with fail
      go_ret
      exact ⟨by rw [HR.out]; rfl, rfl⟩

end Go.Proofs.YtpffpofdceppiaaGreatDoor

set_option linter.unusedSimpArgs false
set_option linter.unusedVariables false
namespace Go.Proofs.YtpffpofdceppiaaGreatDoor
open Go.RowKit Go.Shelf

/-- A text cut at its blanks. -/
def cutW : List UInt8 → List (List UInt8)
  | [] => [[]]
  | c :: l => if c = 32 then [] :: cutW l else match cutW l with | [] => [[c]] | h :: t => (c :: h) :: t

theorem cutW_free : ∀ (l : List UInt8), (∀ c ∈ l, c ≠ 32) → cutW l = [l]
  | [], _ => rfl
  | c :: l, h => by
    have h1 := cutW_free l (fun c hc => h c (List.mem_cons_of_mem _ hc))
    show (if c = 32 then _ else _) = _
    rw [if_neg (h c List.mem_cons_self), h1]
theorem cutW_at : ∀ (a l : List UInt8), (∀ c ∈ a, c ≠ 32) → cutW (a ++ 32 :: l) = a :: cutW l
  | [], l, _ => by show (if (32 : UInt8) = 32 then _ else _) = _; rw [if_pos rfl]
  | c :: a, l, h => by
    have h1 := cutW_at a l (fun c hc => h c (List.mem_cons_of_mem _ hc))
    show (if c = 32 then [] :: cutW (a ++ 32 :: l) else match cutW (a ++ 32 :: l) with | [] => [[c]] | h :: t => (c :: h) :: t) = _
    rw [if_neg (h c List.mem_cons_self), h1]

def bw (l : List UInt8) : ByteArray := ⟨l.toArray⟩
def wordsR (s : ByteArray) : List ByteArray := (cutW s.data.toList).map bw
def encW (b : ByteArray) : List Value := [.string b]

theorem cutW_len : ∀ l : List UInt8, (cutW l).length ≤ l.length + 1
  | [] => Nat.le_refl _
  | c :: l => by
    have h := cutW_len l
    show (if c = 32 then _ else _ : List (List UInt8)).length ≤ _
    split
    · rw [List.length_cons, List.length_cons]; omega
    · split
      · simp
      · rename_i e
        rw [e] at h
        simp only [List.length_cons] at h ⊢
        omega

/-- What holds behind k letters: 'done' is cut off, the next word begins at f. -/
structure WInv (L : List UInt8) (k f : Nat) (done : List (List UInt8)) : Prop where
  inn : k ≤ L.length → f ≤ k ∧ cutW L = done ++ cutW (L.drop f) ∧ ∀ c ∈ (L.drop f).take (k - f), c ≠ 32
  out : L.length < k → cutW L = done
  len : done.length ≤ k

theorem WInv.zero (L : List UInt8) : WInv L 0 0 [] := ⟨fun _ => ⟨Nat.le_refl _, rfl, fun c hc => by simp at hc⟩, fun h => absurd h (Nat.not_lt_zero _), Nat.le_refl _⟩
theorem WInv.skip {L : List UInt8} {k f : Nat} {done : List (List UInt8)} (h : WInv L k f done) (hk : k < L.length) (hc : L[k] ≠ 32) : WInv L (k + 1) f done := by
  obtain ⟨h1, h2, h3⟩ := h.inn (Nat.le_of_lt hk)
  refine ⟨fun _ => ⟨by omega, h2, fun c hc' => ?_⟩, fun h' => absurd h' (by omega), Nat.le_succ_of_le h.len⟩
  rw [show k + 1 - f = (k - f) + 1 by omega, List.take_succ_eq_append_getElem (by rw [List.length_drop]; omega), List.mem_append] at hc'
  rcases hc' with hc' | hc'
  · exact h3 c hc'
  · have e : (L.drop f)[k - f]'(by rw [List.length_drop]; omega) = L[k] := by
      rw [List.getElem_drop]; congr 1; omega
    rw [e] at hc'
    rw [List.mem_singleton.1 hc']
    exact hc
theorem WInv.cut {L : List UInt8} {k f : Nat} {done : List (List UInt8)} (h : WInv L k f done) (hk : k < L.length) (hc : L[k] = 32) : WInv L (k + 1) (k + 1) (done ++ [(L.drop f).take (k - f)]) := by
  obtain ⟨h1, h2, h3⟩ := h.inn (Nat.le_of_lt hk)
  refine ⟨fun _ => ⟨Nat.le_refl _, ?_, fun c hc' => by simp at hc'⟩, fun h' => absurd h' (by omega), by rw [List.length_append]; have := h.len; simp; omega⟩
  have e : L.drop f = (L.drop f).take (k - f) ++ 32 :: L.drop (k + 1) := by
    conv => lhs; rw [← List.take_append_drop (k - f) (L.drop f)]
    rw [List.drop_drop, show f + (k - f) = k by omega, List.drop_eq_getElem_cons hk, hc]
  rw [h2, List.append_assoc]
  congr 1
  conv => lhs; rw [e]
  rw [cutW_at _ _ h3]
  rfl
theorem WInv.last {L : List UInt8} {f : Nat} {done : List (List UInt8)} (h : WInv L L.length f done) : WInv L (L.length + 1) (L.length + 1) (done ++ [(L.drop f).take (L.length - f)]) := by
  obtain ⟨h1, h2, h3⟩ := h.inn (Nat.le_refl _)
  refine ⟨fun h' => absurd h' (by omega), fun _ => ?_, by rw [List.length_append]; have := h.len; simp; omega⟩
  have e : (L.drop f).take (L.length - f) = L.drop f := List.take_of_length_le (by rw [List.length_drop]; omega)
  rw [e] at h3 ⊢
  rw [h2, cutW_free _ h3]
theorem WInv.done {L : List UInt8} {f : Nat} {d : List (List UInt8)} (h : WInv L (L.length + 1) f d) : cutW L = d := h.out (Nat.lt_succ_self _)
theorem piece_eq (s : ByteArray) (f k : Nat) : bw ((s.data.toList.drop f).take (k - f)) = s.extract f k := by
  apply ByteArray.ext
  apply Array.toList_inj.1
  rw [Lib.extract_data]
  rfl

theorem encW_len (b : ByteArray) : (encW b).length = 1 := rfl
set_option maxRecDepth 100000 in
set_option maxHeartbeats 4000000 in
theorem WordsR_any (s : ByteArray) (w : World) (hs : s.size ≤ 100000) :
    Calls Tryz.prog 89 #[.string s] w fun e w' => ∃ v, e = .returned v ∧ Rows encW 1 w' v (wordsR s) ∧ Below w.heap.size w w' := by
  obtain ⟨i0, hi, hz0, hz1, hz2⟩ := info_parts Tryz.info9
  have hLen : s.data.toList.length = s.size := by simp
  go_enter Tryz.func89, Tryz.ntmps89
  go_wp2_with fail
  go_loopw [3, 4, 5] (fun v f i wr => ∃ (k g : Nat) (done : List (List UInt8)), k ≤ s.size + 1 ∧ g ≤ k ∧ i = .int .i64 k ∧ f = .int .i64 g ∧ Hid (WInv s.data.toList k g done) ∧ wr.ownsRow w.heap.size 9 1 v done.length ((done.map bw).flatMap encW) ∧ Below w.heap.size w wr) (fun _ _ i _ => s.size + 1 - (intOf i).toNat)
  case atStart => exact ⟨0, 0, [], by omega, Nat.le_refl _, rfl, rfl, Lib.hid (WInv.zero _), World.ownsRow_nil _ _ _ _, Below.refl _ w⟩
  case round =>
    obtain ⟨k, g, done, hk, hgk, rfl, rfl, hW, hown, hbl⟩ := hrel
    by_cases hlt : k < s.size
    · have hi1 : (k : Int) < (s.size : Int) := by omega
      have hne : ((k : Int) == (s.size : Int)) = false := by rw [beq_eq_false_iff_ne]; omega
      have hkL : k < s.data.toList.length := by rw [hLen]; exact hlt
      have hget : s.data.toList[k] = s[k] := rfl
      have hsz := hbl.size
      cases h32 : (((s[k].toNat : Nat) : Int) == 32)
      · have hc : s.data.toList[k] ≠ 32 := by
          rw [hget]; intro e; rw [e] at h32; cases h32
        have HL := Lib.hid (hW.out.skip hkL hc)
        have HO := Lib.hid hown
        have HB := Lib.hid hbl
        clear hown hbl hW hc hget
        go_wp2_with fail
        go_roundw
        case rel => exact ⟨k + 1, g, done, by omega, by omega, by go_num, rfl, HL, HO.out, HB.out⟩
        case measure => simp [intOf]; omega
      · have hc : s.data.toList[k] = 32 := by
          rw [hget]
          have : s[k].toNat = 32 := by rw [beq_iff_eq] at h32; omega
          exact UInt8.toNat_inj.1 this
        have HL := Lib.hid (hW.out.cut hkL hc)
        have HP := Lib.hid (piece_eq s g k)
        have hdl : done.length ≤ k := hW.out.len
        have HO := Lib.hid hown
        have HB := Lib.hid hbl
        clear hown hbl hW hc hget
        have hHX : Hid (∀ u ∈ [Value.string (s.extract g k)], u.oneCell' = true) := by show ∀ u ∈ _, _; simp [Value.oneCell']
        go_wp2_with (at_builtin; go_must (refine wpList_append_own _ rfl _ _ 85 rfl w.heap.size 9 i0 _ 1 16 Tryz.underlying85 hi hz0 hz1 hz2 rfl (by decide) _ done.length ((done.map bw).flatMap encW) rfl (HO.out.alloc _) ⟨wr.heap.size, 0, none⟩ 1 1 [.string (s.extract g k)] rfl rfl (by intro j u hu; rw [Addr.add_lit, Nat.zero_add]; cases j with | zero => (simp only [List.getElem?_cons_zero, Option.some.injEq] at hu; subst hu; go_simp) | succ j => (simp at hu)) hHX.out (by unfold maxLen; omega) (by omega) (by simp; omega) ?_; intro v9 w9 hown9 hg9 hnil9; have HO9 := Lib.hid hown9; have HG9 := Lib.hid hg9; clear hown9 hg9 hnil9))
        go_roundw
        case rel =>
          refine ⟨k + 1, k + 1, done ++ [(s.data.toList.drop g).take (k - g)], by omega, Nat.le_refl _, by go_num, by go_num, HL, ?_, ?_⟩
          · rw [List.map_append, List.flatMap_append, List.length_append]
            show World.ownsRow _ _ _ _ _ _ (_ ++ [Value.string (bw _)])
            rw [HP.out]
            exact HO9.out
          · exact (HB.out.alloc (by omega) _).grown HG9.out (by simp; omega) (fun k hk => (HO.out.lt k hk).1)
        case measure => simp [intOf]; omega
    · by_cases heq : k = s.size
      · subst heq
        have HW2 := hW.out
        rw [← hLen] at HW2
        have HL := Lib.hid HW2.last
        rw [hLen] at HL
        have HP := Lib.hid (piece_eq s g s.size)
        have hdl : done.length ≤ s.size := hW.out.len
        have hsz := hbl.size
        have HO := Lib.hid hown
        have HB := Lib.hid hbl
        clear hown hbl HW2 hW
        have hHX : Hid (∀ u ∈ [Value.string (s.extract g s.size)], u.oneCell' = true) := by show ∀ u ∈ _, _; simp [Value.oneCell']
        go_wp2_with (at_builtin; go_must (refine wpList_append_own _ rfl _ _ 85 rfl w.heap.size 9 i0 _ 1 16 Tryz.underlying85 hi hz0 hz1 hz2 rfl (by decide) _ done.length ((done.map bw).flatMap encW) rfl (HO.out.alloc _) ⟨wr.heap.size, 0, none⟩ 1 1 [.string (s.extract g s.size)] rfl rfl (by intro j u hu; rw [Addr.add_lit, Nat.zero_add]; cases j with | zero => (simp only [List.getElem?_cons_zero, Option.some.injEq] at hu; subst hu; go_simp) | succ j => (simp at hu)) hHX.out (by unfold maxLen; omega) (by omega) (by simp; omega) ?_; intro v9 w9 hown9 hg9 hnil9; have HO9 := Lib.hid hown9; have HG9 := Lib.hid hg9; clear hown9 hg9 hnil9))
        go_roundw
        case rel =>
          refine ⟨s.size + 1, s.size + 1, done ++ [(s.data.toList.drop g).take (s.size - g)], by omega, Nat.le_refl _, by go_num, by go_num, HL, ?_, ?_⟩
          · rw [List.map_append, List.flatMap_append, List.length_append]
            show World.ownsRow _ _ _ _ _ _ (_ ++ [Value.string (bw _)])
            rw [HP.out]
            exact HO9.out
          · exact (HB.out.alloc (by omega) _).grown HG9.out (by simp; omega) (fun k hk => (HO.out.lt k hk).1)
        case measure => simp [intOf]
      · have hk1 : k = s.size + 1 := by omega
        subst hk1
        have HW2 := hW.out
        rw [← hLen] at HW2
        have HD := Lib.hid HW2.done
        have HO := Lib.hid hown
        clear HW2 hW hown
        have hR : Hid (Rows encW 1 wr u3 (wordsR s)) := by
          show Rows _ _ _ _ _
          unfold wordsR
          rw [HD.out]
          exact Rows.of_owns encW_len (by rw [List.length_map]; exact HO.out)
        go_wp2_with fail
        go_ret
        exact ⟨_, rfl, hR.out, hbl⟩

end Go.Proofs.YtpffpofdceppiaaGreatDoor
