/- A part of the proof that laganlaw01.CargoTexts answers true at every input and leaves its arguments as they were; the conditions are those of the given row and card, nothing else. -/
import Derived.Test.YtpffpofdceppiaaGreatDoorProg
import Derived.WalkKit
import Derived.WalkSpells
import Derived.WalkLawsBesides
import Derived.Deep.QuietTactic
import Derived.BigQuiet
import Derived.Lib.Hide
import Derived.Laws.StructEq
namespace Go.Proofs.YtpffpofdceppiaaGreatDoor
open Go.RowKit

def within (n a b : Int) : Bool := decide (a ≤ n) && decide (n ≤ b)
def small (c : Int) : Bool := (decide (97 ≤ c) && decide (c ≤ 122)) || (decide (48 ≤ c) && decide (c ≤ 57))

set_option maxHeartbeats 400000 in
theorem within_any (n a b : Int) (w : World) :
    Calls Tryz.prog 138 #[.int .i64 n, .int .i64 a, .int .i64 b] w fun e w' => e = .returned (.bool (within n a b)) ∧ w = w' := by
  by_cases h1 : a ≤ n <;> by_cases h2 : n ≤ b
  all_goals
    go_enter Tryz.func138, Tryz.ntmps138
    go_wp2
    go_ret
    exact ⟨by simp [within, h1, h2] <;> omega, rfl⟩

theorem small_any (c : Int) (w : World) :
    Calls Tryz.prog 141 #[.int .u8 c] w fun e w' => e = .returned (.bool (small c)) ∧ w = w' := by
  by_cases h1 : 97 ≤ c <;> by_cases h2 : c ≤ 122 <;> by_cases h3 : 48 ≤ c <;> by_cases h4 : c ≤ 57
  all_goals first | (exfalso; omega) | skip
  all_goals
    go_enter Tryz.func141, Tryz.ntmps141
    go_wp2
    go_ret
    exact ⟨by simp [small, *] <;> omega, rfl⟩

def okMark (c : UInt8) : Bool := small c.toNat || ((c.toNat : Int) == 63)
def isMark (s : ByteArray) : Bool := s.data.toList.all okMark && within s.size 1 12
def okName (c : UInt8) : Bool := small c.toNat || ((c.toNat : Int) == 45)
def isName (s : ByteArray) : Bool := within s.size 1 24 && (match s.data.toList with | [] => false | c :: _ => decide (97 ≤ c.toNat) && decide (c.toNat ≤ 122)) && s.data.toList.all okName

theorem take_snoc (s : ByteArray) (k : Nat) (h : k < s.size) : s.data.toList.take (k + 1) = s.data.toList.take k ++ [s[k]] := by
  rw [List.take_succ_eq_append_getElem (by simpa using h)]; rfl

theorem all_false_of_get {f : UInt8 → Bool} (s : ByteArray) (k : Nat) (h : k < s.size) (hf : f s[k] = false) : s.data.toList.all f = false := by
  rw [List.all_eq_false]
  exact ⟨s[k], by simp [ByteArray.getElem_eq_getElem_data], by simp [hf]⟩

theorem list_of_pos (s : ByteArray) (h : 0 < s.size) : s.data.toList = s[0] :: s.data.toList.tail := by
  have h1 : s.data.toList ≠ [] := by
    intro e
    have : s.data.toList.length = 0 := by rw [e]; rfl
    simp at this
    have h2 : s.size = s.data.size := rfl
    rw [h2, this] at h
    simp at h
  cases hd : s.data.toList with
  | nil => exact absurd hd h1
  | cons x xs =>
    have : s[0] = x := by
      have e : s[0] = s.data.toList[0]'(by rw [hd]; simp) := rfl
      rw [e]; simp [hd]
    rw [this]; rfl

set_option maxHeartbeats 400000 in
theorem isMark_any (s : ByteArray) (w : World) (hs : s.size ≤ maxLen) :
    Calls Tryz.prog 76 #[.string s] w fun e w' => e = .returned (.bool (isMark s)) ∧ w = w' := by
  unfold maxLen at hs
  go_enter Tryz.func76, Tryz.ntmps76
  go_wp2
  go_loop [6] (fun i => ∃ k : Nat, k ≤ s.size ∧ i = .int .i64 k ∧ (s.data.toList.take k).all okMark = true) (fun i => s.size - (intOf i).toNat)
  case atStart => exact ⟨0, Nat.zero_le _, rfl, by simp⟩
  case round =>
    obtain ⟨k, hk, rfl, hall⟩ := hrel
    have H := Lib.hid hall; clear hall
    by_cases hlt : k < s.size
    · have HT := Lib.hid (take_snoc s k hlt)
      have HF := Lib.hid (all_false_of_get (f := okMark) s k hlt)
      cases h1 : small s[k].toNat <;> cases h2 : (((s[k].toNat : Nat) : Int) == 63)
      · have h3 : (((s[k].toNat : Nat) : Int) != 63) = true := by rw [bne, h2]; rfl
        go_wp2_with (go_at_call 141; refine (small_any _ _).mono ?_; rintro e w' ⟨rfl, rfl⟩)
        go_ret
        exact ⟨by rw [isMark, HF.out (by rw [okMark, h1, h2]; rfl)]; rfl, rfl⟩
      all_goals
        have h3 : (((s[k].toNat : Nat) : Int) != 63) = !(((s[k].toNat : Nat) : Int) == 63) := rfl
        rw [h2] at h3
        go_wp2_with (go_at_call 141; refine (small_any _ _).mono ?_; rintro e w' ⟨rfl, rfl⟩)
        go_round
        case measure => simp [intOf]; omega
        case rel =>
          refine ⟨k + 1, by omega, by go_num, ?_⟩
          rw [HT.out, List.all_append, H.out]
          simp only [okMark, h1, h2, List.all_cons, List.all_nil]; rfl
    · obtain rfl : k = s.size := by omega
      go_wp2_with (go_at_call 138; refine (within_any _ _ _ _).mono ?_; rintro e w' ⟨rfl, rfl⟩)
      go_ret
      refine ⟨?_, rfl⟩
      have := H.out
      rw [List.take_of_length_le (by simp)] at this
      rw [isMark, this]; rfl

set_option maxHeartbeats 1000000 in
theorem isName_any (s : ByteArray) (w : World) (hs : s.size ≤ maxLen) :
    Calls Tryz.prog 146 #[.string s] w fun e w' => e = .returned (.bool (isName s)) ∧ w = w' := by
  unfold maxLen at hs
  cases hw1 : within s.size 1 24
  · have hin : isName s = false := by rw [isName, hw1]; rfl
    have H1 := Lib.hid hin; clear hin
    go_enter Tryz.func146, Tryz.ntmps146
    go_wp2_with (go_at_call 138; refine (within_any _ _ _ _).mono ?_; rintro e w' ⟨rfl, rfl⟩)
    go_ret
    exact ⟨by rw [H1.out]; rfl, rfl⟩
  have hpos : 0 < s.size := by simp [within] at hw1; omega
  have HL := Lib.hid (list_of_pos s hpos)
  have HN : Hid (isName s = (decide (97 ≤ s[0].toNat) && decide (s[0].toNat ≤ 122) && s.data.toList.all okName)) := by
    show _ = _
    rw [isName, hw1]
    generalize s.data.toList.all okName = q
    rw [HL.out]; simp
  by_cases c1 : ((s[0].toNat : Nat) : Int) < 97
  · go_enter Tryz.func146, Tryz.ntmps146
    go_wp2_with (go_at_call 138; refine (within_any _ _ _ _).mono ?_; rintro e w' ⟨rfl, rfl⟩)
    go_ret
    exact ⟨by rw [HN.out, decide_eq_false (by omega)]; rfl, rfl⟩
  by_cases c2 : 122 < ((s[0].toNat : Nat) : Int)
  · go_enter Tryz.func146, Tryz.ntmps146
    go_wp2_with (go_at_call 138; refine (within_any _ _ _ _).mono ?_; rintro e w' ⟨rfl, rfl⟩)
    go_ret
    exact ⟨by rw [HN.out, decide_eq_false (p := s[0].toNat ≤ 122) (by omega), Bool.and_false]; rfl, rfl⟩
  have HM : Hid (isName s = s.data.toList.all okName) := by
    show _ = _
    rw [HN.out, decide_eq_true (p := 97 ≤ s[0].toNat) (by omega), decide_eq_true (p := s[0].toNat ≤ 122) (by omega)]; rfl
  clear HN HL
  go_enter Tryz.func146, Tryz.ntmps146
  go_wp2_with (go_at_call 138; refine (within_any _ _ _ _).mono ?_; rintro e w' ⟨rfl, rfl⟩)
  clear c1 c2
  go_loop [20] (fun i => ∃ k : Nat, k ≤ s.size ∧ i = .int .i64 k ∧ (s.data.toList.take k).all okName = true) (fun i => s.size - (intOf i).toNat)
  case atStart => exact ⟨0, Nat.zero_le _, rfl, by simp⟩
  case round =>
    obtain ⟨k, hk, rfl, hall⟩ := hrel
    have H := Lib.hid hall; clear hall
    by_cases hlt : k < s.size
    · have HT := Lib.hid (take_snoc s k hlt)
      have HF := Lib.hid (all_false_of_get (f := okName) s k hlt)
      cases h1 : small s[k].toNat <;> cases h2 : (((s[k].toNat : Nat) : Int) == 45)
      · have h3 : (((s[k].toNat : Nat) : Int) != 45) = true := by rw [bne, h2]; rfl
        go_wp2_with (go_at_call 141; refine (small_any _ _).mono ?_; rintro e w' ⟨rfl, rfl⟩)
        go_ret
        exact ⟨by rw [HM.out, HF.out (by rw [okName, h1, h2]; rfl)]; rfl, rfl⟩
      all_goals
        have h3 : (((s[k].toNat : Nat) : Int) != 45) = !(((s[k].toNat : Nat) : Int) == 45) := rfl
        rw [h2] at h3
        go_wp2_with (go_at_call 141; refine (small_any _ _).mono ?_; rintro e w' ⟨rfl, rfl⟩)
        go_round
        case measure => simp [intOf]; omega
        case rel =>
          refine ⟨k + 1, by omega, by go_num, ?_⟩
          rw [HT.out, List.all_append, H.out]
          simp only [okName, h1, h2, List.all_cons, List.all_nil]; rfl
    · obtain rfl : k = s.size := by omega
      go_wp2
      go_ret
      refine ⟨?_, rfl⟩
      have := H.out
      rw [List.take_of_length_le (by simp)] at this
      rw [HM.out, this]; rfl

def span (lo hi a b : Int) : Bool := decide (a ≤ lo) && decide (hi ≤ b) && decide (lo ≤ hi)

theorem span_any (lo hi a b : Int) (w : World) :
    Calls Tryz.prog 147 #[.agg #[.int .i64 lo, .int .i64 hi], .int .i64 a, .int .i64 b] w fun e w' => e = .returned (.bool (span lo hi a b)) ∧ w.alloc (.cells #[.int .i64 lo, .int .i64 hi] 26) = w' := by
  by_cases h1 : a ≤ lo <;> by_cases h2 : hi ≤ b <;> by_cases h3 : lo ≤ hi
  all_goals
    go_enter Tryz.func147, Tryz.ntmps147
    go_wp2
    go_ret
    exact ⟨by simp [span, *] <;> omega, rfl⟩

end Go.Proofs.YtpffpofdceppiaaGreatDoor

namespace Go.Proofs.YtpffpofdceppiaaGreatDoor
open Go.RowKit

structure Paper where
  id : Int
  known : Int
  kind : Int
  loss : Int
  pack : Int
  inn : Int
  mark : ByteArray
  goods : ByteArray
  lo : Int
  hi : Int
  pieces : Int
  owner : Int
  count : Int
  of : Int
  deriving DecidableEq, Inhabited

def Paper.vals (x : Paper) : List Value := [.int .i64 x.id, .int .i64 x.known, .int .u8 x.kind, .int .i64 x.loss, .int .i64 x.pack, .int .i64 x.inn, .string x.mark, .string x.goods, .int .i64 x.lo, .int .i64 x.hi, .int .i64 x.pieces, .int .i64 x.owner, .int .i64 x.count, .int .i64 x.of]

def Paper.zero : Paper := ⟨0, 0, 0, 0, 0, 0, ⟨#[]⟩, ⟨#[]⟩, 0, 0, 0, 0, 0, 0⟩

section eqf
variable {P : Program} {d : Nat} {xs ys : Array Value} {f : Field} {fs : List Field} {a b : Value} {r s : Bool} {w : World}
theorem eqf_cons (hn : (f.name == "_") = false) (ha : (part f.type xs f.offset).run P w = .ok a w) (hb : (part f.type ys f.offset).run P w = .ok b w) (he : (Op.equalIn d f.type a b).run P w = .ok r w) (hr : (Op.eqFields d xs ys fs).run P w = .ok s w) : (Op.eqFields d xs ys (f :: fs)).run P w = .ok (r && s) w := by
  have hn' : f.name ≠ "_" := by simpa using hn
  rw [Op.eqFields]
  simp only [if_pos hn', Sem.run_bind, ha, hb, he, Result.andThen_ok]
  cases r
  · simp
  · simpa using hr
theorem eqf_nil : (Op.eqFields d xs ys []).run P w = .ok true w := by simp [Op.eqFields]
end eqf

theorem eq26 (a1 a2 b1 b2 : Int) (d : Nat) (w : World) : (Op.equalIn (d + 2) 26 (.agg #[.int .i64 a1, .int .i64 a2]) (.agg #[.int .i64 b1, .int .i64 b2])).run Tryz.prog w = .ok (a1 == b1 && (a2 == b2 && true)) w := by
  have hS : Tryz.prog.underlying 26 = some (.struct (Tryz.prog.fieldsOf 26)) := by kernel_rfl
  rw [run_equalIn_agg w (d + 1) 26 _ _ hS (by kernel_rfl)]
  have u3 := Tryz.underlying3
  have ua3 := Tryz.isAgg3
  have z3 := Tryz.sizeOf3
  simp only [Program.fieldsOf, Tryz.underlying26]
  refine eqf_cons rfl (a := .int .i64 a1) (b := .int .i64 b1) (by go_simp) (by go_simp) (by go_simp) (eqf_cons rfl (a := .int .i64 a2) (b := .int .i64 b2) (by go_simp) (by go_simp) (by go_simp) eqf_nil)

theorem eq28 (a0 a1 a2 a3 a4 a5 a8 a9 a10 a11 a12 a13 b0 b1 b2 b3 b4 b5 b8 b9 b10 b11 b12 b13 : Int) (a6 a7 b6 b7 : ByteArray) (d : Nat) (w : World) : (Op.equalIn (d + 3) 28 (.agg #[.int .i64 a0, .int .i64 a1, .int .u8 a2, .int .i64 a3, .int .i64 a4, .int .i64 a5, .string a6, .string a7, .int .i64 a8, .int .i64 a9, .int .i64 a10, .int .i64 a11, .int .i64 a12, .int .i64 a13]) (.agg #[.int .i64 b0, .int .i64 b1, .int .u8 b2, .int .i64 b3, .int .i64 b4, .int .i64 b5, .string b6, .string b7, .int .i64 b8, .int .i64 b9, .int .i64 b10, .int .i64 b11, .int .i64 b12, .int .i64 b13])).run Tryz.prog w = .ok ((a0 == b0) && ((a1 == b1) && ((a2 == b2) && ((a3 == b3) && ((a4 == b4) && ((a5 == b5) && ((a6.toList == b6.toList) && ((a7.toList == b7.toList) && (((a8 == b8) && ((a9 == b9) && true)) && ((a10 == b10) && ((a11 == b11) && ((a12 == b12) && ((a13 == b13) && true))))))))))))) w := by
  have hS : Tryz.prog.underlying 28 = some (.struct (Tryz.prog.fieldsOf 28)) := by kernel_rfl
  rw [run_equalIn_agg w (d + 2) 28 _ _ hS (by kernel_rfl)]
  have u3 := Tryz.underlying3
  have ua3 := Tryz.isAgg3
  have z3 := Tryz.sizeOf3
  have u5 := Tryz.underlying5
  have ua5 := Tryz.isAgg5
  have z5 := Tryz.sizeOf5
  have u9 := Tryz.underlying9
  have ua9 := Tryz.isAgg9
  have z9 := Tryz.sizeOf9
  have u26 := Tryz.underlying26
  have ua26 := Tryz.isAgg26
  have z26 := Tryz.sizeOf26
  simp only [Program.fieldsOf, Tryz.underlying28]
  exact eqf_cons rfl (a := .int .i64 a0) (b := .int .i64 b0) (by go_simp) (by go_simp) (by go_simp) (eqf_cons rfl (a := .int .i64 a1) (b := .int .i64 b1) (by go_simp) (by go_simp) (by go_simp) (eqf_cons rfl (a := .int .u8 a2) (b := .int .u8 b2) (by go_simp) (by go_simp) (by go_simp) (eqf_cons rfl (a := .int .i64 a3) (b := .int .i64 b3) (by go_simp) (by go_simp) (by go_simp) (eqf_cons rfl (a := .int .i64 a4) (b := .int .i64 b4) (by go_simp) (by go_simp) (by go_simp) (eqf_cons rfl (a := .int .i64 a5) (b := .int .i64 b5) (by go_simp) (by go_simp) (by go_simp) (eqf_cons rfl (a := .string a6) (b := .string b6) (by go_simp) (by go_simp) (by go_simp) (eqf_cons rfl (a := .string a7) (b := .string b7) (by go_simp) (by go_simp) (by go_simp) (eqf_cons rfl (a := .agg #[.int .i64 a8, .int .i64 a9]) (b := .agg #[.int .i64 b8, .int .i64 b9]) (by go_simp) (by go_simp) (eq26 a8 a9 b8 b9 d w) (eqf_cons rfl (a := .int .i64 a10) (b := .int .i64 b10) (by go_simp) (by go_simp) (by go_simp) (eqf_cons rfl (a := .int .i64 a11) (b := .int .i64 b11) (by go_simp) (by go_simp) (by go_simp) (eqf_cons rfl (a := .int .i64 a12) (b := .int .i64 b12) (by go_simp) (by go_simp) (by go_simp) (eqf_cons rfl (a := .int .i64 a13) (b := .int .i64 b13) (by go_simp) (by go_simp) (by go_simp) (eqf_nil)))))))))))))

def Paper.eqv (x y : Paper) : Bool := (x.id == y.id) && ((x.known == y.known) && ((x.kind == y.kind) && ((x.loss == y.loss) && ((x.pack == y.pack) && ((x.inn == y.inn) && ((x.mark.toList == y.mark.toList) && ((x.goods.toList == y.goods.toList) && (((x.lo == y.lo) && ((x.hi == y.hi) && true)) && ((x.pieces == y.pieces) && ((x.owner == y.owner) && ((x.count == y.count) && ((x.of == y.of) && true))))))))))))

theorem toList_inj (a b : ByteArray) (h : a.toList = b.toList) : a = b := by
  rw [ByteArray.toList_eq, ByteArray.toList_eq] at h
  obtain ⟨⟨x⟩⟩ := a
  obtain ⟨⟨y⟩⟩ := b
  simpa using h

theorem Paper.eqv_iff (x y : Paper) : x.eqv y = true ↔ x = y := by
  constructor
  · intro h
    simp only [Paper.eqv, Bool.and_eq_true, beq_iff_eq] at h
    obtain ⟨h1, h2, h3, h4, h5, h6, h7, h8, ⟨h9, h10, _⟩, h11, h12, h13, h14, _⟩ := h
    have h7 := toList_inj _ _ h7
    have h8 := toList_inj _ _ h8
    cases x; cases y; simp_all
  · rintro rfl
    simp [Paper.eqv]

theorem Paper.eqv_eq (x y : Paper) : x.eqv y = decide (x = y) := by
  rw [Bool.eq_iff_iff, Paper.eqv_iff]; simp

/-- '==' of two papers. -/
theorem run_eq28 (x y : Paper) (w : World) : (binOp .eql 28 (.agg x.vals.toArray) (.agg y.vals.toArray)).run Tryz.prog w = .ok (.bool (decide (x = y))) w := by
  have h := eq28 x.id x.known x.kind x.loss x.pack x.inn x.lo x.hi x.pieces x.owner x.count x.of y.id y.known y.kind y.loss y.pack y.inn y.lo y.hi y.pieces y.owner y.count y.of x.mark x.goods y.mark y.goods 9997 w
  have h' : (Op.equalIn (9997 + 3) 28 (.agg x.vals.toArray) (.agg y.vals.toArray)).run Tryz.prog w = .ok (x.eqv y) w := h
  rw [run_eql_struct, show (10000 : Nat) = 9997 + 3 from rfl, h', Paper.eqv_eq]; rfl

theorem run_neq28 (x y : Paper) (w : World) : (binOp .neq 28 (.agg x.vals.toArray) (.agg y.vals.toArray)).run Tryz.prog w = .ok (.bool (!decide (x = y))) w := by
  have h := eq28 x.id x.known x.kind x.loss x.pack x.inn x.lo x.hi x.pieces x.owner x.count x.of y.id y.known y.kind y.loss y.pack y.inn y.lo y.hi y.pieces y.owner y.count y.of x.mark x.goods y.mark y.goods 9997 w
  have h' : (Op.equalIn (9997 + 3) 28 (.agg x.vals.toArray) (.agg y.vals.toArray)).run Tryz.prog w = .ok (x.eqv y) w := h
  rw [run_neq_struct, show (10000 : Nat) = 9997 + 3 from rfl, h', Paper.eqv_eq]; rfl

/-- Weights of a package, as two numbers. -/
theorem run_eq26 (a1 a2 b1 b2 : Int) (w : World) : (binOp .eql 26 (.agg #[.int .i64 a1, .int .i64 a2]) (.agg #[.int .i64 b1, .int .i64 b2])).run Tryz.prog w = .ok (.bool (a1 == b1 && a2 == b2)) w := by
  rw [run_eql_struct, show (10000 : Nat) = 9998 + 2 from rfl, eq26]
  simp

theorem run_neq26 (a1 a2 b1 b2 : Int) (w : World) : (binOp .neq 26 (.agg #[.int .i64 a1, .int .i64 a2]) (.agg #[.int .i64 b1, .int .i64 b2])).run Tryz.prog w = .ok (.bool (!(a1 == b1 && a2 == b2))) w := by
  rw [run_neq_struct, show (10000 : Nat) = 9998 + 2 from rfl, eq26]
  simp

end Go.Proofs.YtpffpofdceppiaaGreatDoor
