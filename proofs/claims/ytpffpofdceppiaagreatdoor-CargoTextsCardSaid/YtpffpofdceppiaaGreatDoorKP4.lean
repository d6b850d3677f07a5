/- A part of the proof that laganlaw01.CargoTexts answers true at every input and leaves its arguments as they were; the conditions are those of the given row and card, nothing else. -/
import Derived.Test.YtpffpofdceppiaaGreatDoorKP2
import Derived.Deep.Cut
import Derived.Deep.CutRange
import Derived.Deep.RegionHeld3
set_option linter.unusedSimpArgs false
set_option linter.unusedVariables false
namespace Go.Proofs.YtpffpofdceppiaaGreatDoor
open Go.RowKit Go.Shelf

def pkB : ByteArray := ⟨#[112, 97, 99, 107, 97, 103, 101]⟩
def ttB : ByteArray := ⟨#[116, 111, 116, 97, 108]⟩
def vvB : ByteArray := ⟨#[118, 111, 105, 100]⟩
def wordsV : Value := .agg #[.string ⟨#[]⟩, .string pkB, .string ttB, .string vvB]

theorem results_one {fn : Func} {p : Tmp} {ty : TypeId} (h : fn.results = #[.cell p ty]) (tmps : Array Value) (P : Program) (w : World) (a : Addr) (v : Value) (hp : tmps.getD p undef = .pointer (some a)) (hl : (loadVar ty a).run P w = .ok v w) :
    (results fn tmps).run P w = .ok v w := by
  simp only [Array.getD_eq_getD_getElem?] at hp
  simp only [results, h]
  simp [Sem.run_bind, Result.andThen, hp, asAddr, hl]

theorem words_any (w : World) : Calls Tryz.prog 83 #[] w fun e w' => e = .returned wordsV ∧ Below w.heap.size w w' := by
  go_enter Tryz.func83, Tryz.ntmps83
  go_wp2
  refine bodyPost_ret (results_one rfl _ _ _ ⟨w.heap.size, 0, none⟩ wordsV rfl (by go_simp; rfl)) rfl ?_
  exact ⟨rfl, (Below.refl _ _).alloc (Nat.le_refl _) _⟩

def bs (l : List UInt8) : ByteArray := ⟨l.toArray⟩
def kindB (k : Int) : ByteArray := if k = 1 then pkB else if k = 2 then ttB else vvB
def sp : ByteArray := ⟨#[32]⟩
def headB (x : Paper) : ByteArray := bs (rowS [x.id, x.known]) ++ sp ++ kindB x.kind ++ sp
def writeB (x : Paper) : ByteArray :=
  if x.kind = 1 then headB x ++ bs (rowS [x.loss, x.pack, x.inn]) ++ sp ++ x.mark ++ sp ++ x.goods ++ sp ++ bs (rowS [x.lo, x.hi, x.pieces, x.owner])
  else if x.kind = 2 then headB x ++ bs (rowS [x.loss, x.pack, x.count, x.lo, x.hi])
  else headB x ++ bs (rowS [x.of])
/-- The line of a paper. -/
def writeP (x : Paper) : ByteArray × Int := if formed x then (writeB x, 0) else (⟨#[]⟩, 1)

theorem nrow_built (w : World) (ns : List Int) (vs : Array Value) (hvs : vs = (ns.map (Value.int .i64)).toArray) (h0 : 0 < ns.length) (hl : ns.length ≤ 100) (hb : ∀ n ∈ ns, -1000000000 ≤ n ∧ n ≤ 1000000000) (hG : Gl w) :
    Calls Tryz.prog 80 #[.slice (some ⟨w.heap.size, 0, none⟩) ns.length ns.length] (w.alloc (.cells vs 3)) fun e w' => e = .returned (.string (bs (rowS ns))) ∧ Below w.heap.size w w' := by
  have hB : Below w.heap.size w (w.alloc (.cells vs 3)) := (Below.refl _ w).alloc (Nat.le_refl _) _
  refine (nrow_any _ ns (w.alloc (.cells vs 3)) ⟨_, _, rfl, Nat.le_refl _, by unfold maxLen; omega, fun _ => ⟨_, _, rfl, by simp, fun j hj i u hu => ?_⟩⟩ hl h0 hb (hG.below hB)).mono ?_
  · subst hvs
    cases i with
    | zero =>
      simp only [List.getElem?_cons_zero, Option.some.injEq] at hu
      subst hu
      rw [Nat.zero_add, Nat.mul_one, Nat.add_zero, World.cell?_alloc_new]
      simp [hj]
    | succ i => simp at hu
  · rintro e w' ⟨rfl, h⟩
    exact ⟨rfl, hB.trans (h.mono hB.size)⟩

theorem formed_ids (x : Paper) (h : formed x = true) : 1 ≤ x.id ∧ x.id ≤ 1000000 ∧ 0 ≤ x.known ∧ x.known ≤ 1000000 ∧ (x.kind = 1 ∨ x.kind = 2 ∨ x.kind = 3) := by
  unfold formed at h
  rw [Bool.and_eq_true, Bool.and_eq_true] at h
  obtain ⟨⟨h1, h2⟩, h3⟩ := h
  simp only [within, Bool.and_eq_true, decide_eq_true_eq] at h1 h2
  refine ⟨h1.1, h1.2, h2.1, h2.2, ?_⟩
  split at h3
  · omega
  · split at h3
    · omega
    · split at h3
      · omega
      · cases h3

theorem formed_bounds (x : Paper) (h : formed x = true) : 0 ≤ x.loss ∧ x.loss ≤ 10000000 ∧ 0 ≤ x.pack ∧ x.pack ≤ 10000000 ∧ 0 ≤ x.inn ∧ x.inn ≤ 10000000 ∧ 0 ≤ x.lo ∧ x.lo ≤ 10000000 ∧ 0 ≤ x.hi ∧ x.hi ≤ 10000000 ∧ 0 ≤ x.pieces ∧ x.pieces ≤ 10000000 ∧ 0 ≤ x.owner ∧ x.owner ≤ 10000000 ∧ 0 ≤ x.count ∧ x.count ≤ 10000000 ∧ 0 ≤ x.of ∧ x.of ≤ 10000000 ∧ x.mark.size ≤ 12 ∧ x.goods.size ≤ 24 := by
  unfold formed at h
  rw [Bool.and_eq_true, Bool.and_eq_true] at h
  obtain ⟨_, h3⟩ := h
  split at h3
  · rw [Bool.and_eq_true, decide_eq_true_eq] at h3
    obtain ⟨h4, h5⟩ := h3
    have e1 := congrArg Paper.count h5
    have e2 := congrArg Paper.of h5
    simp only [rest1, Paper.zero] at e1 e2
    simp only [formed1, Bool.and_eq_true, within, span, decide_eq_true_eq] at h4
    have hmk := isMark_size x.mark (by simp only [h4])
    have hgd : isName x.goods = true := by simp only [h4]
    simp only [isName, within, Bool.and_eq_true, decide_eq_true_eq] at hgd
    omega
  · split at h3
    · rw [Bool.and_eq_true, decide_eq_true_eq] at h3
      obtain ⟨h4, h5⟩ := h3
      have e1 := congrArg Paper.inn h5
      have e2 := congrArg Paper.of h5
      have e3 := congrArg Paper.pieces h5
      have e4 := congrArg Paper.owner h5
      have e5 := congrArg (fun y => y.mark.size) h5
      have e6 := congrArg (fun y => y.goods.size) h5
      simp only [rest2, Paper.zero] at e1 e2 e3 e4 e5 e6
      have z : (⟨#[]⟩ : ByteArray).size = 0 := rfl
      rw [z] at e5 e6
      simp only [formed2, Bool.and_eq_true, within, span, decide_eq_true_eq] at h4
      omega
    · split at h3
      · rw [Bool.and_eq_true, decide_eq_true_eq] at h3
        obtain ⟨h4, h5⟩ := h3
        have e1 := congrArg Paper.inn h5
        have e2 := congrArg Paper.loss h5
        have e3 := congrArg Paper.pieces h5
        have e4 := congrArg Paper.owner h5
        have e5 := congrArg (fun y => y.mark.size) h5
        have e6 := congrArg (fun y => y.goods.size) h5
        have e7 := congrArg Paper.pack h5
        have e8 := congrArg Paper.lo h5
        have e9 := congrArg Paper.hi h5
        have e10 := congrArg Paper.count h5
        simp only [rest3, Paper.zero] at e1 e2 e3 e4 e5 e6 e7 e8 e9 e10
        have z : (⟨#[]⟩ : ByteArray).size = 0 := rfl
        rw [z] at e5 e6
        simp only [within, Bool.and_eq_true, decide_eq_true_eq] at h4
        omega
      · cases h3

theorem below_al {w W : World} (h : Below w.heap.size w W) (o : Obj) : Below w.heap.size w (W.alloc o) := h.alloc h.size _
theorem lt_al {n : Nat} {W : World} (h : n < W.heap.size) (o : Obj) : n < (W.alloc o).heap.size := by simp; omega
theorem lt_al_drew {n : Nat} {W : World} (h : n < W.heap.size) (o : Obj) : n < (W.alloc o).drew.heap.size := by show n < (W.alloc o).heap.size; simp; omega
theorem keepS {n i : Nat} {v : Value} {W w' : World} (hb : Below W.heap.size W w') (hlt : n < W.heap.size) (h : W.cell? ⟨n, i, none⟩ = some v) : w'.cell? ⟨n, i, none⟩ = some v := (hb.cell (p := ⟨n, i, none⟩) hlt).trans h
theorem keepB {w W w' : World} (h : Below w.heap.size w W) (hb : Below W.heap.size W w') : Below w.heap.size w w' := h.trans (hb.mono h.size)
theorem keepL {n : Nat} {W w' : World} (hlt : n < W.heap.size) (hb : Below W.heap.size W w') : n < w'.heap.size := Nat.lt_of_lt_of_le hlt hb.size

theorem nrow1 (b : Nat) (n0 : Int) (A : ByteArray) (hA : A = bs (rowS [n0])) (W : World) (hb : b < W.heap.size) (h0 : W.cell? ⟨b, 0, none⟩ = some (.int .i64 n0)) (hn : ∀ n ∈ [n0], -1000000000 ≤ n ∧ n ≤ 1000000000) (hG : Gl W) :
    Calls Tryz.prog 80 #[.slice (some ⟨b, 0, none⟩) 1 1] W fun e w' => e = .returned (.string A) ∧ Below W.heap.size W w' :=
  hA ▸ nrow_any _ [n0] W ⟨_, _, rfl, Nat.le_refl _, by decide, fun _ => ⟨b, 0, rfl, hb, fun j hj i u hu => by
    cases i with
    | succ i => simp at hu
    | zero =>
      simp only [List.getElem?_cons_zero, Option.some.injEq] at hu
      subst hu
      match j, hj with
      | 0, _ => exact h0⟩⟩ (by simp) (by simp) hn hG

theorem nrow2 (b : Nat) (n0 n1 : Int) (A : ByteArray) (hA : A = bs (rowS [n0, n1])) (W : World) (hb : b < W.heap.size) (h0 : W.cell? ⟨b, 0, none⟩ = some (.int .i64 n0)) (h1 : W.cell? ⟨b, 1, none⟩ = some (.int .i64 n1)) (hn : ∀ n ∈ [n0, n1], -1000000000 ≤ n ∧ n ≤ 1000000000) (hG : Gl W) :
    Calls Tryz.prog 80 #[.slice (some ⟨b, 0, none⟩) 2 2] W fun e w' => e = .returned (.string A) ∧ Below W.heap.size W w' :=
  hA ▸ nrow_any _ [n0, n1] W ⟨_, _, rfl, Nat.le_refl _, by decide, fun _ => ⟨b, 0, rfl, hb, fun j hj i u hu => by
    cases i with
    | succ i => simp at hu
    | zero =>
      simp only [List.getElem?_cons_zero, Option.some.injEq] at hu
      subst hu
      match j, hj with
      | 0, _ => exact h0
      | 1, _ => exact h1⟩⟩ (by simp) (by simp) hn hG

theorem nrow3 (b : Nat) (n0 n1 n2 : Int) (A : ByteArray) (hA : A = bs (rowS [n0, n1, n2])) (W : World) (hb : b < W.heap.size) (h0 : W.cell? ⟨b, 0, none⟩ = some (.int .i64 n0)) (h1 : W.cell? ⟨b, 1, none⟩ = some (.int .i64 n1)) (h2 : W.cell? ⟨b, 2, none⟩ = some (.int .i64 n2)) (hn : ∀ n ∈ [n0, n1, n2], -1000000000 ≤ n ∧ n ≤ 1000000000) (hG : Gl W) :
    Calls Tryz.prog 80 #[.slice (some ⟨b, 0, none⟩) 3 3] W fun e w' => e = .returned (.string A) ∧ Below W.heap.size W w' :=
  hA ▸ nrow_any _ [n0, n1, n2] W ⟨_, _, rfl, Nat.le_refl _, by decide, fun _ => ⟨b, 0, rfl, hb, fun j hj i u hu => by
    cases i with
    | succ i => simp at hu
    | zero =>
      simp only [List.getElem?_cons_zero, Option.some.injEq] at hu
      subst hu
      match j, hj with
      | 0, _ => exact h0
      | 1, _ => exact h1
      | 2, _ => exact h2⟩⟩ (by simp) (by simp) hn hG

theorem nrow4 (b : Nat) (n0 n1 n2 n3 : Int) (A : ByteArray) (hA : A = bs (rowS [n0, n1, n2, n3])) (W : World) (hb : b < W.heap.size) (h0 : W.cell? ⟨b, 0, none⟩ = some (.int .i64 n0)) (h1 : W.cell? ⟨b, 1, none⟩ = some (.int .i64 n1)) (h2 : W.cell? ⟨b, 2, none⟩ = some (.int .i64 n2)) (h3 : W.cell? ⟨b, 3, none⟩ = some (.int .i64 n3)) (hn : ∀ n ∈ [n0, n1, n2, n3], -1000000000 ≤ n ∧ n ≤ 1000000000) (hG : Gl W) :
    Calls Tryz.prog 80 #[.slice (some ⟨b, 0, none⟩) 4 4] W fun e w' => e = .returned (.string A) ∧ Below W.heap.size W w' :=
  hA ▸ nrow_any _ [n0, n1, n2, n3] W ⟨_, _, rfl, Nat.le_refl _, by decide, fun _ => ⟨b, 0, rfl, hb, fun j hj i u hu => by
    cases i with
    | succ i => simp at hu
    | zero =>
      simp only [List.getElem?_cons_zero, Option.some.injEq] at hu
      subst hu
      match j, hj with
      | 0, _ => exact h0
      | 1, _ => exact h1
      | 2, _ => exact h2
      | 3, _ => exact h3⟩⟩ (by simp) (by simp) hn hG

theorem nrow5 (b : Nat) (n0 n1 n2 n3 n4 : Int) (A : ByteArray) (hA : A = bs (rowS [n0, n1, n2, n3, n4])) (W : World) (hb : b < W.heap.size) (h0 : W.cell? ⟨b, 0, none⟩ = some (.int .i64 n0)) (h1 : W.cell? ⟨b, 1, none⟩ = some (.int .i64 n1)) (h2 : W.cell? ⟨b, 2, none⟩ = some (.int .i64 n2)) (h3 : W.cell? ⟨b, 3, none⟩ = some (.int .i64 n3)) (h4 : W.cell? ⟨b, 4, none⟩ = some (.int .i64 n4)) (hn : ∀ n ∈ [n0, n1, n2, n3, n4], -1000000000 ≤ n ∧ n ≤ 1000000000) (hG : Gl W) :
    Calls Tryz.prog 80 #[.slice (some ⟨b, 0, none⟩) 5 5] W fun e w' => e = .returned (.string A) ∧ Below W.heap.size W w' :=
  hA ▸ nrow_any _ [n0, n1, n2, n3, n4] W ⟨_, _, rfl, Nat.le_refl _, by decide, fun _ => ⟨b, 0, rfl, hb, fun j hj i u hu => by
    cases i with
    | succ i => simp at hu
    | zero =>
      simp only [List.getElem?_cons_zero, Option.some.injEq] at hu
      subst hu
      match j, hj with
      | 0, _ => exact h0
      | 1, _ => exact h1
      | 2, _ => exact h2
      | 3, _ => exact h3
      | 4, _ => exact h4⟩⟩ (by simp) (by simp) hn hG

theorem built_cell (W : World) (vs : Array Value) (t : TypeId) (i : Nat) (v : Value) (h : vs[i]? = some v) : (W.alloc (.cells vs t)).cell? ⟨W.heap.size, i, none⟩ = some v := by rw [World.cell?_alloc_new]; exact h
theorem built_cell_drew (W : World) (vs : Array Value) (t : TypeId) (i : Nat) (v : Value) (h : vs[i]? = some v) : (W.alloc (.cells vs t)).drew.cell? ⟨W.heap.size, i, none⟩ = some v := built_cell W vs t i v h
theorem built2 (W : World) (vs : Array Value) (t : TypeId) (i : Nat) (v : Value) (o : Obj) (h : vs[i]? = some v) : ((W.alloc (.cells vs t)).alloc o).drew.cell? ⟨W.heap.size, i, none⟩ = some v :=
  keepS ((Below.refl _ (W.alloc (.cells vs t))).alloc (Nat.le_refl _) o).drew (by simp) (built_cell W vs t i v h)
theorem built3 (W : World) (vs : Array Value) (t : TypeId) (i : Nat) (v : Value) (o : Obj) (h : vs[i]? = some v) : ((W.alloc o).alloc (.cells vs t)).drew.cell? ⟨W.heap.size + 1, i, none⟩ = some v := by
  have := built_cell (W.alloc o) vs t i v h
  rw [World.size_alloc] at this
  exact this
theorem lt2 (W : World) (o o' : Obj) : W.heap.size < ((W.alloc o).alloc o').drew.heap.size := by show W.heap.size < ((W.alloc o).alloc o').heap.size; simp; omega
theorem lt3 (W : World) (o o' : Obj) : W.heap.size + 1 < ((W.alloc o).alloc o').drew.heap.size := by show W.heap.size + 1 < ((W.alloc o).alloc o').heap.size; simp
theorem lt_new (W : World) (o : Obj) : W.heap.size < (W.alloc o).heap.size := by simp
theorem lt_new_drew (W : World) (o : Obj) : W.heap.size < (W.alloc o).drew.heap.size := lt_new W o
abbrev SX (x : Paper) (w W : World) : Prop := W.cell? ⟨w.heap.size, 3, none⟩ = some (.int .i64 x.loss) ∧ W.cell? ⟨w.heap.size, 4, none⟩ = some (.int .i64 x.pack) ∧ W.cell? ⟨w.heap.size, 5, none⟩ = some (.int .i64 x.inn) ∧ W.cell? ⟨w.heap.size, 6, none⟩ = some (.string x.mark) ∧ W.cell? ⟨w.heap.size, 7, none⟩ = some (.string x.goods) ∧ W.cell? ⟨w.heap.size, 8, none⟩ = some (.int .i64 x.lo) ∧ W.cell? ⟨w.heap.size, 9, none⟩ = some (.int .i64 x.hi) ∧ W.cell? ⟨w.heap.size, 10, none⟩ = some (.int .i64 x.pieces) ∧ W.cell? ⟨w.heap.size, 11, none⟩ = some (.int .i64 x.owner) ∧ w.heap.size < W.heap.size ∧ Below w.heap.size w W
theorem cell_al {n i : Nat} {v : Value} {W : World} (hlt : n < W.heap.size) (h : W.cell? ⟨n, i, none⟩ = some v) (o : Obj) : (W.alloc o).cell? ⟨n, i, none⟩ = some v := keepS (Below.refl _ W |>.alloc (Nat.le_refl _) o) hlt h
theorem SX.keep {x : Paper} {w W w' : World} (h : SX x w W) (hb : Below W.heap.size W w') : SX x w w' := by
  obtain ⟨q3, q4, q5, q6, q7, q8, q9, q10, q11, qL, qB⟩ := h
  exact ⟨keepS hb qL q3, keepS hb qL q4, keepS hb qL q5, keepS hb qL q6, keepS hb qL q7, keepS hb qL q8, keepS hb qL q9, keepS hb qL q10, keepS hb qL q11, keepL qL hb, keepB qB hb⟩
theorem SX.al {x : Paper} {w W : World} (h : SX x w W) (o : Obj) : SX x w (W.alloc o) := h.keep ((Below.refl _ W).alloc (Nat.le_refl _) o)
theorem SX.drew {x : Paper} {w W : World} (h : SX x w W) : SX x w W.drew := h.keep (Below.refl _ W).drew
theorem SX.al_drew {x : Paper} {w W : World} (h : SX x w W) (o : Obj) : SX x w (W.alloc o).drew := (h.al o).drew
theorem nrowS3 (x : Paper) (w : World) (hG : Gl w) (W : World) (hS : SX x w W) (b : Nat) (n0 n1 n2 : Int) (A : ByteArray) (hA : A = bs (rowS [n0, n1, n2])) (hb : b < W.heap.size) (h0 : W.cell? ⟨b, 0, none⟩ = some (.int .i64 n0)) (h1 : W.cell? ⟨b, 1, none⟩ = some (.int .i64 n1)) (h2 : W.cell? ⟨b, 2, none⟩ = some (.int .i64 n2)) (hn : ∀ n ∈ [n0, n1, n2], -1000000000 ≤ n ∧ n ≤ 1000000000) :
    Calls Tryz.prog 80 #[.slice (some ⟨b, 0, none⟩) 3 3] W fun e w' => e = .returned (.string A) ∧ Below W.heap.size W w' ∧ SX x w w' :=
  (nrow3 b n0 n1 n2 A hA W hb h0 h1 h2 hn (hG.below hS.2.2.2.2.2.2.2.2.2.2)).mono fun _ _ h => ⟨h.1, h.2, hS.keep h.2⟩
theorem nrowS4 (x : Paper) (w : World) (hG : Gl w) (W : World) (hS : SX x w W) (b : Nat) (n0 n1 n2 n3 : Int) (A : ByteArray) (hA : A = bs (rowS [n0, n1, n2, n3])) (hb : b < W.heap.size) (h0 : W.cell? ⟨b, 0, none⟩ = some (.int .i64 n0)) (h1 : W.cell? ⟨b, 1, none⟩ = some (.int .i64 n1)) (h2 : W.cell? ⟨b, 2, none⟩ = some (.int .i64 n2)) (h3 : W.cell? ⟨b, 3, none⟩ = some (.int .i64 n3)) (hn : ∀ n ∈ [n0, n1, n2, n3], -1000000000 ≤ n ∧ n ≤ 1000000000) :
    Calls Tryz.prog 80 #[.slice (some ⟨b, 0, none⟩) 4 4] W fun e w' => e = .returned (.string A) ∧ Below W.heap.size W w' ∧ SX x w w' :=
  (nrow4 b n0 n1 n2 n3 A hA W hb h0 h1 h2 h3 hn (hG.below hS.2.2.2.2.2.2.2.2.2.2)).mono fun _ _ h => ⟨h.1, h.2, hS.keep h.2⟩

theorem nrowSB (x : Paper) (w : World) (hG : Gl w) (W : World) (hS : SX x w W) (b n : Nat) (B C : ByteArray) (hB : B = bs (rowS [x.loss, x.pack, x.inn])) (hC : C = bs (rowS [x.lo, x.hi, x.pieces, x.owner]))
    (iB : ∀ n ∈ [x.loss, x.pack, x.inn], -1000000000 ≤ n ∧ n ≤ 1000000000) (iC : ∀ n ∈ [x.lo, x.hi, x.pieces, x.owner], -1000000000 ≤ n ∧ n ≤ 1000000000)
    (h : (n = 3 ∧ b < W.heap.size ∧ W.cell? ⟨b, 0, none⟩ = some (.int .i64 x.loss) ∧ W.cell? ⟨b, 1, none⟩ = some (.int .i64 x.pack) ∧ W.cell? ⟨b, 2, none⟩ = some (.int .i64 x.inn)) ∨
      (n = 4 ∧ b < W.heap.size ∧ W.cell? ⟨b, 0, none⟩ = some (.int .i64 x.lo) ∧ W.cell? ⟨b, 1, none⟩ = some (.int .i64 x.hi) ∧ W.cell? ⟨b, 2, none⟩ = some (.int .i64 x.pieces) ∧ W.cell? ⟨b, 3, none⟩ = some (.int .i64 x.owner))) :
    Calls Tryz.prog 80 #[.slice (some ⟨b, 0, none⟩) n n] W fun e w' => e = .returned (.string (if n = 3 then B else C)) ∧ Below W.heap.size W w' ∧ SX x w w' := by
  rcases h with ⟨rfl, h0, h1, h2, h3⟩ | ⟨rfl, h0, h1, h2, h3, h4⟩
  · exact nrowS3 x w hG W hS b _ _ _ B hB h0 h1 h2 h3 iB
  · exact nrowS4 x w hG W hS b _ _ _ _ C hC h0 h1 h2 h3 h4 iC

set_option maxRecDepth 100000 in
set_option maxHeartbeats 8000000 in
theorem Write_any (x : Paper) (w : World) (hm : x.mark.size ≤ 100000) (hg : x.goods.size ≤ 100000) (hG : Gl w) :
    Calls Tryz.prog 24 #[.agg x.vals.toArray] w fun e w' => e = .returned (.tuple #[.string (writeP x).1, .int .i64 (writeP x).2]) ∧ Below w.heap.size w w' := by
  have HF := Lib.hid (fun W => formed_any x W (by unfold maxLen; omega) (by unfold maxLen; omega))
  have HID := Lib.hid (formed_ids x)
  have HP : Hid (writeP x = if formed x then (writeB x, 0) else (⟨#[]⟩, 1)) := by show _ = _; rfl
  have hFB := Lib.hid (formed_bounds x)
  generalize formed x = fx at *
  show Calls Tryz.prog 24 #[.agg #[.int .i64 x.id, .int .i64 x.known, .int .u8 x.kind, .int .i64 x.loss, .int .i64 x.pack, .int .i64 x.inn, .string x.mark, .string x.goods, .int .i64 x.lo, .int .i64 x.hi, .int .i64 x.pieces, .int .i64 x.owner, .int .i64 x.count, .int .i64 x.of]] w _
  have HF : Hid (∀ W, Calls Tryz.prog 79 #[.agg #[.int .i64 x.id, .int .i64 x.known, .int .u8 x.kind, .int .i64 x.loss, .int .i64 x.pack, .int .i64 x.inn, .string x.mark, .string x.goods, .int .i64 x.lo, .int .i64 x.hi, .int .i64 x.pieces, .int .i64 x.owner, .int .i64 x.count, .int .i64 x.of]] W fun e w' => e = .returned (.bool fx) ∧ Below W.heap.size W w') := HF
  have hB0 : Below w.heap.size w (w.alloc (.cells #[.int .i64 x.id, .int .i64 x.known, .int .u8 x.kind, .int .i64 x.loss, .int .i64 x.pack, .int .i64 x.inn, .string x.mark, .string x.goods, .int .i64 x.lo, .int .i64 x.hi, .int .i64 x.pieces, .int .i64 x.owner, .int .i64 x.count, .int .i64 x.of] 28)) := (Below.refl _ w).alloc (Nat.le_refl _) _
  cases fx
  · have HR : Hid (writeP x = (⟨#[]⟩, 1)) := by show _ = _; rw [HP.out]; rfl
    clear HP HID
    go_enter Tryz.func24, Tryz.ntmps24
    go_wp2_with fail
    refine (HF.out _).mono ?_
    rintro e w1 ⟨rfl, hb1⟩
    go_wp2_with fail
    go_ret2
    exact ⟨by rw [HR.out]; rfl, hB0.trans (hb1.mono hB0.size)⟩
  · have HR : Hid (writeP x = (writeB x, 0)) := by show _ = _; rw [HP.out]; rfl
    obtain ⟨i1, i2, i3, i4, hk⟩ := HID.out rfl
    have hFB := Lib.hid (hFB.out rfl)
    clear HP HID
    go_enter Tryz.func24, Tryz.ntmps24
    go_wp2_with fail
    refine (HF.out _).mono ?_
    rintro e w1 ⟨rfl, hb1⟩
    go_wp2_with fail
    have hs1 := hb1.size
    rw [World.size_alloc] at hs1
    have hB1 := hB0.trans (hb1.mono hB0.size)
    have hB0' : Below w.heap.size w (w.alloc (boxOf x)) := hB0
    obtain ⟨c0, c1, c2, c3, c4, c5, c6, c7, c8, c9, c10, c11, c12, c13⟩ := box_later x (show Below (w.alloc (boxOf x)).heap.size (w.alloc (boxOf x)) w1 from hb1)
    have hG1 := hG.below hB1
    clear hb1 hB0 hB0'
    obtain ⟨K, hK⟩ : ∃ K, K = kindB x.kind := ⟨_, rfl⟩
    have hkk : ∀ W, (Instr.index 89 wordsV (.int .u8 x.kind)).run Tryz.prog W = .ok (.string K) W := fun W => by
      rw [hK]
      rcases hk with h | h | h <;> rw [h] <;> kernel_rfl
    have hKz : K.size ≤ 7 := by rw [hK]; unfold kindB; split <;> (try split) <;> decide
    have HK := Lib.hid hK
    clear hK
    obtain ⟨A, hA⟩ : ∃ A, A = bs (rowS [x.id, x.known]) := ⟨_, rfl⟩
    have hid2 : Hid (∀ n ∈ [x.id, x.known], -1000000000 ≤ n ∧ n ≤ 1000000000) := by show ∀ n ∈ _, _; intro n hn; simp at hn; rcases hn with rfl | rfl <;> omega
    have hAz : A.size ≤ 5000 := by rw [hA]; exact join_len _ (by simp) hid2.out
    have HA := Lib.hid hA
    clear hA
    have hs1' : w.heap.size < w1.heap.size := by omega
    have sum1 : A.size + (⟨#[32]⟩ : ByteArray).size ≤ 9223372036854775807 := by show A.size + 1 ≤ _; omega
    have sum2 : (A ++ ⟨#[32]⟩).size + K.size ≤ 9223372036854775807 := by rw [ByteArray.size_append]; show A.size + 1 + _ ≤ _; omega
    have sum3 : (A ++ ⟨#[32]⟩ ++ K).size + (⟨#[32]⟩ : ByteArray).size ≤ 9223372036854775807 := by rw [ByteArray.size_append, ByteArray.size_append]; show A.size + 1 + K.size + 1 ≤ _; omega
    have add1 := fun W => run_string_add_sum (P := Tryz.prog) W A ⟨#[32]⟩ sum1
    have add2 := fun W => run_string_add_sum (P := Tryz.prog) W (A ++ ⟨#[32]⟩) K sum2
    have add3 := fun W => run_string_add_sum (P := Tryz.prog) W (A ++ ⟨#[32]⟩ ++ K) ⟨#[32]⟩ sum3
    clear sum1 sum2 sum3
    obtain ⟨H, hH⟩ : ∃ H, H = A ++ sp ++ K ++ sp := ⟨_, rfl⟩
    have HH := Lib.hid hH
    clear hH
    go_cut [5] from 6 to 22 (fun s5 wx => s5 = .string H ∧ Hid (Below w1.heap.size w1 wx))
    case first =>
      go_region_held3 (fun W => W.cell? ⟨w.heap.size, 0, none⟩ = some (.int .i64 x.id) ∧ W.cell? ⟨w.heap.size, 1, none⟩ = some (.int .i64 x.known) ∧ W.cell? ⟨w.heap.size, 2, none⟩ = some (.int .u8 x.kind) ∧ w.heap.size < W.heap.size ∧ Below w.heap.size w W ∧ Below w1.heap.size w1 W) ((repeat' apply And.intro) <;> (first | assumption | exact below_al (by assumption) _ | exact (below_al (by assumption) _).drew | exact Below.drew (by assumption) | exact (Below.refl _ _).drew | exact below_al (Below.refl _ _) _ | exact (below_al (Below.refl _ _) _).drew | exact lt_al (by assumption) _ | exact lt_al_drew (by assumption) _ | (go_keep; done))) (first
        | (go_at_call 80; refine (nrow2 _ x.id x.known A HA.out _ ?_ ?_ ?_ hid2.out (hG.below ?_)).mono ?_; (go_keep); (go_keep); (go_keep); (first | assumption | exact below_al (by assumption) _ | exact (below_al (by assumption) _).drew | exact Below.drew (by assumption) | exact (Below.refl _ _).drew | exact below_al (Below.refl _ _) _ | exact (below_al (Below.refl _ _) _).drew | exact lt_al (by assumption) _ | exact lt_al_drew (by assumption) _ | (go_keep; done)); rintro e w' ⟨rfl, hb⟩; have q0 : w'.cell? ⟨w.heap.size, 0, none⟩ = some (.int .i64 x.id) := keepS hb (by (first | assumption | exact below_al (by assumption) _ | exact (below_al (by assumption) _).drew | exact Below.drew (by assumption) | exact (Below.refl _ _).drew | exact below_al (Below.refl _ _) _ | exact (below_al (Below.refl _ _) _).drew | exact lt_al (by assumption) _ | exact lt_al_drew (by assumption) _ | (go_keep; done))) (by (first | assumption | exact below_al (by assumption) _ | exact (below_al (by assumption) _).drew | exact Below.drew (by assumption) | exact (Below.refl _ _).drew | exact below_al (Below.refl _ _) _ | exact (below_al (Below.refl _ _) _).drew | exact lt_al (by assumption) _ | exact lt_al_drew (by assumption) _ | (go_keep; done))); have q1 : w'.cell? ⟨w.heap.size, 1, none⟩ = some (.int .i64 x.known) := keepS hb (by (first | assumption | exact below_al (by assumption) _ | exact (below_al (by assumption) _).drew | exact Below.drew (by assumption) | exact (Below.refl _ _).drew | exact below_al (Below.refl _ _) _ | exact (below_al (Below.refl _ _) _).drew | exact lt_al (by assumption) _ | exact lt_al_drew (by assumption) _ | (go_keep; done))) (by (first | assumption | exact below_al (by assumption) _ | exact (below_al (by assumption) _).drew | exact Below.drew (by assumption) | exact (Below.refl _ _).drew | exact below_al (Below.refl _ _) _ | exact (below_al (Below.refl _ _) _).drew | exact lt_al (by assumption) _ | exact lt_al_drew (by assumption) _ | (go_keep; done))); have q2 : w'.cell? ⟨w.heap.size, 2, none⟩ = some (.int .u8 x.kind) := keepS hb (by (first | assumption | exact below_al (by assumption) _ | exact (below_al (by assumption) _).drew | exact Below.drew (by assumption) | exact (Below.refl _ _).drew | exact below_al (Below.refl _ _) _ | exact (below_al (Below.refl _ _) _).drew | exact lt_al (by assumption) _ | exact lt_al_drew (by assumption) _ | (go_keep; done))) (by (first | assumption | exact below_al (by assumption) _ | exact (below_al (by assumption) _).drew | exact Below.drew (by assumption) | exact (Below.refl _ _).drew | exact below_al (Below.refl _ _) _ | exact (below_al (Below.refl _ _) _).drew | exact lt_al (by assumption) _ | exact lt_al_drew (by assumption) _ | (go_keep; done))); have q3 : w.heap.size < w'.heap.size := keepL (by (first | assumption | exact below_al (by assumption) _ | exact (below_al (by assumption) _).drew | exact Below.drew (by assumption) | exact (Below.refl _ _).drew | exact below_al (Below.refl _ _) _ | exact (below_al (Below.refl _ _) _).drew | exact lt_al (by assumption) _ | exact lt_al_drew (by assumption) _ | (go_keep; done))) hb; have q5 : Below w1.heap.size w1 w' := keepB (by (first | assumption | exact below_al (by assumption) _ | exact (below_al (by assumption) _).drew | exact Below.drew (by assumption) | exact Below.refl _ _ | exact below_al (Below.refl _ _) _ | exact (below_al (Below.refl _ _) _).drew | exact (Below.refl _ _).drew)) hb; have q4 : Below w.heap.size w w' := keepB (by (first | assumption | exact below_al (by assumption) _ | exact (below_al (by assumption) _).drew | exact Below.drew (by assumption) | exact (Below.refl _ _).drew | exact below_al (Below.refl _ _) _ | exact (below_al (Below.refl _ _) _).drew | exact lt_al (by assumption) _ | exact lt_al_drew (by assumption) _ | (go_keep; done))) hb; clear hb)
        | (go_at_call 83; refine (words_any _).mono ?_; rintro e w' ⟨rfl, hb⟩; have q0 : w'.cell? ⟨w.heap.size, 0, none⟩ = some (.int .i64 x.id) := keepS hb (by (first | assumption | exact below_al (by assumption) _ | exact (below_al (by assumption) _).drew | exact Below.drew (by assumption) | exact (Below.refl _ _).drew | exact below_al (Below.refl _ _) _ | exact (below_al (Below.refl _ _) _).drew | exact lt_al (by assumption) _ | exact lt_al_drew (by assumption) _ | (go_keep; done))) (by (first | assumption | exact below_al (by assumption) _ | exact (below_al (by assumption) _).drew | exact Below.drew (by assumption) | exact (Below.refl _ _).drew | exact below_al (Below.refl _ _) _ | exact (below_al (Below.refl _ _) _).drew | exact lt_al (by assumption) _ | exact lt_al_drew (by assumption) _ | (go_keep; done))); have q1 : w'.cell? ⟨w.heap.size, 1, none⟩ = some (.int .i64 x.known) := keepS hb (by (first | assumption | exact below_al (by assumption) _ | exact (below_al (by assumption) _).drew | exact Below.drew (by assumption) | exact (Below.refl _ _).drew | exact below_al (Below.refl _ _) _ | exact (below_al (Below.refl _ _) _).drew | exact lt_al (by assumption) _ | exact lt_al_drew (by assumption) _ | (go_keep; done))) (by (first | assumption | exact below_al (by assumption) _ | exact (below_al (by assumption) _).drew | exact Below.drew (by assumption) | exact (Below.refl _ _).drew | exact below_al (Below.refl _ _) _ | exact (below_al (Below.refl _ _) _).drew | exact lt_al (by assumption) _ | exact lt_al_drew (by assumption) _ | (go_keep; done))); have q2 : w'.cell? ⟨w.heap.size, 2, none⟩ = some (.int .u8 x.kind) := keepS hb (by (first | assumption | exact below_al (by assumption) _ | exact (below_al (by assumption) _).drew | exact Below.drew (by assumption) | exact (Below.refl _ _).drew | exact below_al (Below.refl _ _) _ | exact (below_al (Below.refl _ _) _).drew | exact lt_al (by assumption) _ | exact lt_al_drew (by assumption) _ | (go_keep; done))) (by (first | assumption | exact below_al (by assumption) _ | exact (below_al (by assumption) _).drew | exact Below.drew (by assumption) | exact (Below.refl _ _).drew | exact below_al (Below.refl _ _) _ | exact (below_al (Below.refl _ _) _).drew | exact lt_al (by assumption) _ | exact lt_al_drew (by assumption) _ | (go_keep; done))); have q3 : w.heap.size < w'.heap.size := keepL (by (first | assumption | exact below_al (by assumption) _ | exact (below_al (by assumption) _).drew | exact Below.drew (by assumption) | exact (Below.refl _ _).drew | exact below_al (Below.refl _ _) _ | exact (below_al (Below.refl _ _) _).drew | exact lt_al (by assumption) _ | exact lt_al_drew (by assumption) _ | (go_keep; done))) hb; have q5 : Below w1.heap.size w1 w' := keepB (by (first | assumption | exact below_al (by assumption) _ | exact (below_al (by assumption) _).drew | exact Below.drew (by assumption) | exact Below.refl _ _ | exact below_al (Below.refl _ _) _ | exact (below_al (Below.refl _ _) _).drew | exact (Below.refl _ _).drew)) hb; have q4 : Below w.heap.size w w' := keepB (by (first | assumption | exact below_al (by assumption) _ | exact (below_al (by assumption) _).drew | exact Below.drew (by assumption) | exact (Below.refl _ _).drew | exact below_al (Below.refl _ _) _ | exact (below_al (Below.refl _ _) _).drew | exact lt_al (by assumption) _ | exact lt_al_drew (by assumption) _ | (go_keep; done))) hb; clear hb))
      all_goals go_wp2_with fail
      all_goals go_meet
      all_goals exact ⟨by rw [HH.out]; rfl, (by assumption : Below w1.heap.size w1 _)⟩
    case rest =>
      obtain ⟨rfl, hbx⟩ := hcut
      have hBc : Below w.heap.size w wc := hB1.trans (hbx.out.mono hB1.size)
      have hLc : w.heap.size < wc.heap.size := keepL hs1' hbx.out
      have e2 := keepS hbx.out hs1' c2
      have e3 := keepS hbx.out hs1' c3
      have e4 := keepS hbx.out hs1' c4
      have e5 := keepS hbx.out hs1' c5
      have e6 := keepS hbx.out hs1' c6
      have e7 := keepS hbx.out hs1' c7
      have e8 := keepS hbx.out hs1' c8
      have e9 := keepS hbx.out hs1' c9
      have e10 := keepS hbx.out hs1' c10
      have e11 := keepS hbx.out hs1' c11
      have e12 := keepS hbx.out hs1' c12
      have e13 := keepS hbx.out hs1' c13
      clear c0 c1 c2 c3 c4 c5 c6 c7 c8 c9 c10 c11 c12 c13 hkk add1 add2 add3 hbx hB1 hs1 hs1' hG1
      have hHz : H.size ≤ 5100 := by rw [HH.out]; simp only [ByteArray.size_append]; show A.size + 1 + K.size + 1 ≤ _; omega
      have sz32 : (⟨#[32]⟩ : ByteArray).size = 1 := rfl
      have hbd := hFB.out trivial
      rcases hk with hk | hk | hk
      · have g1 : (x.kind == 1) = true := by rw [hk]; rfl
        obtain ⟨b1, b2, b3, b4, b5, b6, b7, b8, b9, b10, b11, b12, b13, b14, b15, b16, b17, b18, b19, b20⟩ := hbd
        obtain ⟨B, hB⟩ : ∃ B, B = bs (rowS [x.loss, x.pack, x.inn]) := ⟨_, rfl⟩
        have hidB : Hid (∀ n ∈ [x.loss, x.pack, x.inn], -1000000000 ≤ n ∧ n ≤ 1000000000) := by show ∀ n ∈ _, _; intro n hn; simp at hn; rcases hn with rfl | rfl | rfl <;> omega
        have hBz : B.size ≤ 5000 := by rw [hB]; exact join_len _ (by simp) hidB.out
        have HB := Lib.hid hB
        clear hB
        obtain ⟨C, hC⟩ : ∃ C, C = bs (rowS [x.lo, x.hi, x.pieces, x.owner]) := ⟨_, rfl⟩
        have hidC : Hid (∀ n ∈ [x.lo, x.hi, x.pieces, x.owner], -1000000000 ≤ n ∧ n ≤ 1000000000) := by show ∀ n ∈ _, _; intro n hn; simp at hn; rcases hn with rfl | rfl | rfl | rfl <;> omega
        have hCz : C.size ≤ 5000 := by rw [hC]; exact join_len _ (by simp) hidC.out
        have HC := Lib.hid hC
        clear hC
        have ad0 := fun W => run_string_add_sum (P := Tryz.prog) W (H) B (by (try simp only [ByteArray.size_append, sz32]); omega)
        have ad1 := fun W => run_string_add_sum (P := Tryz.prog) W (H ++ B) ⟨#[32]⟩ (by (try simp only [ByteArray.size_append, sz32]); omega)
        have ad2 := fun W => run_string_add_sum (P := Tryz.prog) W (H ++ B ++ ⟨#[32]⟩) x.mark (by (try simp only [ByteArray.size_append, sz32]); omega)
        have ad3 := fun W => run_string_add_sum (P := Tryz.prog) W (H ++ B ++ ⟨#[32]⟩ ++ x.mark) ⟨#[32]⟩ (by (try simp only [ByteArray.size_append, sz32]); omega)
        have ad4 := fun W => run_string_add_sum (P := Tryz.prog) W (H ++ B ++ ⟨#[32]⟩ ++ x.mark ++ ⟨#[32]⟩) x.goods (by (try simp only [ByteArray.size_append, sz32]); omega)
        have ad5 := fun W => run_string_add_sum (P := Tryz.prog) W (H ++ B ++ ⟨#[32]⟩ ++ x.mark ++ ⟨#[32]⟩ ++ x.goods) ⟨#[32]⟩ (by (try simp only [ByteArray.size_append, sz32]); omega)
        have ad6 := fun W => run_string_add_sum (P := Tryz.prog) W (H ++ B ++ ⟨#[32]⟩ ++ x.mark ++ ⟨#[32]⟩ ++ x.goods ++ ⟨#[32]⟩) C (by (try simp only [ByteArray.size_append, sz32]); omega)
        have HW : Hid (writeB x = H ++ B ++ ⟨#[32]⟩ ++ x.mark ++ ⟨#[32]⟩ ++ x.goods ++ ⟨#[32]⟩ ++ C) := by show _ = _; rw [writeB, if_pos hk, headB, ← HA.out, ← HK.out, ← HH.out, ← HB.out, ← HC.out]; rfl
        clear b1 b2 b3 b4 b5 b6 b7 b8 b9 b10 b11 b12 b13 b14 b15 b16 b17 b18 b19 b20 hBz hCz hHz hAz hKz sz32 hm hg i1 i2 i3 i4 hid2
        go_wp2_with fail
        go_region_held3 (fun W => W.cell? ⟨w.heap.size, 3, none⟩ = some (.int .i64 x.loss) ∧ W.cell? ⟨w.heap.size, 4, none⟩ = some (.int .i64 x.pack) ∧ W.cell? ⟨w.heap.size, 5, none⟩ = some (.int .i64 x.inn) ∧ W.cell? ⟨w.heap.size, 6, none⟩ = some (.string x.mark) ∧ W.cell? ⟨w.heap.size, 7, none⟩ = some (.string x.goods) ∧ W.cell? ⟨w.heap.size, 8, none⟩ = some (.int .i64 x.lo) ∧ W.cell? ⟨w.heap.size, 9, none⟩ = some (.int .i64 x.hi) ∧ W.cell? ⟨w.heap.size, 10, none⟩ = some (.int .i64 x.pieces) ∧ W.cell? ⟨w.heap.size, 11, none⟩ = some (.int .i64 x.owner) ∧ w.heap.size < W.heap.size ∧ Below w.heap.size w W) ((first | with_reducible exact (SX.drew ⟨by assumption, by assumption, by assumption, by assumption, by assumption, by assumption, by assumption, by assumption, by assumption, by assumption, by assumption⟩ : SX x w _) | with_reducible exact (SX.al_drew ⟨by assumption, by assumption, by assumption, by assumption, by assumption, by assumption, by assumption, by assumption, by assumption, by assumption, by assumption⟩ _ : SX x w _) | with_reducible exact (SX.al ⟨by assumption, by assumption, by assumption, by assumption, by assumption, by assumption, by assumption, by assumption, by assumption, by assumption, by assumption⟩ _ : SX x w _) | with_reducible exact (SX.al_drew (SX.al ⟨by assumption, by assumption, by assumption, by assumption, by assumption, by assumption, by assumption, by assumption, by assumption, by assumption, by assumption⟩ _) _ : SX x w _) | with_reducible exact (SX.al (SX.al ⟨by assumption, by assumption, by assumption, by assumption, by assumption, by assumption, by assumption, by assumption, by assumption, by assumption, by assumption⟩ _) _ : SX x w _) | with_reducible exact (⟨by assumption, by assumption, by assumption, by assumption, by assumption, by assumption, by assumption, by assumption, by assumption, by assumption, by assumption⟩ : SX x w _))) (first
          | (go_at_call 80; refine (nrowSB x w hG _ ?_ _ _ B C HB.out HC.out hidB.out hidC.out ?_).mono ?_; (with_reducible first | exact (SX.drew ⟨by assumption, by assumption, by assumption, by assumption, by assumption, by assumption, by assumption, by assumption, by assumption, by assumption, by assumption⟩ : SX x w _) | exact (SX.al_drew ⟨by assumption, by assumption, by assumption, by assumption, by assumption, by assumption, by assumption, by assumption, by assumption, by assumption, by assumption⟩ _ : SX x w _) | exact (SX.al ⟨by assumption, by assumption, by assumption, by assumption, by assumption, by assumption, by assumption, by assumption, by assumption, by assumption, by assumption⟩ _ : SX x w _) | exact (SX.al_drew (SX.al ⟨by assumption, by assumption, by assumption, by assumption, by assumption, by assumption, by assumption, by assumption, by assumption, by assumption, by assumption⟩ _) _ : SX x w _) | exact (SX.al (SX.al ⟨by assumption, by assumption, by assumption, by assumption, by assumption, by assumption, by assumption, by assumption, by assumption, by assumption, by assumption⟩ _) _ : SX x w _) | exact (⟨by assumption, by assumption, by assumption, by assumption, by assumption, by assumption, by assumption, by assumption, by assumption, by assumption, by assumption⟩ : SX x w _)); (first | (refine .inl ⟨rfl, ?_, ?_, ?_, ?_⟩; (with_reducible first | exact lt_new_drew _ _ | exact lt_new _ _ | exact lt2 _ _ _ | exact lt3 _ _ _ | exact keepL (lt2 _ _ _) hb9 | exact keepL (lt3 _ _ _) hb9); ((with_reducible first | refine built_cell_drew _ _ _ _ _ ?_ | refine built_cell _ _ _ _ _ ?_ | refine built2 _ _ _ _ _ _ ?_ | refine built3 _ _ _ _ _ _ ?_ | refine keepS hb9 (lt2 _ _ _) (built2 _ _ _ _ _ _ ?_) | refine keepS hb9 (lt3 _ _ _) (built3 _ _ _ _ _ _ ?_)); (rfl)); ((with_reducible first | refine built_cell_drew _ _ _ _ _ ?_ | refine built_cell _ _ _ _ _ ?_ | refine built2 _ _ _ _ _ _ ?_ | refine built3 _ _ _ _ _ _ ?_ | refine keepS hb9 (lt2 _ _ _) (built2 _ _ _ _ _ _ ?_) | refine keepS hb9 (lt3 _ _ _) (built3 _ _ _ _ _ _ ?_)); (rfl)); ((with_reducible first | refine built_cell_drew _ _ _ _ _ ?_ | refine built_cell _ _ _ _ _ ?_ | refine built2 _ _ _ _ _ _ ?_ | refine built3 _ _ _ _ _ _ ?_ | refine keepS hb9 (lt2 _ _ _) (built2 _ _ _ _ _ _ ?_) | refine keepS hb9 (lt3 _ _ _) (built3 _ _ _ _ _ _ ?_)); (rfl))) | (refine .inr ⟨rfl, ?_, ?_, ?_, ?_, ?_⟩; (with_reducible first | exact lt_new_drew _ _ | exact lt_new _ _ | exact lt2 _ _ _ | exact lt3 _ _ _ | exact keepL (lt2 _ _ _) hb9 | exact keepL (lt3 _ _ _) hb9); ((with_reducible first | refine built_cell_drew _ _ _ _ _ ?_ | refine built_cell _ _ _ _ _ ?_ | refine built2 _ _ _ _ _ _ ?_ | refine built3 _ _ _ _ _ _ ?_ | refine keepS hb9 (lt2 _ _ _) (built2 _ _ _ _ _ _ ?_) | refine keepS hb9 (lt3 _ _ _) (built3 _ _ _ _ _ _ ?_)); (rfl)); ((with_reducible first | refine built_cell_drew _ _ _ _ _ ?_ | refine built_cell _ _ _ _ _ ?_ | refine built2 _ _ _ _ _ _ ?_ | refine built3 _ _ _ _ _ _ ?_ | refine keepS hb9 (lt2 _ _ _) (built2 _ _ _ _ _ _ ?_) | refine keepS hb9 (lt3 _ _ _) (built3 _ _ _ _ _ _ ?_)); (rfl)); ((with_reducible first | refine built_cell_drew _ _ _ _ _ ?_ | refine built_cell _ _ _ _ _ ?_ | refine built2 _ _ _ _ _ _ ?_ | refine built3 _ _ _ _ _ _ ?_ | refine keepS hb9 (lt2 _ _ _) (built2 _ _ _ _ _ _ ?_) | refine keepS hb9 (lt3 _ _ _) (built3 _ _ _ _ _ _ ?_)); (rfl)); ((with_reducible first | refine built_cell_drew _ _ _ _ _ ?_ | refine built_cell _ _ _ _ _ ?_ | refine built2 _ _ _ _ _ _ ?_ | refine built3 _ _ _ _ _ _ ?_ | refine keepS hb9 (lt2 _ _ _) (built2 _ _ _ _ _ _ ?_) | refine keepS hb9 (lt3 _ _ _) (built3 _ _ _ _ _ _ ?_)); (rfl)))); rintro e w' ⟨rfl, hb9, q3, q4, q5, q6, q7, q8, q9, q10, q11, qL, qB⟩))
        all_goals go_wp2_with fail
        all_goals go_ret2
        all_goals exact ⟨by rw [HR.out, HW.out]; rfl, by assumption⟩
      · have g1 : (x.kind == 1) = false := by rw [hk]; rfl
        have g2 : (x.kind == 2) = true := by rw [hk]; rfl
        obtain ⟨b1, b2, b3, b4, b5, b6, b7, b8, b9, b10, b11, b12, b13, b14, b15, b16, b17, b18, b19, b20⟩ := hbd
        obtain ⟨D, hD⟩ : ∃ D, D = bs (rowS [x.loss, x.pack, x.count, x.lo, x.hi]) := ⟨_, rfl⟩
        have hidD : Hid (∀ n ∈ [x.loss, x.pack, x.count, x.lo, x.hi], -1000000000 ≤ n ∧ n ≤ 1000000000) := by show ∀ n ∈ _, _; intro n hn; simp at hn; rcases hn with rfl | rfl | rfl | rfl | rfl <;> omega
        have hDz : D.size ≤ 5000 := by rw [hD]; exact join_len _ (by simp) hidD.out
        have HD := Lib.hid hD
        clear hD
        have ad0 := fun W => run_string_add_sum (P := Tryz.prog) W (H) D (by omega)
        have HW : Hid (writeB x = H ++ D) := by show _ = _; rw [writeB, if_neg (by omega), if_pos hk, headB, ← HA.out, ← HK.out, ← HH.out, ← HD.out]
        have hGc := Lib.hid (hG.below hBc)
        clear b1 b2 b3 b4 b5 b6 b7 b8 b9 b10 b11 b12 b13 b14 b15 b16 b17 b18 b19 b20 hDz hHz hAz hKz sz32 hm hg i1 i2 i3 i4 hid2
        go_wp2_with fail
        refine (nrow5 _ x.loss x.pack x.count x.lo x.hi D HD.out _ (lt_new _ _) (built_cell _ _ _ _ _ rfl) (built_cell _ _ _ _ _ rfl) (built_cell _ _ _ _ _ rfl) (built_cell _ _ _ _ _ rfl) (built_cell _ _ _ _ _ rfl) hidD.out (hGc.out.below ((Below.refl _ _).alloc (Nat.le_refl _) _))).mono ?_
        rintro e w' ⟨rfl, hb⟩
        have hB9 := keepB (below_al hBc _) hb
        clear hb
        go_wp2_with fail
        go_ret2
        exact ⟨by rw [HR.out, HW.out]; rfl, hB9⟩
      · have g1 : (x.kind == 1) = false := by rw [hk]; rfl
        have g2 : (x.kind == 2) = false := by rw [hk]; rfl
        obtain ⟨b1, b2, b3, b4, b5, b6, b7, b8, b9, b10, b11, b12, b13, b14, b15, b16, b17, b18, b19, b20⟩ := hbd
        obtain ⟨D, hD⟩ : ∃ D, D = bs (rowS [x.of]) := ⟨_, rfl⟩
        have hidD : Hid (∀ n ∈ [x.of], -1000000000 ≤ n ∧ n ≤ 1000000000) := by show ∀ n ∈ _, _; intro n hn; simp at hn; subst hn; omega
        have hDz : D.size ≤ 5000 := by rw [hD]; exact join_len _ (by simp) hidD.out
        have HD := Lib.hid hD
        clear hD
        have ad0 := fun W => run_string_add_sum (P := Tryz.prog) W (H) D (by omega)
        have HW : Hid (writeB x = H ++ D) := by show _ = _; rw [writeB, if_neg (by omega), if_neg (by omega), headB, ← HA.out, ← HK.out, ← HH.out, ← HD.out]
        have hGc := Lib.hid (hG.below hBc)
        clear b1 b2 b3 b4 b5 b6 b7 b8 b9 b10 b11 b12 b13 b14 b15 b16 b17 b18 b19 b20 hDz hHz hAz hKz sz32 hm hg i1 i2 i3 i4 hid2
        go_wp2_with fail
        refine (nrow1 _ x.of D HD.out _ (lt_new _ _) (built_cell _ _ _ _ _ rfl) hidD.out (hGc.out.below ((Below.refl _ _).alloc (Nat.le_refl _) _))).mono ?_
        rintro e w' ⟨rfl, hb⟩
        have hB9 := keepB (below_al hBc _) hb
        clear hb
        go_wp2_with fail
        go_ret2
        exact ⟨by rw [HR.out, HW.out]; rfl, hB9⟩

end Go.Proofs.YtpffpofdceppiaaGreatDoor
