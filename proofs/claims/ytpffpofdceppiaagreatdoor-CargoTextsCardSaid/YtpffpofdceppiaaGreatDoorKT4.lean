/- A part of the proof that laganlaw01.CargoTexts answers true at every input and leaves its arguments as they were; the conditions are those of the given row and card, nothing else. -/
import Derived.Test.YtpffpofdceppiaaGreatDoorKT1
import Derived.IntWalk
import Derived.BigRegion
import Derived.Defers
import Derived.Recover
import Derived.Laws.Pointers
set_option linter.unusedSimpArgs false
set_option linter.unusedVariables false
namespace Go.Proofs.YtpffpofdceppiaaGreatDoor
open Go.RowKit Go.Shelf

/-- What is taken from kid to kid. -/
def kidsFold (f : Int → (Int → Nd) → Option (Int → Nd)) : List Int → (Int → Nd) × Int × Int → Option ((Int → Nd) × Int × Int)
  | [], st => some st
  | q :: qs, st => match f q st.1 with
    | none => none
    | some S' => kidsFold f qs (S', st.2.1 + (S' q).low, st.2.2 + (S' q).own1)

/-- The least weights, from below; none: they contradict each other. -/
def riseS (K : Int → List Int) : Nat → Int → (Int → Nd) → Option (Int → Nd)
  | 0, _, _ => none
  | n + 1, p, S => match kidsFold (riseS K n) (K p) (S, (S p).missing, (S p).missing * 100000) with
    | none => none
    | some (S', lo, hi) =>
      if max lo (S' p).sum0 > min hi (S' p).sum1 ∨ max lo (S' p).sum0 > (S' p).own1 then none
      else some (upd S' p { S' p with low := max (S' p).own0 (max lo (S' p).sum0) })

theorem kidsFold_append (f : Int → (Int → Nd) → Option (Int → Nd)) (a b : List Int) (st : (Int → Nd) × Int × Int) : kidsFold f (a ++ b) st = (kidsFold f a st).bind (kidsFold f b) := by
  induction a generalizing st with
  | nil => rfl
  | cons q a ih =>
    simp only [List.cons_append, kidsFold]
    cases f q st.1 with
    | none => rfl
    | some S' => exact ih _

/-- The states differ in the least weights alone. -/
def SameN (S S' : Int → Nd) : Prop := ∀ p, S' p = { S p with low := (S' p).low }
theorem SameN.refl (S : Int → Nd) : SameN S S := fun _ => rfl
theorem SameN.trans {S S' S'' : Int → Nd} (h : SameN S S') (k : SameN S' S'') : SameN S S'' := fun p => by rw [k p, h p]
theorem SameN.upd (S : Int → Nd) (p v : Int) : SameN S (upd S p { S p with low := v }) := fun q => by
  by_cases e : q = p
  · subst e; simp [Go.Proofs.YtpffpofdceppiaaGreatDoor.upd]
  · simp [Go.Proofs.YtpffpofdceppiaaGreatDoor.upd, e]

theorem kidsFold_same (f : Int → (Int → Nd) → Option (Int → Nd)) (hf : ∀ q S S', f q S = some S' → SameN S S') (l : List Int) (st st' : (Int → Nd) × Int × Int) (h : kidsFold f l st = some st') : SameN st.1 st'.1 := by
  induction l generalizing st with
  | nil => cases h; exact .refl _
  | cons q l ih =>
    simp only [kidsFold] at h
    cases hq : f q st.1 with
    | none => rw [hq] at h; cases h
    | some S' => rw [hq] at h; exact (hf _ _ _ hq).trans (ih _ h)

theorem riseS_same (K : Int → List Int) : ∀ (n : Nat) (p : Int) (S S' : Int → Nd), riseS K n p S = some S' → SameN S S' := by
  intro n
  induction n with
  | zero => intro p S S' h; cases h
  | succ n ih =>
    intro p S S' h
    simp only [riseS] at h
    split at h
    · cases h
    · rename_i S1 lo hi hk
      split at h
      · cases h
      · cases h
        exact (kidsFold_same _ (fun q S S' => ih q S S') _ _ _ hk).trans (.upd _ _ _)

theorem grown_setCell (W : World) (b i : Nat) (v : Value) : W.grownBy (W.setCell ⟨b, i, none⟩ v) (some b) :=
  ⟨rfl, rfl, rfl, (KeepsWalks.setCell W _ v).size, fun k _ hk => Below.heap_setCell _ _ _ k (fun e => hk (by rw [e]))⟩

/-- Whatever lies in no node lies as it lay. -/
structure Off (A : Int → Nat) (D : List Int) (w w' : World) : Prop where
  os : w'.os = w.os
  tape : w'.tape = w.tape
  output : w'.output = w.output
  size : w.heap.size ≤ w'.heap.size
  block : ∀ k, k < w.heap.size → (∀ p ∈ D, k ≠ A p) → w'.heap[k]? = w.heap[k]?

theorem Off.refl (A : Int → Nat) (D : List Int) (w : World) : Off A D w w := ⟨rfl, rfl, rfl, Nat.le_refl _, fun _ _ _ => rfl⟩
theorem Off.trans {A : Int → Nat} {D : List Int} {a b c : World} (h : Off A D a b) (k : Off A D b c) : Off A D a c :=
  ⟨k.os.trans h.os, k.tape.trans h.tape, k.output.trans h.output, Nat.le_trans h.size k.size, fun i hi hn => (k.block i (Nat.lt_of_lt_of_le hi h.size) hn).trans (h.block i hi hn)⟩
theorem Off.drew {A : Int → Nat} {D : List Int} {a w : World} (h : Off A D a w) : Off A D a w.drew := ⟨h.os, h.tape, h.output, h.size, h.block⟩
theorem off_drewN {A : Int → Nat} {D : List Int} {a w : World} (h : Off A D a w) (n : Nat) : Off A D a (w.drewN n) := by
  have := below_drewN (Below.refl w.heap.size w) n
  exact ⟨this.os.trans h.os, this.tape.trans h.tape, this.output.trans h.output, Nat.le_trans h.size this.size, fun i hi hn => (this.block i (Nat.lt_of_lt_of_le hi h.size)).trans (h.block i hi hn)⟩
theorem Off.grown {A : Int → Nat} {D : List Int} {a w w' : World} {p : Int} (h : Off A D a w) (hp : p ∈ D) (hg : w.grownBy w' (some (A p))) : Off A D a w' :=
  ⟨hg.os.trans h.os, hg.tape.trans h.tape, hg.output.trans h.output, Nat.le_trans h.size hg.size, fun i hi hn => (hg.block i (Nat.lt_of_lt_of_le hi h.size) (fun e => hn p hp (by cases e; rfl))).trans (h.block i hi hn)⟩
theorem Off.below {A : Int → Nat} {D : List Int} {base : Nat} {w w' : World} (h : Off A D w w') (hb : base ≤ w.heap.size) (hl : ∀ p ∈ D, base ≤ A p) : Below base w w' :=
  ⟨h.os, h.tape, h.output, h.size, fun k hk => h.block k (by omega) (fun p hp e => by have := hl p hp; omega)⟩

/-- Numbers that cannot overflow. -/
structure BndN (d : Nd) : Prop where
  own0 : 0 ≤ d.own0 ∧ d.own0 ≤ 1099511627776
  own1 : 0 ≤ d.own1 ∧ d.own1 ≤ 1099511627776
  sum0 : 0 ≤ d.sum0 ∧ d.sum0 ≤ 1099511627776
  sum1 : 0 ≤ d.sum1 ∧ d.sum1 ≤ 1099511627776
  missing : 0 ≤ d.missing ∧ d.missing ≤ 40
  low : 0 ≤ d.low ∧ d.low ≤ 1099511627776

theorem BndN.low_set {d : Nd} (h : BndN d) (v : Int) (h0 : 0 ≤ v) (h1 : v ≤ 1099511627776) : BndN { d with low := v } := ⟨h.own0, h.own1, h.sum0, h.sum1, h.missing, h0, h1⟩

/-- The value that contradictions panic with. -/
def untrueV : Value := .iface 172 (.agg #[])

set_option maxRecDepth 100000 in
set_option maxHeartbeats 8000000 in
theorem rise_any (base : Nat) (K : Int → List Int) (A : Int → Nat) (D : List Int) (hKl : ∀ p ∈ D, (K p).length ≤ 1000) :
    ∀ (n : Nat) (p : Int), Deep K n p → p ∈ D → ∀ (S : Int → Nd) (W : World), Forest W base K A S D → (∀ q ∈ D, BndN (S q)) → base ≤ W.heap.size →
    Calls Tryz.prog 169 #[.pointer (some ⟨A p, 0, none⟩)] W fun e W' =>
      (∃ S', riseS K n p S = some S' ∧ e = .returned (.tuple #[]) ∧ Forest W' base K A S' D ∧ (∀ q ∈ D, BndN (S' q)) ∧ Off A D W W') ∨
      (riseS K n p S = none ∧ e = .panicked [{ v := untrueV, recovered := false }] ∧ Off A D W W') := by
  intro n
  induction n with
  | zero => intro p h; exact h.elim
  | succ n ih =>
    intro p hd hp S W hF hbn hbW
    obtain ⟨a, c, hk1, hk2, hk3, hk4⟩ := hF.kid hp
    have hkl := hKl p hp
    have hN := hF.node p hp
    have hkp : W.cell? ⟨A p, 16, none⟩ = some (.slice a (K p).length c) := by rw [← hk1]; exact hN.kids
    have hmis := hN.missing
    have HB := Lib.hid (hbn p hp)
    obtain ⟨hm0, hm1⟩ := (hbn p hp).missing
    have HF := Lib.hid hF
    have HBN := Lib.hid hbn
    have IH := Lib.hid ih
    have HD := Lib.hid hd
    have HR : Hid (riseS K (n + 1) p S = match kidsFold (riseS K n) (K p) (S, (S p).missing, (S p).missing * 100000) with
      | none => none
      | some (S', lo, hi) => if max lo (S' p).sum0 > min hi (S' p).sum1 ∨ max lo (S' p).sum0 > (S' p).own1 then none else some (upd S' p { S' p with low := max (S' p).own0 (max lo (S' p).sum0) })) := by show _ = _; rw [riseS]
    obtain ⟨st0, hst0⟩ : ∃ st0 : (Int → Nd) × Int × Int, st0 = (S, (S p).missing, (S p).missing * 100000) := ⟨_, rfl⟩
    rw [← hst0] at HR
    have HST := Lib.hid hst0
    clear ih hk4 hd hN hF hbn hst0
    generalize (S p).missing = m at *
    have iw : IntKind.i64.wrap (m * 100000) = m * 100000 := IntWalk.i64_in _ (by omega)
    go_enter Tryz.func169, Tryz.ntmps169
    go_wp2_with fail
    go_quiet (fail)
    go_wp2_with fail
    go_loopw [2, 3, 20] (fun s2 s3 s20 wr => ∃ (k : Nat) (Si : Int → Nd) (lo hi : Int), k ≤ (K p).length ∧ s2 = .int .i64 lo ∧ s3 = .int .i64 hi ∧ s20 = .int .i64 k ∧ Hid (kidsFold (riseS K n) ((K p).take k) st0 = some (Si, lo, hi) ∧ Forest wr base K A Si D ∧ (∀ q ∈ D, BndN (Si q)) ∧ SameN S Si ∧ Off A D W wr) ∧
      0 ≤ lo ∧ lo ≤ 40 + 1099511627776 * k ∧ 0 ≤ hi ∧ hi ≤ 4000000 + 1099511627776 * k) (fun _ _ s20 _ => (K p).length - (intOf s20).toNat)
    case atStart => exact ⟨0, S, m, m * 100000, Nat.zero_le _, rfl, rfl, rfl, ⟨by rw [HST.out]; rfl, HF.out.below (fun _ _ => rfl), HBN.out, .refl _, off_drewN (.refl _ _ _) _⟩, by omega, by omega, by omega, by omega⟩
    case round =>
      obtain ⟨k, Si, lo, hi, hk, rfl, rfl, rfl, HX, b0, b1, b2, b3⟩ := hrel
      by_cases hlt : k < (K p).length
      · obtain ⟨a', c', e1, e2, e3, e4⟩ := HX.out.2.1.kid hp
        have ek : (Si p).kids = (S p).kids := by rw [HX.out.2.2.2.1 p]
        rw [e1, hk1] at ek
        cases ek
        obtain ⟨g, rfl, hcell⟩ := e4 (by omega)
        have hck : wr.cell? ⟨g, k, none⟩ = some (.pointer (some ⟨A (K p)[k], 0, none⟩)) := hcell k hlt
        have hqD : (K p)[k] ∈ D := HX.out.2.1.closed p hp _ (List.getElem_mem hlt)
        have hC := Lib.hid (IH.out (K p)[k] (HD.out _ (List.getElem_mem hlt)) hqD Si wr HX.out.2.1 HX.out.2.2.1 (Nat.le_trans hbW HX.out.2.2.2.2.size))
        have hT : Hid (∀ r, riseS K n (K p)[k] Si = r → kidsFold (riseS K n) ((K p).take (k + 1)) st0 = match r with | none => none | some S' => some (S', lo + (S' (K p)[k]).low, hi + (S' (K p)[k]).own1)) := fun r hr => by
          rw [List.take_succ_eq_append_getElem hlt, kidsFold_append, HX.out.1]
          simp only [Option.bind_some, kidsFold, hr]
        have hT2 : Hid (kidsFold (riseS K n) ((K p).take (k + 1)) st0 = none → riseS K (n + 1) p S = none) := fun hq => by
          rw [HR.out]
          have : kidsFold (riseS K n) (K p) st0 = none := by
            have h2 := kidsFold_append (riseS K n) ((K p).take (k + 1)) ((K p).drop (k + 1)) st0
            rw [List.take_append_drop, hq] at h2
            exact h2
          rw [this]
        clear hcell IH e4 e1
        generalize (K p)[k] = q at *
        go_wp2_with fail
        refine hC.out.mono ?_
        rintro e w2 (⟨S2, hr2, rfl, hF2, hb2, hB2⟩ | ⟨hr2, rfl, hB2⟩)
        · have hN2 := hF2.node q hqD
          have l2 := hN2.low
          have o2 := hN2.own1
          obtain ⟨x0, x1⟩ := (hb2 q hqD).low
          obtain ⟨y0, y1⟩ := (hb2 q hqD).own1
          have hT3 : kidsFold (riseS K n) ((K p).take (k + 1)) st0 = some (S2, lo + (S2 q).low, hi + (S2 q).own1) := (hT.out _ hr2)
          have hsn := riseS_same K n q Si S2 hr2
          have HX2 : Hid (Forest w2 base K A S2 D ∧ (∀ q ∈ D, BndN (S2 q)) ∧ SameN S S2 ∧ Off A D W w2) := ⟨hF2, hb2, HX.out.2.2.2.1.trans hsn, HX.out.2.2.2.2.trans hB2⟩
          clear hT hT2 hC HX hF2 hb2 hB2 hr2 hN2 hsn hck
          generalize (S2 q).low = lw at *
          generalize (S2 q).own1 = ow at *
          have hT3 := Lib.hid hT3
          have iw1 : IntKind.i64.wrap (lo + lw) = lo + lw := IntWalk.i64_in _ (by omega)
          have iw2 : IntKind.i64.wrap (hi + ow) = hi + ow := IntWalk.i64_in _ (by omega)
          go_wp2_with fail
          go_quiet (fail)
          go_wp2_with fail
          go_roundw
          case rel => exact ⟨k + 1, S2, lo + lw, hi + ow, by omega, by go_num, by go_num, by go_num, ⟨hT3.out, HX2.out.1.below (fun _ _ => rfl), HX2.out.2.1, HX2.out.2.2.1, off_drewN HX2.out.2.2.2 _⟩, by omega, by omega, by omega, by omega⟩
          case measure => simp [intOf]; omega
        · have hno := hT2.out (hT.out _ hr2)
          clear hT hT2
          go_wp2_with fail
          exact ⟨rfl, .inr ⟨hno, rfl, HX.out.2.2.2.2.trans hB2⟩⟩
      · obtain rfl : k = (K p).length := by omega
        rw [List.take_of_length_le (Nat.le_refl _)] at HX
        have hN := HX.out.2.1.node p hp
        have hb := HX.out.2.2.1 p hp
        have s0 := hN.sum0
        have s1 := hN.sum1
        have o0 := hN.own0
        have o1 := hN.own1
        obtain ⟨x0, x1⟩ := hb.sum0
        obtain ⟨y0, y1⟩ := hb.sum1
        obtain ⟨z0, z1⟩ := hb.own0
        obtain ⟨t0, t1⟩ := hb.own1
        have hfz := hN.frozen 22
        have lw := hN.low
        have hR2 := Lib.hid (HR.out)
        rw [HX.out.1] at hR2
        have HR2 : Hid (riseS K (n + 1) p S = if max lo (Si p).sum0 > min hi (Si p).sum1 ∨ max lo (Si p).sum0 > (Si p).own1 then none else some (upd Si p { Si p with low := max (Si p).own0 (max lo (Si p).sum0) })) := hR2
        clear hR2 HR IH
        have HN := Lib.hid hN
        clear hN hb
        go_wp2_with fail
        go_region
        clear s0 s1
        generalize max lo (Si p).sum0 = lo2 at *
        generalize min hi (Si p).sum1 = hi2 at *
        by_cases g1 : hi2 < lo2
        · go_wp2_with fail
          exact ⟨rfl, .inr ⟨by rw [HR2.out, if_pos (.inl g1)], rfl, HX.out.2.2.2.2.drew⟩⟩
        · by_cases g2 : (Si p).own1 < lo2
          · go_wp2_with fail
            exact ⟨rfl, .inr ⟨by rw [HR2.out, if_pos (.inr g2)], rfl, HX.out.2.2.2.2.drew⟩⟩
          · have HR3 : Hid (riseS K (n + 1) p S = some (upd Si p { Si p with low := max (Si p).own0 lo2 })) := by show _ = _; rw [HR2.out, if_neg (by omega)]
            go_wp2_with fail
            go_end0
            refine .inl ⟨_, HR3.out, rfl, (HX.out.2.1.set hp { Si p with low := max (Si p).own0 lo2 } rfl (HN.out.set_low (max (Si p).own0 lo2)) (grown_setCell _ _ _ _)).below (fun _ _ => rfl), ?_, (HX.out.2.2.2.2.grown hp (grown_setCell _ _ _ _)).drew⟩
            intro q hq
            by_cases e : q = p
            · subst e
              rw [upd_same]
              exact (HX.out.2.2.1 q hq).low_set _ (by omega) (by omega)
            · rw [upd_other _ _ _ _ e]; exact HX.out.2.2.1 q hq

end Go.Proofs.YtpffpofdceppiaaGreatDoor

set_option linter.unusedSimpArgs false
set_option linter.unusedVariables false
namespace Go.Proofs.YtpffpofdceppiaaGreatDoor
open Go.RowKit Go.Shelf

def lows (S : Int → Nd) (m : Int) (l : List Int) : Int := l.foldl (fun a q => a + (S q).low) m
def highs (S : Int → Nd) (m : Int) (l : List Int) : Int := l.foldl (fun a q => a + (S q).own1) m
def sinkStep (f : Int → (Int → Nd) → (Int → Nd)) (top lo hi s0 : Int) (S : Int → Nd) (q : Int) : Int → Nd :=
  f q (upd S q { S q with end0 := max (S q).low (s0 - (hi - (S q).own1)), end1 := min (S q).own1 (top - (lo - (S q).low)) })
/-- The ends, from above. -/
def sinkS (K : Int → List Int) : Nat → Int → (Int → Nd) → (Int → Nd)
  | 0, _, S => S
  | n + 1, p, S => (K p).foldl (sinkStep (sinkS K n) (min (S p).sum1 (S p).end1) (lows S (S p).missing (K p)) (highs S ((S p).missing * 100000) (K p)) (S p).sum0) S

/-- The states differ in the ends alone. -/
def SameE (S S' : Int → Nd) : Prop := ∀ p, S' p = { S p with end0 := (S' p).end0, end1 := (S' p).end1 }
theorem SameE.refl (S : Int → Nd) : SameE S S := fun _ => rfl
theorem SameE.trans {S S' S'' : Int → Nd} (h : SameE S S') (k : SameE S' S'') : SameE S S'' := fun p => by rw [k p, h p]
theorem SameE.upd (S : Int → Nd) (p u v : Int) : SameE S (upd S p { S p with end0 := u, end1 := v }) := fun q => by
  by_cases e : q = p
  · subst e; simp [Go.Proofs.YtpffpofdceppiaaGreatDoor.upd]
  · simp [Go.Proofs.YtpffpofdceppiaaGreatDoor.upd, e]

theorem sinkFold_same (f : Int → (Int → Nd) → (Int → Nd)) (hf : ∀ q S, SameE S (f q S)) (top lo hi s0 : Int) (l : List Int) (S : Int → Nd) : SameE S (l.foldl (sinkStep f top lo hi s0) S) := by
  induction l generalizing S with
  | nil => exact .refl _
  | cons q l ih => exact ((SameE.upd S q _ _).trans (hf q _)).trans (ih _)

theorem sinkS_same (K : Int → List Int) : ∀ (n : Nat) (p : Int) (S : Int → Nd), SameE S (sinkS K n p S) := by
  intro n
  induction n with
  | zero => exact fun p S => .refl S
  | succ n ih => exact fun p S => sinkFold_same _ (fun q S => ih q S) _ _ _ _ _ _

theorem BndN.ends {d : Nd} (h : BndN d) (u v : Int) : BndN { d with end0 := u, end1 := v } := ⟨h.own0, h.own1, h.sum0, h.sum1, h.missing, h.low⟩
theorem BndN.sameE {S S' : Int → Nd} (h : SameE S S') {p : Int} (hb : BndN (S p)) : BndN (S' p) := by rw [h p]; exact hb.ends _ _

set_option maxRecDepth 100000 in
set_option maxHeartbeats 8000000 in
theorem sink_any (base : Nat) (K : Int → List Int) (A : Int → Nat) (D : List Int) (hKl : ∀ p ∈ D, (K p).length ≤ 1000) :
    ∀ (n : Nat) (p : Int), Deep K n p → n ≤ 1000 → p ∈ D → ∀ (S : Int → Nd) (W : World), Forest W base K A S D → (∀ q ∈ D, BndN (S q)) → base ≤ W.heap.size →
    -(2251799813685248 * (1000 - (n : Int))) ≤ (S p).end1 → (S p).end1 ≤ 1099511627776 →
    Calls Tryz.prog 170 #[.pointer (some ⟨A p, 0, none⟩)] W fun e W' => e = .returned (.tuple #[]) ∧ Forest W' base K A (sinkS K n p S) D ∧ Off A D W W' := by
  intro n
  induction n with
  | zero => intro p h; exact h.elim
  | succ n ih =>
    intro p hd hn hp S W hF hbn hbW he0 he1
    obtain ⟨a, c, hk1, hk2, hk3, hk4⟩ := hF.kid hp
    have hkl := hKl p hp
    have hN := hF.node p hp
    have hkp : W.cell? ⟨A p, 16, none⟩ = some (.slice a (K p).length c) := by rw [← hk1]; exact hN.kids
    have hmis := hN.missing
    have s1 := hN.sum1
    have t1 := hN.end1
    obtain ⟨hm0, hm1⟩ := (hbn p hp).missing
    obtain ⟨x0, x1⟩ := (hbn p hp).sum1
    obtain ⟨y0, y1⟩ := (hbn p hp).sum0
    have HF := Lib.hid hF
    have HBN := Lib.hid hbn
    have IH := Lib.hid ih
    have HD := Lib.hid hd
    have HR : Hid (sinkS K (n + 1) p S = (K p).foldl (sinkStep (sinkS K n) (min (S p).sum1 (S p).end1) (lows S (S p).missing (K p)) (highs S ((S p).missing * 100000) (K p)) (S p).sum0) S) := by show _ = _; rw [sinkS]
    clear ih hk4 hd hN hF hbn
    obtain ⟨s0, hs0⟩ : ∃ s0, s0 = (S p).sum0 := ⟨_, rfl⟩
    rw [← hs0] at HR y0 y1
    have HS0 := Lib.hid hs0
    clear hs0
    generalize (S p).missing = m at *
    generalize (S p).sum1 = su1 at *
    generalize (S p).end1 = en1 at *
    have iw : IntKind.i64.wrap (m * 100000) = m * 100000 := IntWalk.i64_in _ (by omega)
    go_enter Tryz.func170, Tryz.ntmps170
    go_wp2_with fail
    go_region
    generalize htop : min su1 en1 = top at *
    have ht0 : -(2251799813685248 * (1000 - ((n : Int) + 1))) ≤ top ∧ top ≤ 1099511627776 := by omega
    clear htop s1 t1 he0 he1 x0 x1
    go_wp2_with fail
    go_quiet (fail)
    go_wp2_with fail
    go_loopw [3, 4, 34] (fun s3 s4 s34 wr => ∃ (k : Nat) (lo hi : Int), k ≤ (K p).length ∧ s3 = .int .i64 lo ∧ s4 = .int .i64 hi ∧ s34 = .int .i64 k ∧ Hid (lows S m ((K p).take k) = lo ∧ highs S (m * 100000) ((K p).take k) = hi ∧ Forest wr base K A S D ∧ Off A D W wr) ∧
      0 ≤ lo ∧ lo ≤ 40 + 1099511627776 * k ∧ 0 ≤ hi ∧ hi ≤ 4000000 + 1099511627776 * k) (fun _ _ s34 _ => (K p).length - (intOf s34).toNat)
    case atStart => exact ⟨0, m, m * 100000, Nat.zero_le _, rfl, rfl, rfl, ⟨rfl, rfl, HF.out.below (fun _ _ => rfl), off_drewN (.refl _ _ _) _⟩, by omega, by omega, by omega, by omega⟩
    case round =>
      obtain ⟨k, lo, hi, hk, rfl, rfl, rfl, HX, b0, b1, b2, b3⟩ := hrel
      by_cases hlt : k < (K p).length
      · obtain ⟨a', c', e1, e2, e3, e4⟩ := HX.out.2.2.1.kid hp
        rw [hk1] at e1
        cases e1
        obtain ⟨g, rfl, hcell⟩ := e4 (by omega)
        have hck : wr.cell? ⟨g, k, none⟩ = some (.pointer (some ⟨A (K p)[k], 0, none⟩)) := hcell k hlt
        have hqD : (K p)[k] ∈ D := HX.out.2.2.1.closed p hp _ (List.getElem_mem hlt)
        have hT : Hid (lows S m ((K p).take (k + 1)) = lo + (S (K p)[k]).low ∧ highs S (m * 100000) ((K p).take (k + 1)) = hi + (S (K p)[k]).own1) := by
          show _ ∧ _
          rw [List.take_succ_eq_append_getElem hlt, lows, highs, List.foldl_append, List.foldl_append, ← HX.out.1, ← HX.out.2.1]
          exact ⟨rfl, rfl⟩
        clear hcell IH e4
        have hN2 := HX.out.2.2.1.node _ hqD
        have l2 := hN2.low
        have o2 := hN2.own1
        obtain ⟨x0, x1⟩ := (HBN.out _ hqD).low
        obtain ⟨z0, z1⟩ := (HBN.out _ hqD).own1
        clear hN2
        generalize (K p)[k] = q at *
        generalize (S q).low = lw at *
        generalize (S q).own1 = ow at *
        have iw1 : IntKind.i64.wrap (lo + lw) = lo + lw := IntWalk.i64_in _ (by omega)
        have iw2 : IntKind.i64.wrap (hi + ow) = hi + ow := IntWalk.i64_in _ (by omega)
        go_wp2_with fail
        go_quiet (fail)
        go_wp2_with fail
        go_roundw
        case rel => exact ⟨k + 1, lo + lw, hi + ow, by omega, by go_num, by go_num, by go_num, ⟨hT.out.1, hT.out.2, HX.out.2.2.1.below (fun _ _ => rfl), off_drewN HX.out.2.2.2 _⟩, by omega, by omega, by omega, by omega⟩
        case measure => simp [intOf]; omega
      · obtain rfl : k = (K p).length := by omega
        rw [List.take_of_length_le (Nat.le_refl _)] at HX
        obtain ⟨hlo, hhi, hF2, hB2⟩ := HX.out
        clear HX
        have hN := hF2.node p hp
        have hkp2 : wr.cell? ⟨A p, 16, none⟩ = some (.slice a (K p).length c) := by rw [← hk1]; exact hN.kids
        have HR2 : Hid (sinkS K (n + 1) p S = (K p).foldl (sinkStep (sinkS K n) top lo hi s0) S) := by show _ = _; rw [HR.out, hlo, hhi]
        have HF2 := Lib.hid hF2
        have HB2 := Lib.hid hB2
        clear hlo hhi hF2 hB2 HR hN
        obtain ⟨wo, rfl⟩ : ∃ wo : World, wo = wr := ⟨_, rfl⟩
        go_wp2_with fail
        go_loopw [57] (fun s57 wr => ∃ (k : Nat) (Si : Int → Nd), k ≤ (K p).length ∧ s57 = .int .i64 k ∧ Hid (((K p).take k).foldl (sinkStep (sinkS K n) top lo hi s0) S = Si ∧ Forest wr base K A Si D ∧ (∀ q ∈ D, BndN (Si q)) ∧ SameE S Si ∧ Off A D W wr)) (fun s57 _ => (K p).length - (intOf s57).toNat)
        case atStart => exact ⟨0, S, Nat.zero_le _, rfl, rfl, HF2.out, HBN.out, .refl _, HB2.out⟩
        case round =>
          obtain ⟨k, Si, hk, rfl, HX⟩ := hrel
          by_cases hlt : k < (K p).length
          · obtain ⟨a', c', e1, e2, e3, e4⟩ := HX.out.2.1.kid hp
            have ek : (Si p).kids = (S p).kids := by rw [HX.out.2.2.2.1 p]
            rw [e1, hk1] at ek
            cases ek
            obtain ⟨g, rfl, hcell⟩ := e4 (by omega)
            have hck : wr.cell? ⟨g, k, none⟩ = some (.pointer (some ⟨A (K p)[k], 0, none⟩)) := hcell k hlt
            have hqD : (K p)[k] ∈ D := HX.out.2.1.closed p hp _ (List.getElem_mem hlt)
            have hqd : Deep K n (K p)[k] := HD.out _ (List.getElem_mem hlt)
            have hT : Hid (((K p).take (k + 1)).foldl (sinkStep (sinkS K n) top lo hi s0) S = sinkStep (sinkS K n) top lo hi s0 Si (K p)[k]) := by
              show _ = _
              rw [List.take_succ_eq_append_getElem hlt, List.foldl_append, HX.out.1]
              rfl
            clear hcell e4
            have hNp := HX.out.2.1.node p hp
            have e0 : (Si p).sum0 = s0 := by rw [HX.out.2.2.2.1 p, HS0.out]
            have sp := hNp.sum0
            rw [e0] at sp
            have hNq := HX.out.2.1.node _ hqD
            have l2 := hNq.low
            have o2 := hNq.own1
            have en0 := hNq.end0
            have fz0 := hNq.frozen 23
            obtain ⟨x0, x1⟩ := (HX.out.2.2.1 _ hqD).low
            obtain ⟨z0, z1⟩ := (HX.out.2.2.1 _ hqD).own1
            have HNq := Lib.hid hNq
            clear hNp e0 hNq
            generalize (K p)[k] = q at *
            obtain ⟨lw, hlw⟩ : ∃ lw, lw = (Si q).low := ⟨_, rfl⟩
            obtain ⟨ow, how⟩ : ∃ ow, ow = (Si q).own1 := ⟨_, rfl⟩
            rw [← hlw] at l2 x0 x1
            rw [← how] at o2 z0 z1
            have HLW := Lib.hid hlw
            have HOW := Lib.hid how
            clear hlw how
            have iw1 : IntKind.i64.wrap (hi - ow) = hi - ow := IntWalk.i64_in _ (by omega)
            have iw2 : IntKind.i64.wrap (s0 - (hi - ow)) = s0 - (hi - ow) := IntWalk.i64_in _ (by omega)
            go_wp2_with fail
            go_region
            obtain ⟨V0, hV0⟩ : ∃ V0, V0 = max lw (s0 - (hi - ow)) := ⟨_, rfl⟩
            rw [← hV0]
            have hN1 : NodeAt (wr.setCell ⟨A q, 23, none⟩ (.int .i64 V0)).drew (A q) q { Si q with end0 := V0 } := (HNq.out.set_end0 V0).of_heap rfl
            have hg1 : wr.grownBy (wr.setCell ⟨A q, 23, none⟩ (.int .i64 V0)).drew (some (A q)) := by
              have := grown_setCell wr (A q) 23 (.int .i64 V0)
              exact ⟨this.os, this.tape, this.output, this.size, this.block⟩
            generalize (wr.setCell ⟨A q, 23, none⟩ (.int .i64 V0)).drew = w2 at *
            have l3 := hN1.low
            have o3 := hN1.own1
            have en3 := hN1.end1
            have fz3 := hN1.frozen 24
            rw [show ({ Si q with end0 := V0 } : Nd).low = lw from HLW.out.symm] at l3
            rw [show ({ Si q with end0 := V0 } : Nd).own1 = ow from HOW.out.symm] at o3
            have HN1 := Lib.hid hN1
            have HG1 := Lib.hid hg1
            have HV0 := Lib.hid hV0
            clear hN1 hg1 hV0 l2 o2 en0 fz0 sp iw1 iw2 hck
            have iw1 : IntKind.i64.wrap (lo - lw) = lo - lw := IntWalk.i64_in _ (by omega)
            have iw2 : IntKind.i64.wrap (top - (lo - lw)) = top - (lo - lw) := IntWalk.i64_in _ (by omega)
            go_wp2_with fail
            go_region
            obtain ⟨V1, hV1⟩ : ∃ V1, V1 = min ow (top - (lo - lw)) := ⟨_, rfl⟩
            rw [← hV1]
            have hN2 : NodeAt (w2.setCell ⟨A q, 24, none⟩ (.int .i64 V1)).drew (A q) q { Si q with end0 := V0, end1 := V1 } := (HN1.out.set_end1 V1).of_heap rfl
            have hg2 : wr.grownBy (w2.setCell ⟨A q, 24, none⟩ (.int .i64 V1)).drew (some (A q)) := by
              have h1 := HG1.out
              have h2 := grown_setCell w2 (A q) 24 (.int .i64 V1)
              exact ⟨h2.os.trans h1.os, h2.tape.trans h1.tape, h2.output.trans h1.output, Nat.le_trans h1.size h2.size, fun k hk hne => (h2.block k (Nat.lt_of_lt_of_le hk h1.size) hne).trans (h1.block k hk hne)⟩
            generalize (w2.setCell ⟨A q, 24, none⟩ (.int .i64 V1)).drew = w3 at *
            have hF3 := HX.out.2.1.set hqD { Si q with end0 := V0, end1 := V1 } rfl hN2 hg2
            have hB3 := HX.out.2.2.2.2.grown hqD hg2
            have hb3 : ∀ r ∈ D, BndN (upd Si q { Si q with end0 := V0, end1 := V1 } r) := fun r hr => (HX.out.2.2.1 r hr).sameE (SameE.upd Si q V0 V1)
            have hC := Lib.hid (IH.out q hqd (by omega) hqD _ w3 hF3 hb3 (Nat.le_trans hbW hB3.size) (by rw [upd_same]; show _ ≤ V1; omega) (by rw [upd_same]; show V1 ≤ _; omega))
            have hT2 : Hid (((K p).take (k + 1)).foldl (sinkStep (sinkS K n) top lo hi s0) S = sinkS K n q (upd Si q { Si q with end0 := V0, end1 := V1 })) := by
              show _ = _
              rw [hT.out, sinkStep, ← HLW.out, ← HOW.out, ← HV0.out, ← hV1]
            have HB3 := Lib.hid hB3
            have HSE := Lib.hid ((HX.out.2.2.2.1.trans (SameE.upd Si q V0 V1)).trans (sinkS_same K n q _))
            have HBN3 := Lib.hid (fun r (hr : r ∈ D) => (hb3 r hr).sameE (sinkS_same K n q _))
            clear hN2 hg2 hF3 hB3 hb3 hT HX HN1 HG1 IH hV1 l3 o3 en3 fz3 iw1 iw2
            go_wp2_with fail
            refine hC.out.mono ?_
            rintro e w4 ⟨rfl, hF4, hB4⟩
            have HX4 := Lib.hid (And.intro hF4 hB4)
            clear hF4 hB4 hC
            go_wp2_with fail
            go_roundw
            case rel => exact ⟨k + 1, _, by omega, by go_num, ⟨hT2.out, HX4.out.1, HBN3.out, HSE.out, HB3.out.trans HX4.out.2⟩⟩
            case measure => simp [intOf]; omega
          · obtain rfl : k = (K p).length := by omega
            rw [List.take_of_length_le (Nat.le_refl _)] at HX
            clear IH
            go_wp2_with fail
            go_end0
            exact ⟨rfl, by rw [HR2.out, HX.out.1]; exact HX.out.2.1, HX.out.2.2.2.2⟩

end Go.Proofs.YtpffpofdceppiaaGreatDoor

set_option linter.unusedSimpArgs false
set_option linter.unusedVariables false
namespace Go.Proofs.YtpffpofdceppiaaGreatDoor
open Go.RowKit Go.Shelf

/-- Whether there is a completion, and the ends. -/
def solvedS (K : Int → List Int) (n : Nat) (p : Int) (S : Int → Nd) : Option (Int → Nd) :=
  match riseS K n p S with
  | none => none
  | some S1 => some (sinkS K n p (upd S1 p { S1 p with end0 := (S1 p).own0, end1 := (S1 p).own1 }))

set_option maxRecDepth 100000 in
set_option maxHeartbeats 4000000 in
theorem catch_panic (b : Nat) (x : Bool) (w : World) (hc : w.cell? ⟨b, 0, none⟩ = some (.bool x)) (hz : w.frozen? ⟨b, 0, none⟩ = false) :
    CallsD Tryz.prog 168 #[.pointer (some ⟨b, 0, none⟩)] (.panicking [{ v := untrueV, recovered := false }]) w fun e u' w' =>
      e = .returned (.tuple #[]) ∧ u' = .panicking [{ v := untrueV, recovered := true }] ∧ w' = (w.setCell ⟨b, 0, none⟩ (.bool false)).alloc (.cells #[] 172) := by
  have hlt : b < w.heap.size := by
    obtain ⟨ob, ho, _⟩ := cells_of_cell hc
    exact (Array.getElem?_eq_some_iff.1 ho).1
  refine callsD_of_wpS Tryz.func168 rfl fun c₀ cs hu => ?_
  simp only [Tryz.ntmps168, List.size_toArray, List.length_cons, List.length_nil, Nat.reduceAdd, Nat.reduceSub, Array.replicate_succ, Array.replicate_zero, List.push_toArray, List.append_toArray, List.nil_append, List.cons_append]
  apply wpS_seq
  apply wpS_region
  simp [wpOpsS, go_sem, recoverD, hu, Exit.thenS]
  refine wpS_of_wp ?_
  have hq : ∀ w : World, (binOp .neq 20 untrueV .nilIface).run Tryz.prog w = .ok (.bool true) w := fun w => by kernel_rfl
  have hg : ∀ w : World, (eqGuard .neq 20 (.tmp 5) (.const .nilIface) untrueV .nilIface).run Tryz.prog w = .ok () w := fun w => by kernel_rfl
  have ht : ∀ w : World, (Instr.typeAssert untrueV 20 172 true).run Tryz.prog w = .ok (.tuple #[.agg #[], .bool true]) w := fun w => by kernel_rfl
  have hc2 : (w.alloc (.cells #[] 172)).cell? ⟨b, 0, none⟩ = some (.bool x) := (World.cell?_of_block (w := w) (Below.heap_alloc _ _ _ hlt)).trans hc
  have hz2 : (w.alloc (.cells #[] 172)).frozen? ⟨b, 0, none⟩ = false := (World.frozen?_of_block (w := w) (Below.heap_alloc _ _ _ hlt)).trans hz
  go_wp2_with fail
  cases c₀
  simp_all [bodyPostS, results, Tryz.results168]

theorem catch_idle (b : Nat) (w : World) :
    CallsD Tryz.prog 168 #[.pointer (some ⟨b, 0, none⟩)] .returning w fun e u' w' => e = .returned (.tuple #[]) ∧ u' = .returning ∧ w' = w := by
  refine callsD_of_wpS Tryz.func168 rfl fun c₀ cs hu => ?_
  simp only [Tryz.ntmps168, List.size_toArray, List.length_cons, List.length_nil, Nat.reduceAdd, Nat.reduceSub, Array.replicate_succ, Array.replicate_zero, List.push_toArray, List.append_toArray, List.nil_append, List.cons_append]
  apply wpS_seq
  apply wpS_region
  simp [wpOpsS, go_sem, recoverD, hu, Exit.thenS]
  refine wpS_of_wp ?_
  have hq : ∀ w : World, (binOp .neq 20 .nilIface .nilIface).run Tryz.prog w = .ok (.bool false) w := fun w => by kernel_rfl
  go_wp2_with fail
  cases c₀
  simp_all [bodyPostS, results, Tryz.results168]


theorem Off.alloc {A : Int → Nat} {D : List Int} {a w : World} (h : Off A D a w) (o : Obj) : Off A D a (w.alloc o) :=
  ⟨h.os, h.tape, h.output, Nat.le_trans h.size (by simp), fun i hi hn => (Below.heap_alloc _ _ _ (Nat.lt_of_lt_of_le hi h.size)).trans (h.block i hi hn)⟩
theorem Off.newCell {A : Int → Nat} {D : List Int} {a w : World} (h : Off A D a w) {b i : Nat} (hb : a.heap.size ≤ b) (v : Value) : Off A D a (w.setCell ⟨b, i, none⟩ v) :=
  ⟨h.os, h.tape, h.output, Nat.le_trans h.size (by simp [World.setCell]), fun k hi hn => (Below.heap_setCell _ _ _ _ (by simp; omega)).trans (h.block k hi hn)⟩

/-- A store into a block of another type. -/
theorem Forest.elsewhere {w : World} {base : Nat} {K : Int → List Int} {A : Int → Nat} {S : Int → Nd} {D : List Int} (h : Forest w base K A S D) {b i : Nat} {cs : Array Value} {t : TypeId} {fr : Nat × Nat} (hb : w.heap[b]? = some (.cells cs t fr)) (h1 : t ≠ 117) (h2 : t ≠ 101) (v : Value) : Forest (w.setCell ⟨b, i, none⟩ v) base K A S D where
  node q hq := (h.node q hq).of_heap (Below.heap_setCell _ _ _ _ (fun e => by
    have e : A q = b := e
    have := h.node q hq
    rw [NodeAt, e, hb] at this
    simp at this
    exact h1 this.2.1))
  row q hq := by
    refine (h.row q hq).kept (grown_setCell _ _ _ _) ?_
    rcases (h.row q hq).2 with ⟨e, _⟩ | ⟨g, cap, cur, e, _, hg, _⟩
    · rw [e]; exact .inl rfl
    · rw [e]
      refine .inr fun e2 => ?_
      have e2 : g = b := by simpa [Value.ownBlock] using e2
      rw [e2, hb] at hg
      simp at hg
      exact h2 hg.2.1
  lo := h.lo
  inj := h.inj
  closed := h.closed

set_option maxRecDepth 100000 in
set_option maxHeartbeats 4000000 in
theorem solved_any (base : Nat) (K : Int → List Int) (A : Int → Nat) (D : List Int) (hKl : ∀ p ∈ D, (K p).length ≤ 1000) (n : Nat) (p : Int) (hd : Deep K n p) (hn : n ≤ 1000) (hp : p ∈ D) (S : Int → Nd) (W : World) (hF : Forest W base K A S D) (hbn : ∀ q ∈ D, BndN (S q)) (hbW : base ≤ W.heap.size) :
    Calls Tryz.prog 117 #[.pointer (some ⟨A p, 0, none⟩)] W fun e W' =>
      (∃ S', solvedS K n p S = some S' ∧ e = .returned (.bool true) ∧ Forest W' base K A S' D ∧ (∀ q ∈ D, BndN (S' q)) ∧ Off A D W W') ∨
      (solvedS K n p S = none ∧ e = .returned (.bool false) ∧ Off A D W W') := by
  have hmf : ∀ (fn : Fn) (first cap : Array Value) (w : World), (Instr.makeFunc fn first cap).run Tryz.prog w = .ok (.func fn first cap) w := fun _ _ _ _ => rfl
  have hF0 : Forest (W.alloc (.cells #[.bool false] 4)) base K A S D := hF.below (fun k hk => Below.heap_alloc _ _ _ hk)
  have hlt : ∀ q ∈ D, W.heap.size ≠ A q := fun q hq => by have := (hF.node q hq).lt; omega
  have hC := Lib.hid (rise_any base K A D hKl n p hd hp S _ hF0 hbn (by simp; omega))
  have hr0 : (W.alloc (.cells #[.bool false] 4)).cell? ⟨W.heap.size, 0, none⟩ = some (.bool false) := by go_simp
  have hf0 : (W.alloc (.cells #[.bool false] 4)).frozen? ⟨W.heap.size, 0, none⟩ = false := by go_simp
  have h00 : (W.alloc (.cells #[.bool false] 4)).heap[W.heap.size]? = some (.cells #[.bool false] 4 (0, 0)) := World.alloc_heap_new _ _
  have hs0 : (W.alloc (.cells #[.bool false] 4)).heap.size = W.heap.size + 1 := by simp
  have hB0 : Off A D W (W.alloc (.cells #[.bool false] 4)) := (Off.refl _ _ _).alloc _
  have hSol : Hid (solvedS K n p S = match riseS K n p S with | none => none | some S1 => some (sinkS K n p (upd S1 p { S1 p with end0 := (S1 p).own0, end1 := (S1 p).own1 }))) := by show _ = _; rfl
  have hlo := Lib.hid hF.lo
  clear hF hF0
  go_enter_defers Tryz.func117, Tryz.ntmps117
  go_wp2_with fail
  generalize W.alloc (.cells #[.bool false] 4) = W0 at *
  refine hC.out.mono ?_
  rintro e w1 (⟨S1, hr1, rfl, hF1, hb1, hB1⟩ | ⟨hr1, rfl, hB1⟩)
  · have hh1 : w1.heap[W.heap.size]? = W0.heap[W.heap.size]? := hB1.block _ (by omega) hlt
    have hr1' := (World.cell?_of_block (w := W0) (a := ⟨W.heap.size, 0, none⟩) hh1).trans hr0
    have hf1 := (World.frozen?_of_block (w := W0) (a := ⟨W.heap.size, 0, none⟩) hh1).trans hf0
    have hN := hF1.node p hp
    have o0 := hN.own0
    have o1 := hN.own1
    have e0 := hN.end0
    have e1 := hN.end1
    have fz := hN.frozen
    have HF1 := Lib.hid hF1
    have HN := Lib.hid hN
    have hs1 := hB1.size
    have hBB := Lib.hid (hB0.trans hB1)
    clear hC hN hF1 hB1 hr0 hf0
    go_wp2_with fail
    have hN2 : NodeAt ((w1.setCell ⟨A p, 23, none⟩ (.int .i64 (S1 p).own0)).setCell ⟨A p, 24, none⟩ (.int .i64 (S1 p).own1)) (A p) p { S1 p with end0 := (S1 p).own0, end1 := (S1 p).own1 } := (HN.out.set_end0 (S1 p).own0).set_end1 (S1 p).own1
    have hg2 : w1.grownBy ((w1.setCell ⟨A p, 23, none⟩ (.int .i64 (S1 p).own0)).setCell ⟨A p, 24, none⟩ (.int .i64 (S1 p).own1)) (some (A p)) := by
      have h1 := grown_setCell w1 (A p) 23 (.int .i64 (S1 p).own0)
      have h2 := grown_setCell (w1.setCell ⟨A p, 23, none⟩ (.int .i64 (S1 p).own0)) (A p) 24 (.int .i64 (S1 p).own1)
      exact ⟨h2.os.trans h1.os, h2.tape.trans h1.tape, h2.output.trans h1.output, Nat.le_trans h1.size h2.size, fun k hk hne => (h2.block k (Nat.lt_of_lt_of_le hk h1.size) hne).trans (h1.block k hk hne)⟩
    have hr2 : ((w1.setCell ⟨A p, 23, none⟩ (.int .i64 (S1 p).own0)).setCell ⟨A p, 24, none⟩ (.int .i64 (S1 p).own1)).heap[W.heap.size]? = w1.heap[W.heap.size]? := hg2.block _ (by omega) (fun e => hlt p hp (by simpa using e))
    generalize ((w1.setCell ⟨A p, 23, none⟩ (.int .i64 (S1 p).own0)).setCell ⟨A p, 24, none⟩ (.int .i64 (S1 p).own1)) = w2 at *
    have hF2 := HF1.out.set hp { S1 p with end0 := (S1 p).own0, end1 := (S1 p).own1 } rfl hN2 hg2
    have hb2 : ∀ r ∈ D, BndN (upd S1 p { S1 p with end0 := (S1 p).own0, end1 := (S1 p).own1 } r) := fun r hr => (hb1 r hr).sameE (SameE.upd S1 p _ _)
    have hBB2 := hBB.out.grown hp hg2
    have hs2 := hg2.size
    obtain ⟨y0, y1⟩ := (hb1 p hp).own1
    refine (sink_any base K A D hKl n p hd hn hp _ w2 hF2 hb2 (by omega) (by rw [upd_same]; show _ ≤ (S1 p).own1; omega) (by rw [upd_same]; show (S1 p).own1 ≤ _; omega)).mono ?_
    rintro e w3 ⟨rfl, hF3, hB3⟩
    have hS3 : solvedS K n p S = some (sinkS K n p (upd S1 p { S1 p with end0 := (S1 p).own0, end1 := (S1 p).own1 })) := by rw [hSol.out, hr1]
    have hb3 : ∀ r ∈ D, BndN (sinkS K n p (upd S1 p { S1 p with end0 := (S1 p).own0, end1 := (S1 p).own1 }) r) := fun r hr => (hb2 r hr).sameE (sinkS_same K n p _)
    generalize sinkS K n p (upd S1 p { S1 p with end0 := (S1 p).own0, end1 := (S1 p).own1 }) = S3 at *
    have hr3 : w3.heap[W.heap.size]? = w1.heap[W.heap.size]? := (hB3.block _ (by omega) hlt).trans hr2
    have hr3' : w3.heap[W.heap.size]? = W0.heap[W.heap.size]? := hr3.trans hh1
    have hc3 := (World.cell?_of_block (w := w1) (a := ⟨W.heap.size, 0, none⟩) hr3).trans hr1'
    have hz3 := (World.frozen?_of_block (w := w1) (a := ⟨W.heap.size, 0, none⟩) hr3).trans hf1
    have HF3 := Lib.hid hF3
    have HB3 := Lib.hid (hBB2.trans hB3)
    have HS3 := Lib.hid hS3
    have hs3 := hB3.size
    clear hF3 hB3 hS3 hF2 hN2 hg2 hBB2 hBB o0 o1 e0 e1 fz hr2 hr3 hh1
    go_wp2_with fail
    have hc4 : (w3.setCell ⟨W.heap.size, 0, none⟩ (.bool true)).cell? ⟨W.heap.size, 0, none⟩ = some (.bool true) := World.cell?_setCell_same' _ _ _ (by rw [hc3]; rfl)
    have hF4 : Forest (w3.setCell ⟨W.heap.size, 0, none⟩ (.bool true)) base K A S3 D := HF3.out.elsewhere (hr3'.trans h00) (by decide) (by decide) _
    have hB4 := HB3.out.newCell (b := W.heap.size) (i := 0) (Nat.le_refl _) (.bool true)
    refine leaves_cons (f := 168) (args := #[.pointer (some ⟨W.heap.size, 0, none⟩)]) (by simp) (by simp [go_sem]) ?_
    refine (catch_idle W.heap.size _).mono ?_
    rintro e u' w'' ⟨rfl, rfl, rfl⟩
    simp [Leaves, settle, results, Tryz.results117, go_sem, hc4]
    exact ⟨S3, HS3.out, hF4, hb3, hB4⟩
  · have hh1 : w1.heap[W.heap.size]? = W0.heap[W.heap.size]? := hB1.block _ (by omega) hlt
    have hr1' := (World.cell?_of_block (w := W0) (a := ⟨W.heap.size, 0, none⟩) hh1).trans hr0
    have hf1 := (World.frozen?_of_block (w := W0) (a := ⟨W.heap.size, 0, none⟩) hh1).trans hf0
    have hs1 := hB1.size
    have hBB := Lib.hid (hB0.trans hB1)
    clear hC hB1
    go_wp2_with fail
    have hc5 : ((w1.setCell ⟨W.heap.size, 0, none⟩ (.bool false)).alloc (.cells #[] 172)).cell? ⟨W.heap.size, 0, none⟩ = some (.bool false) :=
      (World.cell?_of_block (w := w1.setCell ⟨W.heap.size, 0, none⟩ (.bool false)) (Below.heap_alloc _ _ _ (by simp [World.setCell]; omega))).trans (World.cell?_setCell_same' _ _ _ (by rw [hr1']; rfl))
    have hB5 := (hBB.out.newCell (b := W.heap.size) (i := 0) (Nat.le_refl _) (.bool false)).alloc (.cells #[] 172)
    refine leaves_cons (f := 168) (args := #[.pointer (some ⟨W.heap.size, 0, none⟩)]) (by simp) (by simp [go_sem]) ?_
    refine (catch_panic W.heap.size false w1 hr1' hf1).mono ?_
    rintro e u' w'' ⟨rfl, rfl, rfl⟩
    have hno : solvedS K n p S = none := by rw [hSol.out, hr1]
    simp [Leaves, settle, results, Tryz.results117, go_sem]
    rw [hc5]
    exact ⟨_, rfl, .inr ⟨hno, rfl, hB5⟩⟩

end Go.Proofs.YtpffpofdceppiaaGreatDoor
