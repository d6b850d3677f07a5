/- A part of the proof that laganlaw01.CargoTexts answers true at every input and leaves its arguments as they were; the conditions are those of the given row and card, nothing else. -/
import Derived.Test.YtpffpofdceppiaaGreatDoorKW9
import Derived.Test.YtpffpofdceppiaaGreatDoorKW7
set_option linter.unusedSimpArgs false
set_option linter.unusedVariables false
namespace Go.Proofs.YtpffpofdceppiaaGreatDoor
open Go.RowKit Go.Shelf

attribute [local go_sem] Oper.semAt_some

/-- One Id is tried. -/
def leftStep (still : List Int → Bool) (out : List Int) (id : Int) : List Int := if still (out.filter (fun x => !(x == id))) then out.filter (fun x => !(x == id)) else out
/-- Ids without which something still is so are left out, from the last one. -/
def leftS (still : List Int → Bool) (ids : List Int) : List Int := sortI (ids.reverse.foldl (leftStep still) ids)

theorem leftStep_len (still : List Int → Bool) (out : List Int) (id : Int) : (leftStep still out id).length ≤ out.length := by
  unfold leftStep
  split
  · exact List.length_filter_le _ _
  · exact Nat.le_refl _

theorem leftF_len (still : List Int → Bool) : ∀ (l out : List Int), (l.foldl (leftStep still) out).length ≤ out.length
  | [], _ => Nat.le_refl _
  | x :: l, out => Nat.le_trans (leftF_len still l _) (leftStep_len still out x)

theorem ownsRow_grown {A B : World} {row : Option Nat} {base n : Nat} {e : TypeId} {size : Nat} {v : Value} {xs : List Value} (h : A.ownsRow base e size v n xs) (hg : A.grownBy B row) (hr : ∀ r, row = some r → v.ownBlock ≠ some r) : B.ownsRow base e size v n xs := by
  refine ⟨h.1, h.2.imp id ?_⟩
  rintro ⟨g, cap, cur, rfl, a2, a3, a4⟩
  exact ⟨g, cap, cur, rfl, a2, (hg.block g (Array.getElem?_eq_some_iff.1 a3).1 (fun e => hr g e.symm rfl)).trans a3, a4⟩

theorem ownsRow_walk {A B : World} {row : Option Nat} {base n : Nat} {e : TypeId} {size : Nat} {v : Value} {xs : List Value} (h : A.ownsRow base e size v n xs) (hg : A.grownBy B row) (hr : ∀ r, row = some r → ∃ o : Obj, A.heap[r]? = some o ∧ o.isCells = false) : B.ownsRow base e size v n xs := by
  refine ⟨h.1, h.2.imp id ?_⟩
  rintro ⟨g, cap, cur, rfl, a2, a3, a4⟩
  refine ⟨g, cap, cur, rfl, a2, (hg.block g (Array.getElem?_eq_some_iff.1 a3).1 (fun e => ?_)).trans a3, a4⟩
  obtain ⟨o, ho, hc⟩ := hr g e.symm
  rw [a3] at ho
  cases ho
  cases hc

theorem sorted_any (v : Value) (l : List Int) (base : Nat) (w : World) (hown : Own3 base w v l) (hn : l.length ≤ 100000) :
    Calls Tryz.prog 175 #[v] w fun e w' => e = .returned v ∧ Own3 base w' v (sortI l) ∧ w.grownBy w' v.ownBlock := by
  have HS := Lib.hid (Sort_any v l base w hown hn)
  obtain ⟨p, d, rfl⟩ := own_shape3 hown
  go_enter Tryz.func175, Tryz.ntmps175
  go_wp2_with fail
  refine HS.out.mono ?_
  rintro e w' ⟨rfl, h1, h2⟩
  have H1 := Lib.hid (And.intro h1 h2)
  clear h1 h2
  go_wp2_with fail
  go_ret
  exact ⟨rfl, H1.out.1, H1.out.2⟩

/-- What a closure 'still' is. -/
def StillAt (g : Nat) (lb : Array Value) (still : List Int → Bool) (w : World) : Prop :=
  ∀ (W : World) (v : Value) (ids : List Int), Below w.heap.size w W → IntsAt W v ids → ids.length ≤ 1000 → Calls Tryz.prog g (#[v] ++ lb) W fun e w' => e = .returned (.bool (still ids)) ∧ Below W.heap.size W w'

/-- Between two rounds of 'left'. -/
structure LeftI (base n0 : Nat) (fv : Value) (still : List Int → Bool) (ids : List Int) (w : World) (pre : List (Int × Int)) (W : World) : Prop where
  box : ∃ vo, W.cell? ⟨w.heap.size + 1, 0, none⟩ = some vo ∧ Own3 base W vo ((pre.map Prod.snd).foldl (leftStep still) ids)
  free : W.frozen? ⟨w.heap.size + 1, 0, none⟩ = false
  fn : W.cell? ⟨w.heap.size, 0, none⟩ = some fv
  lt : n0 ≤ W.heap.size
  below : Below w.heap.size w W

theorem LeftI.own {base n0 S : Nat} {fv : Value} {still : List Int → Bool} {ids : List Int} {w : World} (hs : w.heap.size + 1 < n0) (hS : n0 ≤ S) : OwnFrom S (LeftI base n0 fv still ids w) := by
  intro s W W' row h hg hr
  obtain ⟨⟨vo, h1, h2⟩, h3, h4, h5, h6⟩ := h
  exact ⟨⟨vo, cell_kept h1 hg (fun r e => (hr r e).2), ownsRow_walk h2 hg (fun r e => (hr r e).2)⟩, (frozen_kept h1 hg (fun r e => (hr r e).2)).trans h3, cell_kept h4 hg (fun r e => (hr r e).2), Nat.le_trans h5 hg.size, h6.grown hg h6.size (fun k e => by have := (hr k e).1; omega)⟩

set_option maxRecDepth 100000 in
set_option maxHeartbeats 8000000 in
theorem left_any (v : Value) (ids : List Int) (g : Nat) (lb : Array Value) (still : List Int → Bool) (base : Nat) (w : World) (hown : Own3 base w v ids) (hb : base ≤ w.heap.size) (hn : ids.length ≤ 1000) (eg : ∀ args w, (callFunc g args).run Tryz.prog w = .ok (.enter g args) w) (hst : StillAt g lb still w) :
    Calls Tryz.prog 118 #[v, .func (.func g) #[] lb] w fun e w' => ∃ v', e = .returned v' ∧ Own3 w.heap.size w' v' (leftS still ids) ∧ Below w.heap.size w w' := by
  have hvi : IntsAt w v ids := Rows.of_owns encI_len hown
  obtain ⟨p0, d0, rfl⟩ := own_shape3 hown
  have hmf : ∀ (fn : Fn) (first cap : Array Value) (w : World), (Instr.makeFunc fn first cap).run Tryz.prog w = .ok (.func fn first cap) w := fun _ _ _ _ => rfl
  rw [← callsIn_wide (n := 10)]
  refine callsIn_of_wp_marks Tryz.func118 rfl trivial ?_ rfl
  simp only [Tryz.ntmps118, List.size_toArray, List.length_cons, List.length_nil, Nat.reduceAdd, Nat.reduceSub, Array.replicate_succ, Array.replicate_zero, List.push_toArray, List.append_toArray, List.nil_append, List.cons_append]
  rw [wpIn_wide]
  go_wp2_with fail
  refine (Backward_any _ _ rfl).mono ?_
  rintro e w' ⟨rfl, rfl⟩
  go_wp2_with fail
  have hB0 : Below w.heap.size w (((w.alloc (.cells #[.func (.func g) #[] lb] 132)).alloc (.cells #[.slice p0 ids.length d0] 45)).alloc (.cells #[.slice p0 ids.length d0] 45)) := by
    repeat (first | exact Below.refl _ _ | refine Below.alloc ?_ (by simp <;> omega) _ )
  have hI0 : LeftI base (w.heap.size + 1 + 1 + 1) (.func (.func g) #[] lb) still ids w [] (((w.alloc (.cells #[.func (.func g) #[] lb] 132)).alloc (.cells #[.slice p0 ids.length d0] 45)).alloc (.cells #[.slice p0 ids.length d0] 45)) :=
    ⟨⟨_, by go_simp, ownsRow_below hown hB0⟩, by go_simp, by go_simp, by simp, hB0⟩
  have hZ0 : (((w.alloc (.cells #[.func (.func g) #[] lb] 132)).alloc (.cells #[.slice p0 ids.length d0] 45)).alloc (.cells #[.slice p0 ids.length d0] 45)).heap.size = w.heap.size + 1 + 1 + 1 := by simp
  have k1 : (((w.alloc (.cells #[.func (.func g) #[] lb] 132)).alloc (.cells #[.slice p0 ids.length d0] 45)).alloc (.cells #[.slice p0 ids.length d0] 45)).cell? ⟨w.heap.size + 1 + 1, 0, none⟩ = some (.slice p0 ids.length d0) := by go_simp
  generalize (((w.alloc (.cells #[.func (.func g) #[] lb] 132)).alloc (.cells #[.slice p0 ids.length d0] 45)).alloc (.cells #[.slice p0 ids.length d0] 45)) = W0 at *
  rw [← wpIn_wide (n := 10)]
  refine wpIn_rangeFunc_ownH rfl (by omega) (gf := 192) (lb := #[.pointer (some ⟨w.heap.size + 1 + 1, 0, none⟩)]) rfl trivial (enters_of Tryz.func192 (by kernel_rfl) rfl)
    (encs := fun x : Int × Int => #[.int .i64 x.1, .int .i64 x.2]) (Kp := KeptBut W0.heap.size (w.heap.size + 1)) (S := fun ys => ys = seqB ids) (Sp := fun pre => pre <+: seqB ids) (
    (fun lp J Jx W hW hJ hJx hY h0 => back1_in (10 - 1) (by omega) lp (w.heap.size + 1 + 1) W0.heap.size (w.heap.size + 1) _ ids (by omega) J Jx W hW.size hY W0 w rfl (.of hW) hvi (by omega) hB0 k1 (by omega) (by omega) h0))
    (fun h k => h.trans k) (fun W lx o o' hl h _ _ => KeptBut.putObj W lx o o' hl h) (Below.refl _ _) (fun _ => rfl)
    (LeftI base (w.heap.size + 1 + 1 + 1) (.func (.func g) #[] lb) still ids w) (fun _ _ _ => False) (LeftI.own (by omega) (by omega)) (fun _ _ _ _ _ hs _ _ => hs) hI0
    (fun x a' W => ∃ b, b < W.heap.size ∧ W0.heap.size ≤ b ∧ W.cell? ⟨b, 0, none⟩ = some (.int .i64 x.2) ∧ a' = { tmps := #[.slice p0 ids.length d0, .func (.func g) #[] lb, undef, .pointer (some ⟨w.heap.size, 0, none⟩), .slice none 0 0, .pointer (some ⟨w.heap.size + 1, 0, none⟩), undef, .pointer (some ⟨b, 0, none⟩), undef, .slice p0 ids.length d0, .slice p0 ids.length d0, .func (.func 192) #[] #[.pointer (some ⟨w.heap.size + 1 + 1, 0, none⟩)], .int .i64 x.1, .int .i64 x.2, undef, undef, undef, undef, undef, undef, undef, undef, undef, undef, undef], defers := [] })
    (fun x a' _ X Y row hs hg hr => by
      obtain ⟨b, h1, h2, h3, h4⟩ := hs
      exact ⟨b, Nat.lt_of_lt_of_le h1 hg.size, h2, cell_kept h3 hg (fun r e => (hr r e).2), h4⟩)
    ?assign ?body ?done ?stop
  case assign =>
    intro lx pre x W K hI hK
    have hwl := hI.lt
    have HI := Lib.hid hI
    have HK := Lib.hid hK
    clear hI hK
    gi_wp2_with fail
    exact HK.out _ _ ((KeepsOthers.alloc W _).from _) ((KeptBut.refl _ _ W).alloc (by omega) _) (LeftI.own (by omega) (Nat.le_refl _) pre W _ none HI.out (World.grownBy_alloc _ _ none) (fun r e => by cases e)) ⟨W.heap.size, by simp, by omega, by go_simp, rfl⟩
  case body =>
    rintro lx pre x a' W hlx hrx hI ⟨b, q1, q2, q3, rfl⟩ hlen
    obtain ⟨⟨vo, e1, e2⟩, e3, e4, e5, e6⟩ := hI
    generalize hout : (pre.map Prod.snd).foldl (leftStep still) ids = out at *
    have hol : out.length ≤ 1000 := by rw [← hout]; exact Nat.le_trans (leftF_len still _ ids) hn
    have hnext : ((pre ++ [x]).map Prod.snd).foldl (leftStep still) ids = leftStep still out x.2 := by
      rw [List.map_append, List.foldl_append, hout]; rfl
    have HN := Lib.hid hnext
    obtain ⟨rs, hrs⟩ : ∃ rs, rs = out.filter (fun y => !(y == x.2)) := ⟨_, rfl⟩
    have hrl : rs.length ≤ 1000 := by rw [hrs]; exact Nat.le_trans (List.length_filter_le _ _) hol
    have HR : Hid (leftStep still out x.2 = if still rs then rs else out) := by show _ = _; rw [leftStep, ← hrs]
    have HRS := Lib.hid hrs
    have HO := Lib.hid e2
    have HBE := Lib.hid e6
    have hzw := e6.size
    clear hnext hout hrs e2 e6
    gi_wp2_with fail
    refine ⟨trivial, (CallsIn.inRound lx (callsIn_wide.2 (Clone3_any vo out base W HO.out (by omega)))).mono ?_⟩
    rintro e w3 ⟨v3, rfl, ho3, hb3⟩
    have hz3 := hb3.size
    have x1 := (hb3.cell (p := ⟨w.heap.size + 1, 0, none⟩) (by simp; omega)).trans e1
    have x3 := (hb3.frozen (p := ⟨w.heap.size + 1, 0, none⟩) (by simp; omega)).trans e3
    have x4 := (hb3.cell (p := ⟨w.heap.size, 0, none⟩) (by simp; omega)).trans e4
    have x5 := (hb3.cell (p := ⟨b, 0, none⟩) q1).trans q3
    gi_wp2_with fail
    refine ⟨trivial, (CallsIn.inRound lx (callsIn_wide.2 (Del_any v3 out x.2 b W.heap.size w3 ho3 (by omega) (by omega) x5 q1))).mono ?_⟩
    rintro e w4 ⟨v4, rfl, ho4, hg4⟩
    rw [← HRS.out] at ho4
    have hr3 : ∀ r, v3.ownBlock = some r → W.heap.size ≤ r := fun r e => (ho3.lt r e).1
    have hb4 : Below W.heap.size W w4 := hb3.grown hg4 hz3 hr3
    have hz4 := hb4.size
    have y1 := (hb4.cell (p := ⟨w.heap.size + 1, 0, none⟩) (by simp; omega)).trans e1
    have y3 := (hb4.frozen (p := ⟨w.heap.size + 1, 0, none⟩) (by simp; omega)).trans e3
    have y4 := (hb4.cell (p := ⟨w.heap.size, 0, none⟩) (by simp; omega)).trans e4
    have hB4 : Below w.heap.size w w4 := HBE.out.trans (hb4.mono hzw)
    have HS := Lib.hid (hst w4 v4 rs hB4 (Rows.of_owns encI_len ho4) hrl)
    have HO4 := Lib.hid ho4
    obtain ⟨p4, d4, rfl⟩ := own_shape3 ho4
    have HO0 := Lib.hid (ownsRow_below HO.out hb4)
    clear ho4 ho3 hg4 hr3 hb3 x1 x3 x4 x5
    gi_wp2_with fail
    refine ⟨trivial, (CallsIn.inRound lx (callsIn_wide.2 HS.out)).mono ?_⟩
    rintro e w5 ⟨rfl, hb5⟩
    have hb5' : Below W.heap.size W w5 := hb4.trans (hb5.mono hz4)
    have hz5 := hb5.size
    have z1 := (hb5.cell (p := ⟨w.heap.size + 1, 0, none⟩) (by simp; omega)).trans y1
    have z3 := (hb5.frozen (p := ⟨w.heap.size + 1, 0, none⟩) (by simp; omega)).trans y3
    have z4 := (hb5.cell (p := ⟨w.heap.size, 0, none⟩) (by simp; omega)).trans y4
    have hB5 : Below w.heap.size w w5 := HBE.out.trans (hb5'.mono hzw)
    have HO5 := Lib.hid (ownsRow_below HO4.out hb5)
    have HO6 := Lib.hid (ownsRow_below HO0.out hb5)
    have HB5 := Lib.hid hb5'
    clear y1 y3 y4 HO4 HO0 hb4 hb5 hb5' hB4 HS
    have hkf : KeepsFrom W0.heap.size W w5 := ⟨HB5.out.size, fun k o _ hk _ => (HB5.out.block k (Array.getElem?_eq_some_iff.1 hk).1).trans hk⟩
    have hkb : KeptBut W0.heap.size (w.heap.size + 1) W w5 := .of (HB5.out.mono (by omega))
    have HK := Lib.hid (And.intro hkf hkb)
    clear hkf hkb
    cases hsv : still rs
    · have hR2 : leftStep still out x.2 = out := by rw [HR.out, hsv]; rfl
      have HR2 := Lib.hid hR2
      clear hR2
      gi_wp2_with fail
      exact ⟨HK.out.1, HK.out.2, ⟨vo, z1, by rw [HN.out, HR2.out]; exact HO6.out⟩, z3, z4, by omega, hB5⟩
    · have hR2 : leftStep still out x.2 = rs := by rw [HR.out, hsv]; rfl
      have HR2 := Lib.hid hR2
      clear hR2
      have HFIN : Hid (KeepsFrom W0.heap.size W (w5.setCell ⟨w.heap.size + 1, 0, none⟩ (.slice p4 rs.length d4)) ∧ KeptBut W0.heap.size (w.heap.size + 1) W (w5.setCell ⟨w.heap.size + 1, 0, none⟩ (.slice p4 rs.length d4)) ∧ LeftI base (w.heap.size + 1 + 1 + 1) (.func (.func g) #[] lb) still ids w (pre ++ [x]) (w5.setCell ⟨w.heap.size + 1, 0, none⟩ (.slice p4 rs.length d4))) := by
        have hh : ∀ k, k ≠ w.heap.size + 1 → (w5.setCell ⟨w.heap.size + 1, 0, none⟩ (.slice p4 rs.length d4)).heap[k]? = w5.heap[k]? := fun k hk => Below.heap_setCell _ _ _ _ (by show k ≠ _; exact hk)
        refine ⟨⟨by rw [World.size_setCell]; exact HK.out.1.size, fun k o hk ho hc => (hh k (by omega)).trans (HK.out.1.same k o hk ho hc)⟩, ⟨HK.out.2.os, HK.out.2.tape, HK.out.2.output, by rw [World.size_setCell]; exact HK.out.2.size, fun k hk hm => (hh k hm).trans (HK.out.2.block k hk hm)⟩, ⟨_, World.cell?_setCell_same' _ _ _ (by rw [z1]; rfl), ?_⟩, by rw [World.frozen?_setCell]; exact z3, by rw [World.cell?_setCell_other _ _ _ _ (by simp)]; exact z4, by rw [World.size_setCell]; omega, hB5.setCell (p := ⟨w.heap.size + 1, 0, none⟩) (by simp) _⟩
        rw [HN.out, HR2.out]
        exact owns_mono (ownsRow_setCell_below HO5.out (a := ⟨w.heap.size + 1, 0, none⟩) (by simp; omega) _) (by omega)
      gi_wp2_with fail
      exact HFIN.out
  case stop =>
    rintro D c pre W _ _ h _
    exact h.elim
  case done =>
    rintro D ys W hD rfl hI hK
    obtain ⟨⟨vo, e1, e2⟩, e3, e4, e5, e6⟩ := hI
    rw [seqB_snd] at e2
    have hol : (ids.reverse.foldl (leftStep still) ids).length ≤ 1000 := Nat.le_trans (leftF_len still _ ids) hn
    have HL : Hid (leftS still ids = sortI (ids.reverse.foldl (leftStep still) ids)) := by show _ = _; rfl
    generalize ids.reverse.foldl (leftStep still) ids = out at *
    have HO := Lib.hid e2
    have hDl := (Array.getElem?_eq_some_iff.1 hK).1
    have hzw := e6.size
    clear e2 e3 e4
    go_wp2_with fail
    refine (Clone3_any vo out base W HO.out (by omega)).mono ?_
    rintro e w3 ⟨v3, rfl, ho3, hb3⟩
    have hz3 := hb3.size
    have HS := Lib.hid (sorted_any v3 out W.heap.size w3 ho3 (by omega))
    have hlt3 := fun k hk => (ho3.lt k hk).1
    obtain ⟨p3, d3, rfl⟩ := own_shape3 ho3
    clear ho3
    go_wp2_with fail
    refine HS.out.mono ?_
    rintro e w4 ⟨rfl, ho4, hg4⟩
    have hb4 : Below W.heap.size W w4 := hb3.grown hg4 hz3 (fun k hk => hlt3 k hk)
    have hD4 : w4.heap[D]? = some (.deferred (some [])) := (hb4.block D hDl).trans hK
    have HO4 := Lib.hid ho4
    have HB4 := Lib.hid hb4
    have hBw : Below w.heap.size w w4 := e6.trans (hb4.mono hzw)
    clear ho4 hg4 hb4 hb3
    go_wp2_with fail
    refine ⟨by simp, .inl ⟨_, _, rfl, run_takeDeferred hD4, ?_⟩⟩
    have ho := ownsRow_putObj HO4.out (.deferred none) hD4 rfl
    have hbb := hBw.trans (belowK_b (w := w) (Nat.le_refl _) w4 D _ (.deferred none) (by omega) hD4 rfl rfl)
    refine ⟨.slice p3 out.length d3, by simp [results, Tryz.f118, go_sem], _, rfl, ?_, hbb⟩
    rw [HL.out]
    unfold Own3 at ho ⊢
    exact owns_mono ho (by omega)

end Go.Proofs.YtpffpofdceppiaaGreatDoor
