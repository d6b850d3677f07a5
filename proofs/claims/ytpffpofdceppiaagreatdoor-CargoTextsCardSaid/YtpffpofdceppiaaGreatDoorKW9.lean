/- A part of the proof that laganlaw01.CargoTexts answers true at every input and leaves its arguments as they were; the conditions are those of the given row and card, nothing else. -/
import Derived.Test.YtpffpofdceppiaaGreatDoorKI1
import Derived.Test.YtpffpofdceppiaaGreatDoorKM4
set_option linter.unusedSimpArgs false
set_option linter.unusedVariables false
namespace Go.Proofs.YtpffpofdceppiaaGreatDoor
open Go.RowKit Go.Shelf Go.Lib Go.Sort

/-- The closure that leaves out an Id. -/
theorem left1_gives (id x : Int) (B : Nat) (W : World) (hc : W.cell? ⟨B, 0, none⟩ = some (.int .i64 id)) :
    FnGives Tryz.prog 174 #[.pointer (some ⟨B, 0, none⟩)] #[.int .i64 x] (.bool (x == id)) W := by
  show Calls Tryz.prog 174 #[.int .i64 x, .pointer (some ⟨B, 0, none⟩)] W _
  go_enter Tryz.func174, Tryz.ntmps174
  go_wp2
  go_ret
  exact ⟨rfl, 0, rfl⟩

theorem del_empty (p : Option Addr) (c : Nat) (fv : Value) (w : World) :
    Calls Tryz.prog 172 #[.slice p 0 c, fv] w fun e w' => e = .returned (.slice p 0 c) ∧ w' = w := by
  go_enter Tryz.func172, Tryz.ntmps172
  go_wp2_with fail
  refine (Tryz.slices_IndexFunc_empty (α := Int) p c fv w).mono ?_
  rintro e w' ⟨rfl, rfl⟩
  go_wp2_with fail
  go_ret
  exact ⟨rfl, rfl⟩

/-- DeleteFunc, of an Id. -/
theorem Del_any (v : Value) (out : List Int) (id : Int) (B base : Nat) (w : World) (hown : Own3 base w v out) (hn : out.length ≤ 100000) (hB : B < w.heap.size) (hc : w.cell? ⟨B, 0, none⟩ = some (.int .i64 id)) (hne : B < base) :
    Calls Tryz.prog 172 #[v, .func (.func 174) #[] #[.pointer (some ⟨B, 0, none⟩)]] w fun e w' => ∃ v', e = .returned v' ∧ Own3 base w' v' (out.filter (fun x => !(x == id))) ∧ w.grownBy w' v.ownBlock := by
  rcases Nat.eq_zero_or_pos out.length with h0 | hpos
  · have hl : out = [] := List.length_eq_zero_iff.1 h0
    subst hl
    obtain ⟨p, c, rfl⟩ := own3_zero hown
    refine (del_empty p c _ w).mono ?_
    rintro e w' ⟨rfl, rfl⟩
    exact ⟨_, rfl, hown, World.grownBy.refl _ _⟩
  · obtain ⟨g, c, rfl, hg, hlt, hc1, hc2, hcell⟩ := own3_cells hown hpos
    have hcon := Tryz.slices_DeleteFunc (Value.int .i64) (fun _ => rfl) (fun x => x == id) 174 #[.pointer (some ⟨B, 0, none⟩)] (enters_of Tryz.func174 (by kernel_rfl) rfl) (0 : Int) Tryz.zeroValue3 g 0 c out.toArray w
      (fun W x hb => left1_gives id x B W ((hb.cell (p := ⟨B, 0, none⟩) hB).trans hc))
      (fun n os dk x _ => left1_gives id x B _ (by
        unfold sortWorld
        rw [cell?_grow _ _ _ (by show B < (putRow _ _ _ _ _).heap.size; rw [size_putRow]; exact hB), cell?_putRow_other _ _ g 0 _ _ (Or.inl (by show B ≠ g; omega))]
        exact hc)) (own3_holds hcell) (by simp; omega) (by simpa using hc1)
    have hz : out.toArray.size = out.length := by simp
    rw [hz] at hcon
    have hr : out.toArray.toList = out := by simp
    rw [hr] at hcon
    have hfl : (out.filter fun x => !(x == id)).length ≤ out.length := List.length_filter_le _ _
    refine Calls.mono hcon ?_
    rintro e w' ⟨rfl, q, rfl⟩
    have h := own3_put hown ((out.filter fun x => !(x == id)) ++ List.replicate (out.length - (out.filter fun x => !(x == id)).length) (0 : Int)).toArray q #[] (out.filter fun x => !(x == id)).length (by simp) (by simp; omega)
    rw [grow_empty] at h
    refine ⟨_, rfl, ?_, h.2⟩
    have e : ((out.filter fun x => !(x == id)) ++ List.replicate (out.length - (out.filter fun x => !(x == id)).length) (0 : Int)).toArray.toList.take (out.filter fun x => !(x == id)).length = out.filter fun x => !(x == id) := by
      simp
    have h1 := h.1
    rw [e] at h1
    exact h1

end Go.Proofs.YtpffpofdceppiaaGreatDoor

set_option linter.unusedSimpArgs false
set_option linter.unusedVariables false
namespace Go.Proofs.YtpffpofdceppiaaGreatDoor
open Go.RowKit Go.Shelf

attribute [local go_sem] Oper.semAt_some

theorem Backward_any (v : Value) (w : World) (h1 : v.oneCell' = true) : Calls Tryz.prog 171 #[v] w fun e w' => e = .returned (.func (.func 192) #[] #[.pointer (some ⟨w.heap.size, 0, none⟩)]) ∧ w' = w.alloc (.cells #[v] 45) := by
  have hmf : ∀ (fn : Fn) (first cap : Array Value) (w : World), (Instr.makeFunc fn first cap).run Tryz.prog w = .ok (.func fn first cap) w := fun _ _ _ _ => rfl
  go_enter Tryz.func171, Tryz.ntmps171
  go_wp2
  go_ret
  exact ⟨rfl, rfl⟩

/-- What goes backward over a list yields. -/
def seqB (l : List Int) : List (Int × Int) := (List.range l.length).reverse.map fun k : Nat => ((k : Int), l.getD k 0)

theorem seqB_len (l : List Int) : (seqB l).length = l.length := by simp [seqB]
theorem seqB_take (l : List Int) (k : Nat) (h : k < l.length) : (seqB l).take (l.length - k) = (seqB l).take (l.length - (k + 1)) ++ [((k : Int), l.getD k 0)] := by
  have e : l.length - k = (l.length - (k + 1)) + 1 := by omega
  rw [e, List.take_succ_eq_append_getElem (by rw [seqB_len]; omega)]
  congr 2
  simp only [seqB, List.getElem_map, List.getElem_reverse, List.length_range, List.getElem_range]
  have : l.length - 1 - (l.length - (k + 1)) = k := by omega
  rw [this]

theorem seqB_snd (l : List Int) : (seqB l).map Prod.snd = l.reverse := by
  apply List.ext_getElem
  · simp [seqB]
  · intro i h1 h2
    have h3 : i < l.length := by simpa [seqB] using h1
    simp only [seqB, List.getElem_map, List.getElem_reverse, List.length_range, List.getElem_range]
    rw [List.getD_eq_getElem?_getD, List.getElem?_eq_getElem (by omega)]; rfl

set_option maxRecDepth 100000 in
set_option maxHeartbeats 4000000 in
theorem back1_in (n : Nat) (hn1 : 1 ≤ n) (lp B1 n₀ m₀ : Nat) (v : Value) (l : List Int) (hn : l.length ≤ 100000) (J Jx : List (Int × Int) → World → Prop) (W : World) (hn0 : n₀ ≤ W.heap.size)
    (hY : ∀ pre x W1, J pre W1 → pre.length < l.length → YieldAt Fence.wide (n - 1) Tryz.prog lp #[.int .i64 x.1, .int .i64 x.2] W1 fun e W' =>
      (e = .returned (.bool true) ∧ J (pre ++ [x]) W' ∧ KeptBut n₀ m₀ W1 W') ∨ (e = .returned (.bool false) ∧ Jx (pre ++ [x]) W'))
    (w0 wp : World) (hw0 : w0.heap.size = n₀) (hW : KeptBut n₀ m₀ w0 W) (hv : IntsAt wp v l) (hwp : wp.heap.size ≤ m₀) (hwp0 : Below wp.heap.size wp w0) (h2 : w0.cell? ⟨B1, 0, none⟩ = some v) (l2 : B1 < n₀) (d2 : B1 ≠ m₀) (h0 : J [] W) :
    CallsIn Fence.wide n Tryz.prog 192 #[.func (.yield lp) #[] #[], .pointer (some ⟨B1, 0, none⟩)] W fun e W' => (∃ v, e = .returned v) ∧
      ((∃ ys, ys = seqB l ∧ J ys W') ∨ (∃ pre, pre <+: seqB l ∧ Jx pre W')) := by
  obtain ⟨a, c, rfl, g1, g2, g3⟩ := hv
  have k2 := (hW.cell (p := ⟨B1, 0, none⟩) l2 d2).trans h2
  have hws := hwp0.size
  refine callsIn_of_wp Tryz.func192 rfl trivial ?_ rfl
  simp only [Tryz.ntmps192, List.size_toArray, List.length_cons, List.length_nil, Nat.reduceAdd, Nat.reduceSub, Array.replicate_succ, Array.replicate_zero, List.push_toArray, List.append_toArray, List.nil_append, List.cons_append]
  gi_wp2
  gi_loopw [3] (fun i wr => ∃ k : Nat, k ≤ l.length ∧ i = .int .i64 ((k : Int) - 1) ∧ J ((seqB l).take (l.length - k)) wr ∧ KeptBut n₀ m₀ w0 wr)
    (fun i _ => (intOf i + 1).toNat)
  case atStart => exact ⟨l.length, Nat.le_refl _, by go_num, by simpa using h0, hW⟩
  case round =>
    obtain ⟨k, hk, rfl, hJs, hnx⟩ := hrel
    cases k with
    | succ k =>
      have e1 : (((k + 1 : Nat) : Int) - 1) = (k : Int) := by omega
      rw [e1]
      have hlt : k < l.length := by omega
      obtain ⟨b, off, rfl, hbs, hcell⟩ := g3 (by omega)
      have c0 : wr.cell? ⟨b, off + k, none⟩ = some (.int .i64 l[k]) := by
        have := hcell k hlt 0 _ rfl
        rw [Nat.mul_one, Nat.add_zero] at this
        exact (hnx.cell (p := ⟨b, off + k, none⟩) (by show b < _; omega) (by show b ≠ _; omega)).trans ((hwp0.cell (p := ⟨b, off + k, none⟩) hbs).trans this)
      have hT := seqB_take l k hlt
      have hgd : l.getD k 0 = l[k] := by rw [List.getD_eq_getElem?_getD, List.getElem?_eq_getElem hlt]; rfl
      rw [hgd] at hT
      have HT := Lib.hid hT
      have hP : Hid ((seqB l).take (l.length - k) <+: seqB l) := List.take_prefix _ _
      have hY' := Lib.hid (hY ((seqB l).take (l.length - (k + 1))) ((k : Int), l[k]) wr hJs (by rw [List.length_take, seqB_len]; omega))
      have e3 := (hnx.cell (p := ⟨B1, 0, none⟩) l2 d2).trans h2
      have HN := Lib.hid hnx
      clear hT hgd hcell g3 hJs hnx
      generalize l[k] = x at *
      obtain ⟨fn, tmps, assign, body, hy, hR⟩ := hY'.out
      have hR' := Lib.hid hR
      clear hY' hR
      gi_wp2
      refine hR'.out.mono ?_
      rintro e W3 (⟨rfl, hJ3, hk3⟩ | ⟨rfl, hJx3⟩)
      · have HB3 := Lib.hid (HN.out.trans hk3)
        have HJ3 := Lib.hid hJ3
        clear hk3 hJ3
        gi_wp2
        go_roundw
        case rel => exact ⟨k, by omega, by go_num, by rw [HT.out]; exact HJ3.out, HB3.out⟩
        case measure => simp [intOf]
      · have HJ3 := Lib.hid hJx3
        clear hJx3
        gi_wp2
        refine bodyPost_ret (results_none rfl _ _ _) rfl ?_
        exact ⟨⟨_, rfl⟩, .inr ⟨_, by have := hP.out; rw [HT.out] at this; exact this, HJ3.out⟩⟩
    | zero =>
      have e1 : (((0 : Nat) : Int) - 1) = -1 := by omega
      rw [e1]
      have HJ := Lib.hid hJs
      clear hJs
      gi_wp2
      go_end0
      refine ⟨⟨_, rfl⟩, .inl ⟨_, ?_, HJ.out⟩⟩
      rw [List.take_of_length_le (by rw [seqB_len]; omega)]

end Go.Proofs.YtpffpofdceppiaaGreatDoor
