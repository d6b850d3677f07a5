/- A part of the proof that laganlaw01.CargoTexts answers true at every input and leaves its arguments as they were; the conditions are those of the given row and card, nothing else. -/
import Derived.Test.YtpffpofdceppiaaGreatDoorKG1
import Derived.Deep.Cut
import Derived.Deep.CutRange
import Derived.Deep.DeepCutAuto
set_option linter.unusedSimpArgs false
set_option linter.unusedVariables false
namespace Go.Proofs.YtpffpofdceppiaaGreatDoor
open Go.RowKit Go.Shelf

set_option maxRecDepth 100000 in
set_option maxHeartbeats 16000000 in
theorem grow_any (E0 bm ba bi bc bf : Nat) (w0 wp : World) (vp vt vids : Value) (ps ts : List Paper) (ids : List Int) (all : Bool)
    (hp : PapersAt wp vp ps) (ht : PapersAt wp vt ts) (hi : IntsAt wp vids ids) (hnp : ps.length ≤ 1000) (hnt : ts.length ≤ 1000) (hni : ids.length ≤ 100000)
    (hE0 : w0.heap.size = E0) (hcw : wp.heap.size ≤ bc) (hcE : bc < E0) (em : bm < E0 ∧ bm ≠ bc) (ea : ba < E0 ∧ ba ≠ bc) (ei : bi < E0 ∧ bi ≠ bc) (ef : bf < E0 ∧ bf ≠ bc)
    (henv : Env bm ba bi bf wp w0 vp vt vids (growFn bm ba bi bc bf) all) (hU : OneIn (ins ps)) (hKn : ∀ p, (ins ps p).Nodup) (hform : ∀ t ∈ ts, 0 ≤ t.count ∧ t.count ≤ 40) :
    ∀ (n : Nat) (p : Int) (b : Nat) (d0 : Nd) (c : Int) (W : World), Deep (ins ps) n p → KeptBut E0 bc w0 W → E0 ≤ b → NodeAt W b 0 d0 → d0.tot = .pointer none → d0.kids = .slice none 0 0 → d0.missing = 0 → d0.low = 0 → d0.end0 = 0 → d0.end1 = 0 →
    W.cell? ⟨bc, 0, none⟩ = some (.int .i64 c) → W.frozen? ⟨bc, 0, none⟩ = false → 0 ≤ c → c + (sub (ins ps) n p).length ≤ 1000000 →
    Calls Tryz.prog 178 #[.pointer (some ⟨b, 0, none⟩), .int .i64 p, .pointer (some ⟨bm, 0, none⟩), .pointer (some ⟨ba, 0, none⟩), .pointer (some ⟨bi, 0, none⟩), .pointer (some ⟨bc, 0, none⟩), .pointer (some ⟨bf, 0, none⟩)] W fun e W' =>
      e = .returned (.bool (growOK ps ts n p)) ∧ KeptBut E0 bc w0 W' ∧ (∀ j, j < W.heap.size → j ≠ b → j ≠ bc → W'.heap[j]? = W.heap[j]?) ∧ W.heap.size ≤ W'.heap.size ∧
      (growOK ps ts n p = true → W'.frozen? ⟨bc, 0, none⟩ = false ∧ W'.cell? ⟨bc, 0, none⟩ = some (.int .i64 (c + (sub (ins ps) n p).length - 1)) ∧ ∃ (A : Int → Nat) (S : Int → Nd), A p = b ∧
        (∀ base, base ≤ b → base ≤ W.heap.size → Forest W' base (ins ps) A S (sub (ins ps) n p)) ∧ (∀ r ∈ sub (ins ps) n p, r ≠ p → W.heap.size ≤ A r ∧ ((S r).own0, (S r).own1) = ownOf ps ids all r) ∧ (∀ r ∈ sub (ins ps) n p, ∀ g, (S r).kids.ownBlock = some g → W.heap.size ≤ g) ∧
        (S p).own0 = d0.own0 ∧ (S p).own1 = d0.own1 ∧ ∀ r ∈ sub (ins ps) n p, Grown' ps ts ids all r (S r)) := by
  have hwE : wp.heap.size ≤ E0 := by omega
  obtain ⟨a1, c1, rfl, hvp⟩ := hp
  obtain ⟨a2, c2, rfl, hvt⟩ := ht
  obtain ⟨a3, c3, rfl, hvi⟩ := hi
  have HP : Hid (PapersAt wp (.slice a1 ps.length c1) ps) := ⟨a1, c1, rfl, hvp⟩
  have HT : Hid (PapersAt wp (.slice a2 ts.length c2) ts) := ⟨a2, c2, rfl, hvt⟩
  have HI : Hid (IntsAt wp (.slice a3 ids.length c3) ids) := ⟨a3, c3, rfl, hvi⟩
  have HEnv := Lib.hid (fun W (hk : KeptBut E0 bc w0 W) => henv.kept hk hcw hwE em ea ei ef)
  clear hvp hvt hvi henv
  intro n
  induction n with
  | zero => intro p b d0 c W h; exact h.elim
  | succ n ih =>
    intro p b d0 c W hd hkb hbE hN t0 t1 t2 t3 t4 t5 hc hz hc0 hc1
    have hEW : E0 ≤ W.heap.size := by rw [← hE0]; exact hkb.size
    have hbW := hN.lt
    have IH := Lib.hid ih
    have HD := Lib.hid hd
    clear ih hd
    -- the node named, the sums wide
    have hw1 : ∃ w1, w1 = ((W.setCell ⟨b, 0, none⟩ (.int .i64 p)).setCell ⟨b, 19, none⟩ (.int .i64 0)).setCell ⟨b, 20, none⟩ (.int .i64 1099511627776) := ⟨_, rfl⟩
    obtain ⟨w1, hw1⟩ := hw1
    have hG1 : G0 E0 w0 W bc b p none { d0 with sum0 := 0, sum1 := 1099511627776 } c w1 := by
      have h0 : G0 E0 w0 W bc b 0 none d0 c W := ⟨hkb, fun _ _ _ _ => rfl, Nat.le_refl _, hN, (fun t h => by cases h), hc, hz⟩
      have h1 := h0.own hEW hcE hbE (grown_setCell W b 0 (.int .i64 p)) (hN.set_pack p) rfl
      have h2 := h1.own hEW hcE hbE (grown_setCell _ b 19 (.int .i64 0)) (h1.node.set_sum0 0) rfl
      have h3 := h2.own hEW hcE hbE (grown_setCell _ b 20 (.int .i64 1099511627776)) (h2.node.set_sum1 1099511627776) rfl
      rw [hw1]; exact h3
    have f0 := hN.pack
    have f19 := hN.sum0
    have f20 := hN.sum1
    have fz := hN.frozen
    have HW1 := Lib.hid hw1
    clear hN hkb hc hz hw1
    have hev1 := HEnv.out w1 hG1.kb
    have HPt := Lib.hid (total_any _ _ ps ts p w1 (HP.out.below hev1.below) (HT.out.below hev1.below) hnt)
    have q0 := hev1.m0
    have q1 := hev1.m1
    rw [HW1.out] at q0 q1
    have HG1 := Lib.hid hG1
    clear hev1 hG1
    generalize hx : ofV ts p = x at *
    generalize hq : (ofP ts p).isSome = q at *
    have HPt : Hid (Calls Tryz.prog 108 #[.agg #[.slice a1 ps.length c1, .slice a2 ts.length c2], .int .i64 p] w1 fun e w' => e = .returned (.tuple #[.agg #[.int .i64 x.id, .int .i64 x.known, .int .u8 x.kind, .int .i64 x.loss, .int .i64 x.pack, .int .i64 x.inn, .string x.mark, .string x.goods, .int .i64 x.lo, .int .i64 x.hi, .int .i64 x.pieces, .int .i64 x.owner, .int .i64 x.count, .int .i64 x.of], .bool q]) ∧ Below w1.heap.size w1 w') := HPt
    have HX := Lib.hid hx
    have HQ := Lib.hid hq
    clear hx hq
    go_enter Tryz.func178, Tryz.ntmps178
    go_wp2_with fail
    rw [← HW1.out]
    clear q0 q1
    refine HPt.out.mono ?_
    rintro e w2 ⟨rfl, hb2⟩
    have hG2 := HG1.out.later hEW hb2
    have HG2 := Lib.hid hG2
    clear hb2 hG2 HPt HG1
    go_upto_if 31 with fail
    have hbt : w2.heap.size ≥ W.heap.size := HG2.out.sz
    have hG3 := HG2.out.later hEW ((Below.refl w2.heap.size w2).alloc (Nat.le_refl _) (.cells #[.int .i64 x.id, .int .i64 x.known, .int .u8 x.kind, .int .i64 x.loss, .int .i64 x.pack, .int .i64 x.inn, .string x.mark, .string x.goods, .int .i64 x.lo, .int .i64 x.hi, .int .i64 x.pieces, .int .i64 x.owner, .int .i64 x.count, .int .i64 x.of] 28))
    have hbx : ∀ i u, x.vals[i]? = some u → (w2.alloc (.cells #[.int .i64 x.id, .int .i64 x.known, .int .u8 x.kind, .int .i64 x.loss, .int .i64 x.pack, .int .i64 x.inn, .string x.mark, .string x.goods, .int .i64 x.lo, .int .i64 x.hi, .int .i64 x.pieces, .int .i64 x.owner, .int .i64 x.count, .int .i64 x.of] 28)).cell? ⟨w2.heap.size, i, none⟩ = some u := fun i u hu => by rw [World.cell?_alloc_new, ← hu]; simp [Paper.vals]
    have hbh : (w2.alloc (.cells #[.int .i64 x.id, .int .i64 x.known, .int .u8 x.kind, .int .i64 x.loss, .int .i64 x.pack, .int .i64 x.inn, .string x.mark, .string x.goods, .int .i64 x.lo, .int .i64 x.hi, .int .i64 x.pieces, .int .i64 x.owner, .int .i64 x.count, .int .i64 x.of] 28)).heap[w2.heap.size]? = some (.cells #[.int .i64 x.id, .int .i64 x.known, .int .u8 x.kind, .int .i64 x.loss, .int .i64 x.pack, .int .i64 x.inn, .string x.mark, .string x.goods, .int .i64 x.lo, .int .i64 x.hi, .int .i64 x.pieces, .int .i64 x.owner, .int .i64 x.count, .int .i64 x.of] 28) := World.alloc_heap_new _ _
    have hs3 : (w2.alloc (.cells #[.int .i64 x.id, .int .i64 x.known, .int .u8 x.kind, .int .i64 x.loss, .int .i64 x.pack, .int .i64 x.inn, .string x.mark, .string x.goods, .int .i64 x.lo, .int .i64 x.hi, .int .i64 x.pieces, .int .i64 x.owner, .int .i64 x.count, .int .i64 x.of] 28)).heap.size = w2.heap.size + 1 := by simp
    generalize w2.alloc (.cells #[.int .i64 x.id, .int .i64 x.known, .int .u8 x.kind, .int .i64 x.loss, .int .i64 x.pack, .int .i64 x.inn, .string x.mark, .string x.goods, .int .i64 x.lo, .int .i64 x.hi, .int .i64 x.pieces, .int .i64 x.owner, .int .i64 x.count, .int .i64 x.of] 28) = w3 at *
    have HG3 := Lib.hid hG3
    have HBX := Lib.hid hbx
    have HBH := Lib.hid hbh
    clear hG3 hbx hbh
    go_cut [] from 10 (fun wx => Hid (∃ T, G0 E0 w0 W bc b p ((ofP ts p).map (·.count)) { d0 with tot := T, sum0 := (sumsOf ts ids all p).1, sum1 := (sumsOf ts ids all p).2 } c wx ∧ (ofP ts p = none → T = .pointer none)))
    case first =>
      cases q
      case false =>
        have hno : ofP ts p = none := by simpa using HQ.out
        go_wp2_with fail
        go_meet
        case rel =>
          refine ⟨.pointer none, ?_, fun _ => rfl⟩
          have h := HG3.out
          have e : ({ d0 with tot := .pointer none, sum0 := (sumsOf ts ids all p).1, sum1 := (sumsOf ts ids all p).2 } : Nd) = { d0 with sum0 := 0, sum1 := 1099511627776 } := by
            rw [sumsOf, hno, ← t0]; rfl
          rw [e, hno]
          exact h
      case true =>
        have hyes : ofP ts p = some x := by
          obtain ⟨t, ht⟩ := Option.isSome_iff_exists.1 HQ.out
          have := HX.out
          rw [ofV, ht] at this
          rw [ht]; exact congrArg some this
        have HY := Lib.hid hyes
        clear hyes
        obtain ⟨wB, hwB⟩ : ∃ wB, wB = ((w3.setCell ⟨b, 15, none⟩ (.pointer (some ⟨w2.heap.size, 0, none⟩))).setCell ⟨b, 19, none⟩ (.int .i64 0)).setCell ⟨b, 20, none⟩ (.int .i64 10000000) := ⟨_, rfl⟩
        have hGB : G0 E0 w0 W bc b p (some x.count) { d0 with tot := ptr w2.heap.size, sum0 := 0, sum1 := 10000000 } c wB ∧ (∀ i u, x.vals[i]? = some u → wB.cell? ⟨w2.heap.size, i, none⟩ = some u) := by
          have hbb : w2.heap.size ≠ b := by omega
          have hh : wB.heap[w2.heap.size]? = w3.heap[w2.heap.size]? := by
            rw [hwB, Below.heap_setCell _ _ _ _ hbb, Below.heap_setCell _ _ _ _ hbb, Below.heap_setCell _ _ _ _ hbb]
          have hcc : ∀ i u, x.vals[i]? = some u → wB.cell? ⟨w2.heap.size, i, none⟩ = some u := fun i u hu => (World.cell?_of_block (w := w3) hh).trans (HBX.out i u hu)
          refine ⟨?_, hcc⟩
          have h0 := HG3.out
          have n1 := h0.node.set_tot (.pointer (some ⟨w2.heap.size, 0, none⟩))
          have g1 := grown_setCell w3 b 15 (.pointer (some ⟨w2.heap.size, 0, none⟩))
          have h1 : G0 E0 w0 W bc b p none { d0 with tot := ptr w2.heap.size, sum0 := 0, sum1 := 1099511627776 } c (w3.setCell ⟨b, 15, none⟩ (.pointer (some ⟨w2.heap.size, 0, none⟩))) := by
            exact h0.own0 hEW hcE hbE g1 n1
          have h2 := h1.own hEW hcE hbE (grown_setCell _ b 19 (.int .i64 0)) (h1.node.set_sum0 0) rfl
          have h3 := h2.own hEW hcE hbE (grown_setCell _ b 20 (.int .i64 10000000)) (h2.node.set_sum1 10000000) rfl
          rw [← hwB] at h3
          exact ⟨h3.kb, h3.fr, h3.sz, h3.node, fun t ht => ⟨w2.heap.size, rfl, hbt, by cases ht; exact hcc 12 _ rfl, _, hh.trans HBH.out⟩, h3.cnt, h3.cz⟩
        obtain ⟨hG4, hbx4⟩ := hGB
        have hev4 := HEnv.out wB hG4.kb
        have n3 := HG3.out.node
        have k15 := n3.tot
        have k19 := n3.sum0
        have k20 := n3.sum1
        have kz := n3.frozen
        obtain ⟨d0', d1', d2', d3', d4', d5', d6', d7', d8', d9', d10', d11', d12', d13'⟩ := paper_cells (w := wB) (b := w2.heap.size) (o := 0) x (fun i u hu => by rw [Nat.zero_add]; exact hbx4 i u hu)
        have ea4 := hev4.a
        have ei4 := hev4.i
        have HWB := Lib.hid hwB
        have HG4 := Lib.hid hG4
        have m19 := hG4.node.sum0
        have m20 := hG4.node.sum1
        have mz := hG4.node.frozen
        have HC := Lib.hid (Contains_any _ ids x.id wB (HI.out.below hev4.below) hni)
        -- behind the store of the weights
        have hfin : Hid (∀ wx, G0 E0 w0 W bc b p (some x.count) { d0 with tot := ptr w2.heap.size, sum0 := 0, sum1 := 10000000 } c wx → useId ids all x.id = true →
            (∃ T, G0 E0 w0 W bc b p ((ofP ts p).map (·.count)) { d0 with tot := T, sum0 := (sumsOf ts ids all p).1, sum1 := (sumsOf ts ids all p).2 } c ((wx.setCell ⟨b, 19, none⟩ (.int .i64 x.lo)).setCell ⟨b, 20, none⟩ (.int .i64 x.hi)) ∧ (ofP ts p = none → T = .pointer none))) := fun wx hx hu => by
          refine ⟨ptr w2.heap.size, ?_, fun h => by rw [HY.out] at h; cases h⟩
          have h2 := hx.own hEW hcE hbE (grown_setCell _ b 19 (.int .i64 x.lo)) (hx.node.set_sum0 x.lo) rfl
          have h3 := h2.own hEW hcE hbE (grown_setCell _ b 20 (.int .i64 x.hi)) (h2.node.set_sum1 x.hi) rfl
          rw [sumsOf, HY.out]
          simp only [hu, if_true]
          exact h3
        have hfin2 : Hid (∀ wx, G0 E0 w0 W bc b p (some x.count) { d0 with tot := ptr w2.heap.size, sum0 := 0, sum1 := 10000000 } c wx → useId ids all x.id = false →
            (∃ T, G0 E0 w0 W bc b p ((ofP ts p).map (·.count)) { d0 with tot := T, sum0 := (sumsOf ts ids all p).1, sum1 := (sumsOf ts ids all p).2 } c wx ∧ (ofP ts p = none → T = .pointer none))) := fun wx hx hu => by
          refine ⟨ptr w2.heap.size, ?_, fun h => by rw [HY.out] at h; cases h⟩
          rw [sumsOf, HY.out]
          simp only [hu]
          exact hx
        clear hG4 hev4 hwB n3 hbx4 HBX HBH HG3
        cases all
        case true =>
          rw [HWB.out] at ea4 d8' d9'
          go_wp2_with fail
          go_meet
          case rel =>
            rw [← HWB.out]
            exact hfin.out _ HG4.out rfl
        case false =>
          have hu : Hid (useId ids false x.id = ids.contains x.id) := by show _ = _; rfl
          have D8 := Lib.hid d8'
          have D9 := Lib.hid d9'
          rw [HWB.out] at ea4 ei4 d0'
          generalize ids.contains x.id = hit at *
          clear d1' d2' d3' d4' d5' d6' d7' d8' d9' d10' d11' d12' d13' m19 m20 mz
          go_wp2_with fail
          rw [← HWB.out]
          refine HC.out.mono ?_
          rintro e w5 ⟨rfl, hb5⟩
          have hG5 := HG4.out.later hEW hb5
          have hbl : w2.heap.size < wB.heap.size := by
            obtain ⟨ob, ho, _⟩ := cells_of_cell D8.out
            exact (Array.getElem?_eq_some_iff.1 ho).1
          have e8 := (hb5.cell (p := ⟨w2.heap.size, 0 + 8, none⟩) hbl).trans D8.out
          have e9 := (hb5.cell (p := ⟨w2.heap.size, 0 + 9, none⟩) hbl).trans D9.out
          rw [Nat.zero_add] at e8 e9
          have m19 := hG5.node.sum0
          have m20 := hG5.node.sum1
          have mz := hG5.node.frozen
          have HG5 := Lib.hid hG5
          clear hb5 hG5 HC ea4 ei4 d0' k15 k19 k20 kz
          cases hit
          case false =>
            go_wp2_with fail
            go_meet
            case rel => exact hfin2.out _ HG5.out hu.out
          case true =>
            go_wp2_with fail
            go_meet
            case rel => exact hfin.out _ HG5.out hu.out
    case rest =>
      clear HG2 HX HQ HG3 HBX HBH HW1 f0 f19 f20 fz
      obtain ⟨T, hG, hTn⟩ := hcut.out
      clear hcut
      generalize hdp : ({ d0 with tot := T, sum0 := (sumsOf ts ids all p).1, sum1 := (sumsOf ts ids all p).2 } : Nd) = dp at *
      have hdpf : dp.own0 = d0.own0 ∧ dp.own1 = d0.own1 ∧ dp.sum0 = (sumsOf ts ids all p).1 ∧ dp.sum1 = (sumsOf ts ids all p).2 ∧ dp.missing = 0 ∧ dp.low = 0 ∧ dp.end0 = 0 ∧ dp.end1 = 0 ∧ dp.tot = T ∧ dp.kids = .slice none 0 0 := by
        rw [← hdp]; exact ⟨rfl, rfl, rfl, rfl, t2, t3, t4, t5, rfl, t1⟩
      have HDP := Lib.hid hdpf
      have HTN := Lib.hid hTn
      clear hdp hdpf hTn t0 t1 t2 t3 t4 t5
      have hev := HEnv.out wc hG.kb
      have q0 := hev.m0
      have q1 := hev.m1
      have HIn := Lib.hid (inside_any _ (.slice a2 ts.length c2) ps ts p wc (HP.out.below hev.below) ⟨_, _, _, rfl⟩ hnp)
      have HG := Lib.hid hG
      clear hev hG
      go_wp2_with fail
      refine HIn.out.mono ?_
      rintro e wd ⟨vin, rfl, hin, hbd⟩
      have hinW : Own3 W.heap.size wd vin (ins ps p) := owns_mono hin HG.out.sz
      obtain ⟨pi, ci, hvin, _, hci, _⟩ := Rows.of_owns encI_len hin
      subst hvin
      have hGI := GI.of_G0 (K := ins ps) (A := fun _ => 0) (S := fun _ => dp) (HG.out.later hEW hbd) HDP.out.2.2.2.2.2.2.2.2.2 hinW
      have HGI := Lib.hid hGI
      clear hin hbd hinW hGI HIn HG q0 q1
      go_wp2_with fail
      go_loopw [55] (fun s55 wr => ∃ (k : Nat), k ≤ (ins ps p).length ∧ s55 = .int .i64 k ∧ Hid (∃ (A : Int → Nat) (S : Int → Nd) (v : Value), GI E0 w0 W bc b (ins ps) p ((ofP ts p).map (·.count)) dp v (.slice pi (ins ps p).length ci) k (((ins ps p).take k).map fun q => ptr (A q)) A S (((ins ps p).take k).flatMap (sub (ins ps) n)) (c + (((ins ps p).take k).flatMap (sub (ins ps) n)).length) wr ∧
        (∀ q ∈ (ins ps p).take k, growOK ps ts n q = true) ∧ (∀ r ∈ ((ins ps p).take k).flatMap (sub (ins ps) n), ((S r).own0, (S r).own1) = ownOf ps ids all r ∧ Grown' ps ts ids all r (S r) ∧ ∀ g, (S r).kids.ownBlock = some g → W.heap.size ≤ g))) (fun s55 _ => (ins ps p).length - (intOf s55).toNat)
      case atStart =>
        exact ⟨0, Nat.zero_le _, rfl, ⟨_, _, _, by simpa using HGI.out, (by simp), (by simp)⟩⟩
      case round =>
        obtain ⟨k, hk, rfl, hrx⟩ := hrel
        by_cases hlt : k < (ins ps p).length
        · obtain ⟨A, S, v, hgi, hok, hrs⟩ := hrx.out
          clear hrx HGI
          obtain ⟨q, hq⟩ : ∃ q, q = (ins ps p)[k] := ⟨_, rfl⟩
          have hqK : q ∈ ins ps p := by rw [hq]; exact List.getElem_mem hlt
          obtain ⟨pa, ca, hva, _, _, hcells⟩ := Rows.of_owns encI_len hgi.ints
          cases hva
          obtain ⟨gi, oi, rfl, hgil, hcell⟩ := hcells (by omega)
          have hck : wr.cell? ⟨gi, oi + k, none⟩ = some (.int .i64 q) := by
            have := hcell k hlt 0 _ rfl
            rw [hq]; simpa [encI] using this
          have hev := HEnv.out wr hgi.kb
          have q0 := hev.m0
          have q1 := hev.m1
          have HPa := Lib.hid (paper_any _ _ ps ts q wr (HP.out.below hev.below) (HT.out.below hev.below) hnp)
          obtain ⟨x, hx⟩ : ∃ x, x = ofV ps q := ⟨_, rfl⟩
          rw [← hx] at HPa
          have HPa : Hid (Calls Tryz.prog 96 #[.agg #[.slice a1 ps.length c1, .slice a2 ts.length c2], .int .i64 q] wr fun e w' => e = .returned (.tuple #[.agg #[.int .i64 x.id, .int .i64 x.known, .int .u8 x.kind, .int .i64 x.loss, .int .i64 x.pack, .int .i64 x.inn, .string x.mark, .string x.goods, .int .i64 x.lo, .int .i64 x.hi, .int .i64 x.pieces, .int .i64 x.owner, .int .i64 x.count, .int .i64 x.of], .bool (ofP ps q).isSome]) ∧ Below wr.heap.size wr w') := HPa
          generalize (ofP ps q).isSome = isq at *
          have HQ := Lib.hid hq
          have HX := Lib.hid hx
          have HGI := Lib.hid hgi
          have HOK := Lib.hid hok
          have HRS := Lib.hid hrs
          have HQK := Lib.hid hqK
          clear hq hx hgi hok hrs hqK hev hcell hcells
          go_wp2_with fail
          refine HPa.out.mono ?_
          rintro e wA ⟨rfl, hbA⟩
          have hszA := hbA.size
          have hWr := HGI.out.sz
          clear hck q0 q1 HPa
          have hW3 : ∃ W3, W3 = (wA.alloc (.cells #[.int .i64 x.id, .int .i64 x.known, .int .u8 x.kind, .int .i64 x.loss, .int .i64 x.pack, .int .i64 x.inn, .string x.mark, .string x.goods, .int .i64 x.lo, .int .i64 x.hi, .int .i64 x.pieces, .int .i64 x.owner, .int .i64 x.count, .int .i64 x.of] 28)).alloc (.cells #[.int .i64 0, .int .i64 x.id, .int .i64 x.known, .int .u8 x.kind, .int .i64 x.loss, .int .i64 x.pack, .int .i64 x.inn, .string x.mark, .string x.goods, .int .i64 x.lo, .int .i64 x.hi, .int .i64 x.pieces, .int .i64 x.owner, .int .i64 x.count, .int .i64 x.of, .pointer none, .slice none 0 0, .int .i64 1, .int .i64 100000, .int .i64 0, .int .i64 0, .int .i64 0, .int .i64 0, .int .i64 0, .int .i64 0] 117) := ⟨_, rfl⟩
          obtain ⟨W3, hW3⟩ := hW3
          have hb3 : Below wr.heap.size wr W3 := by
            rw [hW3]; exact (hbA.alloc hbA.size _).alloc (by have := hbA.size; simp; omega) _
          have hN3 : NodeAt W3 (wA.heap.size + 1) 0 { paper := x, tot := .pointer none, kids := .slice none 0 0, own0 := 1, own1 := 100000, sum0 := 0, sum1 := 0, missing := 0, low := 0, end0 := 0, end1 := 0 } := by
            have := World.alloc_heap_new (wA.alloc (.cells #[.int .i64 x.id, .int .i64 x.known, .int .u8 x.kind, .int .i64 x.loss, .int .i64 x.pack, .int .i64 x.inn, .string x.mark, .string x.goods, .int .i64 x.lo, .int .i64 x.hi, .int .i64 x.pieces, .int .i64 x.owner, .int .i64 x.count, .int .i64 x.of] 28)) (.cells #[.int .i64 0, .int .i64 x.id, .int .i64 x.known, .int .u8 x.kind, .int .i64 x.loss, .int .i64 x.pack, .int .i64 x.inn, .string x.mark, .string x.goods, .int .i64 x.lo, .int .i64 x.hi, .int .i64 x.pieces, .int .i64 x.owner, .int .i64 x.count, .int .i64 x.of, .pointer none, .slice none 0 0, .int .i64 1, .int .i64 100000, .int .i64 0, .int .i64 0, .int .i64 0, .int .i64 0, .int .i64 0, .int .i64 0] 117)
            rw [World.size_alloc] at this
            rw [hW3]; exact this
          have hx3 : ∀ i u, x.vals[i]? = some u → W3.cell? ⟨wA.heap.size, i, none⟩ = some u := fun i u hu => by
            rw [hW3]
            refine (World.cell?_of_block (w := wA.alloc (.cells #[.int .i64 x.id, .int .i64 x.known, .int .u8 x.kind, .int .i64 x.loss, .int .i64 x.pack, .int .i64 x.inn, .string x.mark, .string x.goods, .int .i64 x.lo, .int .i64 x.hi, .int .i64 x.pieces, .int .i64 x.owner, .int .i64 x.count, .int .i64 x.of] 28)) (Below.heap_alloc _ _ _ (by simp))).trans ?_
            rw [World.cell?_alloc_new, ← hu]; simp [Paper.vals]
          have hs3 : W3.heap.size = wA.heap.size + 1 + 1 := by rw [hW3]; simp
          have hG3 := HGI.out.later hEW hb3
          have HW3 := Lib.hid hW3
          have HN3 := Lib.hid hN3
          have HX3 := Lib.hid hx3
          have HG3 := Lib.hid hG3
          have HB3 := Lib.hid hb3
          clear hW3 hN3 hx3 hG3 hb3 hbA
          go_upto_region 12 with fail
          rw [← HW3.out]
          have hev3 := HEnv.out W3 HG3.out.kb
          have ea3 := hev3.a
          have ei3 := hev3.i
          have HC := Lib.hid (Contains_any _ ids x.id W3 (HI.out.below hev3.below) hni)
          clear hev3
          go_cut [55, 75] from 56 to 98 (fun s55 s75 wx => s55 = .int .i64 k ∧ s75 = .bool (useId ids all x.id) ∧ Hid (Below W3.heap.size W3 wx))
          case first =>
            cases all
            case true =>
              go_wp2_with fail
              go_meet
              case rel => exact ⟨rfl, rfl, Below.refl _ _⟩
            case false =>
              have hu : Hid (useId ids false x.id = ids.contains x.id) := by show _ = _; rfl
              have d0' := HX3.out 0 _ rfl
              generalize ids.contains x.id = hit at *
              go_wp2_with fail
              refine HC.out.mono ?_
              rintro e w5 ⟨rfl, hb5⟩
              have HB5 := Lib.hid hb5
              clear hb5 HC
              go_wp2_with fail
              go_meet
              case rel => exact ⟨rfl, by rw [hu.out], HB5.out⟩
          case rest =>
            obtain ⟨rfl, rfl, hbx⟩ := hcut
            have hN4 := HN3.out.of_heap (hbx.out.block _ HN3.out.lt)
            have hx4 : ∀ i u, x.vals[i]? = some u → wc.cell? ⟨wA.heap.size, i, none⟩ = some u := fun i u hu => (hbx.out.cell (p := ⟨wA.heap.size, i, none⟩) (by show wA.heap.size < _; omega)).trans (HX3.out i u hu)
            have hb4 : Below wr.heap.size wr wc := HB3.out.trans (hbx.out.mono HB3.out.size)
            have hs4 := hbx.out.size
            have HN4 := Lib.hid hN4
            have HB4 := Lib.hid hb4
            have d8' := hx4 8 _ rfl
            have d9' := hx4 9 _ rfl
            have m17 := hN4.own0
            have m18 := hN4.own1
            have mz := hN4.frozen
            have hown : Hid (ownOf ps ids all q = if useId ids all x.id then (x.lo, x.hi) else (1, 100000)) := by show _ = _; rw [ownOf, ← HX.out]
            clear hN4 hx4 hb4 hbx HC ea3 ei3 HG3 HX3 HN3 HW3 HB3
            go_upto_if 75 with fail
            go_cut [55] from 56 to 98 (fun s55 wx => s55 = .int .i64 k ∧ Hid (Below wr.heap.size wr wx ∧ wA.heap.size + 1 < wx.heap.size ∧ NodeAt wx (wA.heap.size + 1) 0 { paper := x, tot := .pointer none, kids := .slice none 0 0, own0 := (ownOf ps ids all q).1, own1 := (ownOf ps ids all q).2, sum0 := 0, sum1 := 0, missing := 0, low := 0, end0 := 0, end1 := 0 }))
            case first =>
              generalize useId ids all x.id = us at *
              cases us
              case false =>
                go_wp2_with fail
                go_meet
                case rel => exact ⟨rfl, HB4.out, HN4.out.lt, by rw [hown.out]; exact HN4.out⟩
              case true =>
                go_wp2_with fail
                go_meet
                case rel =>
                  have h5 := (HN4.out.set_own0 x.lo).set_own1 x.hi
                  exact ⟨rfl, (HB4.out.setCell (p := ⟨wA.heap.size + 1, 17, none⟩) (by simp; omega) _).setCell (p := ⟨wA.heap.size + 1, 18, none⟩) (by simp; omega) _, h5.lt, by rw [hown.out]; exact h5⟩
            case rest =>
              obtain ⟨rfl, hR⟩ := hcut
              clear HN4 HB4 d8' d9' m17 m18 mz hs4 hown
              have hg4 := HGI.out.later hEW hR.out.1
              have hNk := hR.out.2.2
              have hsk := hR.out.2.1
              have HLen := Lib.hid (take_len (sub (ins ps) n) (ins ps p) k hlt)
              rw [← HQ.out] at HLen
              have hcl : c + ((((ins ps p).take k).flatMap (sub (ins ps) n)).length : Int) + ((sub (ins ps) n q).length : Int) + 1 ≤ 1000000 := by
                have h1 := HLen.out
                have h2 : ((sub (ins ps) (n + 1) p).length : Int) = ((((ins ps p)).flatMap (sub (ins ps) n)).length : Int) + 1 := by rw [sub]; simp
                omega
              obtain ⟨cc, hcc⟩ : ∃ cc : Int, cc = c + ((((ins ps p).take k).flatMap (sub (ins ps) n)).length : Int) := ⟨_, rfl⟩
              rw [← hcc] at hg4 hcl
              have HCC := Lib.hid hcc
              have hcc0 : 0 ≤ cc := by omega
              have k0 := hg4.cnt
              have k1 := hg4.cz
              have iw : IntKind.i64.wrap (cc + 1) = cc + 1 := IntWalk.i64_in _ (by omega)
              have HG4 := Lib.hid hg4
              have HNK := Lib.hid hNk
              clear hg4 hNk hR hcc
              go_upto_region 15 with fail
              have hg5 := HG4.out.count (by omega) (by omega) (cc + 1)
              have hNk5 : NodeAt (wc.setCell ⟨bc, 0, none⟩ (.int .i64 (cc + 1))) (wA.heap.size + 1) 0 _ := HNK.out.of_heap (Below.heap_setCell _ _ _ _ (by simp; omega))
              have hs5 : (wc.setCell ⟨bc, 0, none⟩ (.int .i64 (cc + 1))).heap.size = wc.heap.size := by simp [World.setCell]
              generalize wc.setCell ⟨bc, 0, none⟩ (.int .i64 (cc + 1)) = w5 at *
              have r16 := hg5.node.kids
              have HG5 := Lib.hid hg5
              have HNK5 := Lib.hid hNk5
              have HS5 := Lib.hid hs5
              obtain ⟨i1, hi1, hy0, hy1, hy2⟩ := info_parts Tryz.info101
              have hone : Hid (∀ u ∈ [Value.pointer (some ⟨wA.heap.size + 1, 0, none⟩)], u.oneCell' = true) := by show ∀ u ∈ _, _; simp [Value.oneCell']
              have hnews : Hid (∀ j u, [Value.pointer (some ⟨wA.heap.size + 1, 0, none⟩)][j]? = some u → (w5.alloc (.cells #[.pointer (some ⟨wA.heap.size + 1, 0, none⟩)] 101)).cell? ((⟨w5.heap.size, 0, none⟩ : Addr).add j) = some u) := fun j u hu => by
                rw [Addr.add_lit, Nat.zero_add, World.cell?_alloc_new, ← hu]; simp
              have hkk : k ≤ 1000 := by have := ins_len ps p; omega
              clear hg5 hNk5 hs5 k0 k1 iw HG4 HNK
              go_wp2_with (at_builtin; go_must (refine wpList_append_lies _ rfl _ _ 115 rfl W.heap.size 101 i1 _ 1 8 Tryz.underlying115 hi1 hy0 hy1 hy2 rfl (by decide) v k (((ins ps p).take k).map fun q => ptr (A q)) rfl (HG5.out.row.alloc _) ⟨w5.heap.size, 0, none⟩ 1 1 [.pointer (some ⟨wA.heap.size + 1, 0, none⟩)] rfl rfl hnews.out hone.out (by decide) (by unfold maxLen; omega) (by omega) (by have := HG5.out.sz; simp; omega) _ rfl ?_; intro g cap w9 hown9 hg9 hor9 hlt9; obtain ⟨hn9, hgi10⟩ := (HG5.out.later hEW ((Below.refl w5.heap.size w5).alloc (Nat.le_refl _) (.cells #[.pointer (some ⟨wA.heap.size + 1, 0, none⟩)] 101))).kid hEW hcE hbE hg9 hown9 hor9 hbW; have m16 := hn9.kids; have mz9 := hn9.frozen; have hf10 : (w9.setCell ⟨b, 16, none⟩ (.slice (some ⟨g, 0, none⟩) (k + 1) cap)).cell? ⟨bf, 0, none⟩ = some (.func (.func 178) #[] #[.pointer (some ⟨bm, 0, none⟩), .pointer (some ⟨ba, 0, none⟩), .pointer (some ⟨bi, 0, none⟩), .pointer (some ⟨bc, 0, none⟩), .pointer (some ⟨bf, 0, none⟩)]) := (HEnv.out _ hgi10.kb).f; have HGI10 := Lib.hid hgi10; have HG9 := Lib.hid hg9; have HOWN9 := Lib.hid hown9; clear hn9 hgi10 hg9 hown9 hor9))
              have hNk9 : NodeAt (w9.setCell ⟨b, 16, none⟩ (.slice (some ⟨g, 0, none⟩) (k + 1) cap)) (wA.heap.size + 1) 0 { paper := x, tot := .pointer none, kids := .slice none 0 0, own0 := (ownOf ps ids all q).1, own1 := (ownOf ps ids all q).2, sum0 := 0, sum1 := 0, missing := 0, low := 0, end0 := 0, end1 := 0 } := by
                have h1 := HNK5.out.of_heap (w' := w5.alloc (.cells #[.pointer (some ⟨wA.heap.size + 1, 0, none⟩)] 101)) (Below.heap_alloc _ _ _ HNK5.out.lt)
                have h2 := h1.of_heap (w' := w9) (HG9.out.block _ h1.lt (by
                  rcases row_not_node h1 (HG5.out.row.alloc _) (by decide) with e | e
                  · rw [e]; simp
                  · exact fun e' => e e'.symm))
                exact h2.of_heap (Below.heap_setCell _ _ _ _ (by simp; omega))
              have hDk : ∀ r ∈ ((ins ps p).take k).flatMap (sub (ins ps) n), A r ≠ wA.heap.size + 1 := fun r hr => by
                have := (HGI.out.forest.node r hr).lt
                omega
              clear hf10 m16 mz9
              generalize w9.setCell ⟨b, 16, none⟩ (.slice (some ⟨g, 0, none⟩) (k + 1) cap) = w10 at *
              have hg10 := HGI10.out
              refine (IH.out q (wA.heap.size + 1) _ (cc + 1) w10 (HD.out q HQK.out) hg10.kb (by omega) hNk9 rfl rfl rfl rfl rfl rfl hg10.cnt hg10.cz (by omega) (by omega)).mono ?_
              rintro e w11 ⟨rfl, hk11, hf11, hs11, hyes11⟩
              cases hgq : growOK ps ts n q
              case false =>
                have hno : growOK ps ts (n + 1) p = false := by
                  rw [growOK, Bool.and_eq_false_iff]
                  left
                  rw [List.all_eq_false]
                  exact ⟨q, HQK.out, by rw [hgq]; simp⟩
                have HNO := Lib.hid hno
                have HFR : Hid (∀ j, j < W.heap.size → j ≠ b → j ≠ bc → w11.heap[j]? = W.heap[j]?) := fun j h1 h2 h3 => (hf11 j (by have := hg10.sz; omega) (by omega) h3).trans (hg10.fr j h1 h2 h3)
                have HSZ : Hid (W.heap.size ≤ w11.heap.size) := Nat.le_trans hg10.sz hs11
                have HK11 := Lib.hid hk11
                clear hyes11 hf11 hno hk11 hg10 hNk9 IH hs11
                go_wp2_with fail
                go_ret
                exact ⟨by rw [HNO.out]; rfl, HK11.out, HFR.out, HSZ.out, fun h => by rw [HNO.out] at h; cases h⟩
              case true =>
                obtain ⟨hz11, hc11, A', S', hA', hF', hr1, hr2, ho0, ho1, hgr⟩ := hyes11 hgq
                have hgo := hg10.over (by omega) hbW (by omega) hk11 hf11 hs11 hNk9 (by omega) hDk hc11 hz11
                have hFor := hF' W.heap.size (by omega) hg10.sz
                have hqs : q ∈ sub (ins ps) n q := sub_self (HD.out q HQK.out)
                have hqt : q ∉ (ins ps p).take k := by rw [HQ.out]; exact not_in_take _ (hKn p) k hlt
                have hdeep : Deep (ins ps) (n + 1) p := HD.out
                have hdis : ∀ y ∈ ((ins ps p).take k).flatMap (sub (ins ps) n), y ∉ sub (ins ps) n q := fun y hy hy2 => by
                  obtain ⟨s, hs, hys⟩ := List.mem_flatMap.1 hy
                  have := subs_apart hU hdeep (List.mem_of_mem_take hs) HQK.out hys hy2
                  subst this
                  exact hqt hs
                have hadd : ∀ y ∈ ((ins ps p).take k).flatMap (sub (ins ps) n), ∀ z ∈ sub (ins ps) n q, A y ≠ A' z := fun y hy z hz => by
                  have h1 := (HGI.out.forest.node y hy).lt
                  by_cases e : z = q
                  · rw [e, hA']; omega
                  · have := (hr1 z hz e).1
                    have := hg10.sz
                    have h2 := (hg10.forest.node y hy).lt
                    omega
                have hge := hgo.extend (Z := w10.heap.size) hFor hdis hadd (fun g' hg' => (hg10.row.lt g' hg').2) hr2
                have hxs : (((ins ps p).take k).map fun q => ptr (A q)) ++ [.pointer (some ⟨wA.heap.size + 1, 0, none⟩)] = ((ins ps p).take (k + 1)).map fun r => ptr (pick (sub (ins ps) n q) A' A r) := by
                  rw [List.take_succ_eq_append_getElem hlt, List.map_append, ← HQ.out]
                  congr 1
                  · refine List.map_congr_left (fun r hr => ?_)
                    have : r ∉ sub (ins ps) n q := fun hm => by
                      have := subs_apart hU hdeep (List.mem_of_mem_take hr) HQK.out (sub_self (HD.out r (List.mem_of_mem_take hr))) hm
                      subst this
                      exact hqt hr
                    rw [pick_out this]
                  · simp only [List.map_cons, List.map_nil]
                    rw [pick_in hqs, hA']; rfl
                have hfl : ((ins ps p).take k).flatMap (sub (ins ps) n) ++ sub (ins ps) n q = ((ins ps p).take (k + 1)).flatMap (sub (ins ps) n) := by
                  rw [List.take_succ_eq_append_getElem hlt, List.flatMap_append, ← HQ.out]; simp
                have hcn : cc + 1 + ((sub (ins ps) n q).length : Int) - 1 = c + ((((ins ps p).take (k + 1)).flatMap (sub (ins ps) n)).length : Int) := by
                  rw [← hfl, List.length_append, HCC.out]; push_cast; omega
                have HREL : Hid (∃ (A : Int → Nat) (S : Int → Nd) (v : Value), GI E0 w0 W bc b (ins ps) p ((ofP ts p).map (·.count)) dp v (.slice (some ⟨gi, oi, none⟩) (ins ps p).length ci) (k + 1) (((ins ps p).take (k + 1)).map fun q => ptr (A q)) A S (((ins ps p).take (k + 1)).flatMap (sub (ins ps) n)) (c + (((ins ps p).take (k + 1)).flatMap (sub (ins ps) n)).length) w11 ∧
                    (∀ q ∈ (ins ps p).take (k + 1), growOK ps ts n q = true) ∧ (∀ r ∈ ((ins ps p).take (k + 1)).flatMap (sub (ins ps) n), ((S r).own0, (S r).own1) = ownOf ps ids all r ∧ Grown' ps ts ids all r (S r) ∧ ∀ g, (S r).kids.ownBlock = some g → W.heap.size ≤ g)) := by
                  refine ⟨pick (sub (ins ps) n q) A' A, pick (sub (ins ps) n q) S' S, .slice (some ⟨g, 0, none⟩) (k + 1) cap, ?_, ?_, ?_⟩
                  · rw [← hxs, ← hcn, ← hfl]; exact hge
                  · intro r hr
                    rw [List.take_succ_eq_append_getElem hlt, ← HQ.out] at hr
                    rcases List.mem_append.1 hr with hr | hr
                    · exact HOK.out r hr
                    · rw [List.mem_singleton] at hr; rw [hr]; exact hgq
                  · intro r hr
                    rw [← hfl] at hr
                    by_cases e : r ∈ sub (ins ps) n q
                    · rw [pick_in e]
                      refine ⟨?_, hgr r e, fun g' hg' => Nat.le_trans hg10.sz (hr2 r e g' hg')⟩
                      by_cases e2 : r = q
                      · rw [e2, ho0, ho1]
                      · exact (hr1 r e e2).2
                    · rw [pick_out e]
                      exact HRS.out r ((List.mem_append.1 hr).resolve_right e)
                clear hge hgo hFor hdis hadd hxs hfl hcn hgr hr1 hr2 hF' hyes11 hf11 hk11 hNk9 IH hg10 hz11 hc11 ho0 ho1 hs11
                go_wp2_with fail
                go_roundw
                case rel => exact ⟨k + 1, by omega, by go_num, HREL.out⟩
                case measure => simp [intOf]; omega
        · obtain rfl : k = (ins ps p).length := by omega
          obtain ⟨A, S, v, hgi, hok, hrs⟩ := hrx.out
          rw [List.take_of_length_le (Nat.le_refl _)] at hgi hok hrs
          clear hrx HGI IH
          have hdeep : Deep (ins ps) (n + 1) p := HD.out
          have hpD : p ∉ (ins ps p).flatMap (sub (ins ps) n) := fun h => by
            obtain ⟨s, hs, h⟩ := List.mem_flatMap.1 h
            exact sub_above hdeep hs h
          have hpK : p ∉ ins ps p := fun h => no_cycle hdeep (k := 0) (lev_succ.2 ⟨p, by simp [lev], h⟩)
          have hKD : ∀ q ∈ ins ps p, q ∈ (ins ps p).flatMap (sub (ins ps) n) := fun q hq => List.mem_flatMap.2 ⟨q, hq, sub_self (hdeep q hq)⟩
          have hall : (ins ps p).all (growOK ps ts n) = true := List.all_eq_true.2 hok
          -- what is handed back, once the missing are known
          have hend : Hid (∀ (w' : World) (d : Nd), NodeAt w' b p d → d.kids = v → d.own0 = d0.own0 → d.own1 = d0.own1 → Grown' ps ts ids all p d → wr.grownBy w' (some b) →
              KeptBut E0 bc w0 w' ∧ (∀ j, j < W.heap.size → j ≠ b → j ≠ bc → w'.heap[j]? = W.heap[j]?) ∧ W.heap.size ≤ w'.heap.size ∧ (w'.frozen? ⟨bc, 0, none⟩ = false ∧ w'.cell? ⟨bc, 0, none⟩ = some (.int .i64 (c + (sub (ins ps) (n + 1) p).length - 1)) ∧ ∃ (A : Int → Nat) (S : Int → Nd), A p = b ∧
              (∀ base, base ≤ b → base ≤ W.heap.size → Forest w' base (ins ps) A S (sub (ins ps) (n + 1) p)) ∧ (∀ r ∈ sub (ins ps) (n + 1) p, r ≠ p → W.heap.size ≤ A r ∧ ((S r).own0, (S r).own1) = ownOf ps ids all r) ∧ (∀ r ∈ sub (ins ps) (n + 1) p, ∀ g, (S r).kids.ownBlock = some g → W.heap.size ≤ g) ∧
              (S p).own0 = d0.own0 ∧ (S p).own1 = d0.own1 ∧ ∀ r ∈ sub (ins ps) (n + 1) p, Grown' ps ts ids all r (S r))) := fun w' d hd hdk ho0 ho1 hgr hg => by
            have hrow : ∀ (e : TypeId) (s n : Nat) (u : Value) (ys : List Value), wr.ownsRow W.heap.size e s u n ys → e ≠ 117 → w'.ownsRow W.heap.size e s u n ys := fun e s n u ys hr he => hr.kept hg (row_not_node hgi.node hr he)
            have hold : ∀ j, j < wr.heap.size → j ≠ b → w'.heap[j]? = wr.heap[j]? := fun j h1 h2 => hg.block j h1 (fun e => h2 (by simpa using e))
            have hbcl : bc < wr.heap.size := by have := hgi.sz; omega
            have hF : Forest w' W.heap.size (ins ps) A S ((ins ps p).flatMap (sub (ins ps) n)) := ⟨fun r hr => (hgi.forest.node r hr).of_heap (hold _ (hgi.forest.node r hr).lt (by have := hgi.forest.lo r hr; omega)), fun r hr => hrow _ _ _ _ _ (hgi.forest.row r hr) (by decide), hgi.forest.lo, hgi.forest.inj, hgi.forest.closed⟩
            refine ⟨hgi.kb.trans ⟨hg.os, hg.tape, hg.output, hg.size, fun j h1 h2 => hold j (by have := hgi.sz; omega) (by omega)⟩, fun j h1 h2 h3 => (hold j (by have := hgi.sz; omega) h2).trans (hgi.fr j h1 h2 h3), Nat.le_trans hgi.sz hg.size,
              (World.frozen?_of_block (w := wr) (hold bc hbcl (by omega))).trans hgi.cz, ?_, (fun x => if x = p then b else A x), upd S p d, by simp, fun base hb1 hb2 => ?_, ?_, ?_, by rw [upd_same]; exact ho0, by rw [upd_same]; exact ho1, ?_⟩
            · rw [World.cell?_of_block (w := wr) (a := ⟨bc, 0, none⟩) (hold bc hbcl (by omega)), hgi.cnt, sub, List.length_cons]
              congr 2
              push_cast
              omega
            · have hF2 : Forest w' base (ins ps) A S ((ins ps p).flatMap (sub (ins ps) n)) := ⟨hF.node, fun r hr => owns_mono (hF.row r hr) hb2, fun r hr => Nat.le_trans hb2 (hF.lo r hr), hF.inj, hF.closed⟩
              exact hF2.top hpD hd hb1 (by rw [hdk]; exact owns_mono (hrow _ _ _ _ _ hgi.row (by decide)) hb2) hpK hKD (fun r hr => by have := hF.lo r hr; omega)
            · intro r hr hne
              rw [sub] at hr
              have hrD := (List.mem_cons.1 hr).resolve_left hne
              simp only [if_neg hne]
              rw [upd_other _ _ _ _ hne]
              exact ⟨hF.lo r hrD, (hrs r hrD).1⟩
            · intro r hr g' hg'
              rw [sub] at hr
              by_cases e : r = p
              · subst e
                rw [upd_same, hdk] at hg'
                exact (hgi.row.lt g' hg').1
              · rw [upd_other _ _ _ _ e] at hg'
                exact (hrs r ((List.mem_cons.1 hr).resolve_left e)).2.2 g' hg'
            · intro r hr
              rw [sub] at hr
              by_cases e : r = p
              · subst e; rw [upd_same]; exact hgr
              · rw [upd_other _ _ _ _ e]
                exact (hrs r ((List.mem_cons.1 hr).resolve_left e)).2.1
          have hd := HDP.out
          obtain ⟨pv, cv, rfl⟩ : ∃ pv cv, v = .slice pv (ins ps p).length cv := by
            rcases hgi.row.2 with ⟨e, e2⟩ | ⟨g, cap, cur, e, _⟩
            · exact ⟨none, 0, by rw [e, e2]⟩
            · exact ⟨_, _, e⟩
          have n15 := hgi.node.tot
          have n16 := hgi.node.kids
          have n21 := hgi.node.missing
          have nz := hgi.node.frozen
          have hlK := ins_len ps p
          have qn : ∀ (W : World) (o : Option Addr), (binOp .neq 114 (.pointer o) (.pointer none)).run Tryz.prog W = .ok (.bool o.isSome) W := fun W o => by go_simp
          cases hop : ofP ts p
          case none =>
            have hT0 : dp.tot = .pointer none := by rw [hd.2.2.2.2.2.2.2.2.1]; exact HTN.out hop
            have hmis : missOf ps ts p = 0 := by rw [missOf, hop]
            have hG : Hid (growOK ps ts (n + 1) p = true) := by show _ = _; rw [growOK, hall, hmis]; rfl
            have HF := Lib.hid (hend.out wr { dp with kids := .slice pv (ins ps p).length cv } hgi.node rfl hd.1 hd.2.1 ⟨hd.2.2.1, hd.2.2.2.1, by rw [hmis]; exact hd.2.2.2.2.1, hd.2.2.2.2.2.1, hd.2.2.2.2.2.2.1, hd.2.2.2.2.2.2.2.1⟩ ⟨rfl, rfl, rfl, Nat.le_refl _, fun _ _ _ => rfl⟩)
            replace n15 : wr.cell? ⟨b, 15, none⟩ = some (.pointer none) := by rw [n15]; exact congrArg some hT0
            replace n21 : wr.cell? ⟨b, 21, none⟩ = some (.int .i64 0) := by rw [n21]; exact congrArg (fun z => some (Value.int .i64 z)) hd.2.2.2.2.1
            clear hend hgi hok hrs hall hd hmis hT0 hop
            go_wp2_with fail
            go_ret
            exact ⟨by rw [hG.out]; rfl, HF.out.1, HF.out.2.1, HF.out.2.2.1, fun _ => by obtain ⟨h1, h2, A, S, hA, h3⟩ := HF.out.2.2.2; first | exact ⟨h1, h2, A, hA, S, h3⟩ | exact ⟨h1, h2, A, S, hA, h3⟩⟩
          case some t =>
            obtain ⟨bt, hb1, hb2, hb3, _⟩ := hgi.tot t.count (by rw [hop]; rfl)
            have hmis : missOf ps ts p = t.count - (ins ps p).length := by rw [missOf, hop]
            have htm : t ∈ ts := List.mem_of_find?_eq_some hop
            obtain ⟨y0, y1⟩ := hform t htm
            generalize t.count = tc at *
            obtain ⟨M, hM⟩ : ∃ M : Int, M = tc - (ins ps p).length := ⟨_, rfl⟩
            have iw : IntKind.i64.wrap (tc - ((ins ps p).length : Int)) = tc - (ins ps p).length := IntWalk.i64_in _ (by omega)
            have hG : Hid (growOK ps ts (n + 1) p = decide (0 ≤ M)) := by show _ = _; rw [growOK, hall, hmis, hM]; rfl
            have hN' : NodeAt (wr.setCell ⟨b, 21, none⟩ (.int .i64 M)) b p { dp with kids := .slice pv (ins ps p).length cv, missing := M } := hgi.node.set_missing M
            have hend2 := hend.out ((wr.setCell ⟨b, 21, none⟩ (.int .i64 M)).drew) { dp with kids := .slice pv (ins ps p).length cv, missing := M } (hN'.of_heap rfl) rfl hd.1 hd.2.1 ⟨hd.2.2.1, hd.2.2.2.1, by rw [hmis]; exact hM, hd.2.2.2.2.2.1, hd.2.2.2.2.2.2.1, hd.2.2.2.2.2.2.2.1⟩ (by
              have := grown_setCell wr b 21 (.int .i64 M)
              exact ⟨this.os, this.tape, this.output, this.size, this.block⟩)
            have m21 : (wr.setCell ⟨b, 21, none⟩ (.int .i64 M)).drew.cell? ⟨b, 21, none⟩ = some (.int .i64 M) := hN'.missing
            have HF := Lib.hid hend2
            have HM := Lib.hid hM
            replace n15 : wr.cell? ⟨b, 15, none⟩ = some (.pointer (some ⟨bt, 0, none⟩)) := by rw [n15]; exact congrArg some hb1
            clear hend hend2 hgi hok hrs hall hd hmis hop hM hN' hb1 htm hb2
            go_wp2_with fail
            go_region
            rw [← HM.out]
            clear n15 n16 n21 iw hb3
            generalize (wr.setCell ⟨b, 21, none⟩ (.int .i64 M)).drew = w9 at *
            by_cases hM0 : 0 ≤ M
            · have HG : Hid (growOK ps ts (n + 1) p = true) := by show _ = _; rw [hG.out, decide_eq_true hM0]
              go_wp2_with fail
              go_ret
              exact ⟨by rw [HG.out]; rfl, HF.out.1, HF.out.2.1, HF.out.2.2.1, fun _ => by obtain ⟨h1, h2, A, S, hA, h3⟩ := HF.out.2.2.2; first | exact ⟨h1, h2, A, hA, S, h3⟩ | exact ⟨h1, h2, A, S, hA, h3⟩⟩
            · have HG : Hid (growOK ps ts (n + 1) p = false) := by show _ = _; rw [hG.out, decide_eq_false hM0]
              go_wp2_with fail
              go_ret
              exact ⟨by rw [HG.out]; rfl, HF.out.1, HF.out.2.1, HF.out.2.2.1, fun h => by rw [HG.out] at h; cases h⟩


end Go.Proofs.YtpffpofdceppiaaGreatDoor
