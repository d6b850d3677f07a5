/- A part of the proof that laganlaw01.CargoTexts answers true at every input and leaves its arguments as they were; the conditions are those of the given row and card, nothing else. -/
import Derived.Test.YtpffpofdceppiaaGreatDoorKV2
import Derived.Test.YtpffpofdceppiaaGreatDoorKW5
set_option linter.unusedSimpArgs false
set_option linter.unusedVariables false
namespace Go.Proofs.YtpffpofdceppiaaGreatDoor
open Go.RowKit Go.Shelf

theorem ids1_pred (n : Int) (B : Nat) (w : World) (hB : B < w.heap.size) (hc : w.cell? ⟨B, 0, none⟩ = some (.int .i64 n)) :
    PredB 177 #[.pointer (some ⟨B, 0, none⟩)] (fun y => y.id == n) w := fun W y hb => by
  have c0 : W.cell? ⟨B, 0, none⟩ = some (.int .i64 n) := (hb.cell (p := ⟨B, 0, none⟩) hB).trans hc
  have hBW : B < W.heap.size := Nat.lt_of_lt_of_le hB hb.size
  have hne : B ≠ W.heap.size := by omega
  show Calls Tryz.prog 177 #[.agg #[.int .i64 y.id, .int .i64 y.known, .int .u8 y.kind, .int .i64 y.loss, .int .i64 y.pack, .int .i64 y.inn, .string y.mark, .string y.goods, .int .i64 y.lo, .int .i64 y.hi, .int .i64 y.pieces, .int .i64 y.owner, .int .i64 y.count, .int .i64 y.of], .pointer (some ⟨B, 0, none⟩)] W _
  clear hc hb
  go_enter Tryz.func177, Tryz.ntmps177
  go_wp2
  go_ret
  exact ⟨rfl, (Below.refl _ _).alloc (Nat.le_refl _) _⟩

def inMan (m : Man) (x : Paper) : Bool := (m.papers ++ m.totals).any (fun y => y.id == x.id)
/-- The Ids of a manifest, as they stand in a file. -/
def idsP (m : Man) (l : List Paper) : List Int := (l.filter (inMan m)).map (·.id)

theorem idsP_len (m : Man) (l : List Paper) : (idsP m l).length ≤ l.length := by
  unfold idsP
  rw [List.length_map]
  exact List.length_filter_le _ _

set_option maxRecDepth 100000 in
set_option maxHeartbeats 8000000 in
theorem ids_any (vp vt v : Value) (m : Man) (l : List Paper) (w : World) (hp : PapersAt w vp m.papers) (ht : PapersAt w vt m.totals) (hv : PapersAt w v l) (hn1 : m.papers.length ≤ 201) (hn2 : m.totals.length ≤ 201) (hn : l.length ≤ 1000) :
    Calls Tryz.prog 119 #[.agg #[vp, vt], v] w fun e w' => ∃ v', e = .returned v' ∧ Own3 w.heap.size w' v' (idsP m l) ∧ Below w.heap.size w w' := by
  have hsp := Src.of hp
  have hst := Src.of ht
  obtain ⟨a1, d1, rfl, _⟩ := hp
  obtain ⟨a2, d2, rfl, _⟩ := ht
  obtain ⟨i0, hi, hz0, hz1, hz2⟩ := info_parts Tryz.info3
  have hB0 : Below w.heap.size w ((w.alloc (.cells #[.slice a1 m.papers.length d1, .slice a2 m.totals.length d2] 100)).alloc (.cells #[.slice a1 m.papers.length d1, .slice a2 m.totals.length d2] 30)) := ((Below.refl _ w).alloc (Nat.le_refl _) _).alloc (by simp) _
  have hs0 : ((w.alloc (.cells #[.slice a1 m.papers.length d1, .slice a2 m.totals.length d2] 100)).alloc (.cells #[.slice a1 m.papers.length d1, .slice a2 m.totals.length d2] 30)).heap.size = w.heap.size + 1 + 1 := by simp
  have hCon := Lib.hid (Concat_any (w.heap.size + 1) _ _ m.papers m.totals ((w.alloc (.cells #[.slice a1 m.papers.length d1, .slice a2 m.totals.length d2] 100)).alloc (.cells #[.slice a1 m.papers.length d1, .slice a2 m.totals.length d2] 30)) (by omega) (by go_simp) (by go_simp) (hsp.below hB0) (hst.below hB0) (by omega) (by omega))
  obtain ⟨a, c, rfl, h1, h2, h3⟩ := hv
  have H3 := Lib.hid h3
  clear h3 hsp hst
  go_enter Tryz.func119, Tryz.ntmps119
  go_wp2_with fail
  generalize ((w.alloc (.cells #[.slice a1 m.papers.length d1, .slice a2 m.totals.length d2] 100)).alloc (.cells #[.slice a1 m.papers.length d1, .slice a2 m.totals.length d2] 30)) = W0 at *
  refine hCon.out.mono ?_
  rintro e W2 ⟨v6, rfl, ho6, hb6⟩
  have hB2 := hB0.trans (hb6.mono hB0.size)
  have hz6 := hb6.size
  have HA := Lib.hid (Rows.of_owns vals_len ho6)
  have hal : (m.papers ++ m.totals).length ≤ 1000 := by rw [List.length_append]; omega
  obtain ⟨p6, n6, d6, rfl⟩ := own_shape ho6
  clear ho6 hCon
  go_wp2_with fail
  go_loopw [5, 17] (fun v i wr => ∃ k : Nat, k ≤ l.length ∧ i = .int .i64 k ∧ Own3 W2.heap.size wr v (idsP m (l.take k)) ∧ Below W2.heap.size W2 wr) (fun _ i _ => l.length - (intOf i).toNat)
  case atStart => exact ⟨0, Nat.zero_le _, rfl, World.ownsRow_nil _ _ _ _, Below.refl _ _⟩
  case round =>
    obtain ⟨k, hk, rfl, hown, hb⟩ := hrel
    by_cases hlt : k < l.length
    · obtain ⟨b, off, rfl, hbs, hcell⟩ := H3.out (by omega)
      have hT : Hid (idsP m (l.take (k + 1)) = idsP m (l.take k) ++ if inMan m l[k] then [l[k].id] else []) := by
        show _ = _
        unfold idsP
        rw [List.take_succ_eq_append_getElem hlt, List.filter_append, List.map_append]
        congr 1
        cases h : inMan m l[k] <;> simp [h]
      have hll : (idsP m (l.take k)).length ≤ 1000 := Nat.le_trans (idsP_len _ _) (by rw [List.length_take]; omega)
      obtain ⟨c0, c1, c2, c3, c4, c5, c6, c7, c8, c9, c10, c11, c12, c13⟩ := paper_cells (w := wr) (b := b) (o := off + k * 14) l[k] (fun i u hu => ((hB2.trans (hb.mono (by omega))).cell (p := ⟨b, off + k * 14 + i, none⟩) hbs).trans (hcell k hlt i u hu))
      clear hcell
      have hLf : Hid (inMan m l[k] = decide (0 ≤ hav (fun y : Paper => y.id == l[k].id) (m.papers ++ m.totals))) := by show _ = _; rw [hav_nonneg]; rfl
      have hHv := fun W (h : Below W2.heap.size W2 W) (lb : Array Value) (hpp : PredB 177 lb (fun y => y.id == l[k].id) W) => having_any _ (m.papers ++ m.totals) (fun y => y.id == l[k].id) 177 lb W (HA.out.below h) hal (enters_of Tryz.func177 (by kernel_rfl) rfl) hpp
      generalize l[k] = x at *
      generalize hav (fun y : Paper => y.id == x.id) (m.papers ++ m.totals) = q at *
      have HHv := Lib.hid hHv
      clear hHv
      generalize idsP m (l.take k) = ls at *
      have hsz := hb.size
      have HO := Lib.hid hown
      have HB := Lib.hid hb
      clear hown hb
      have hBx : Below W2.heap.size W2 (wr.alloc (.cells #[.int .i64 x.id, .int .i64 x.known, .int .u8 x.kind, .int .i64 x.loss, .int .i64 x.pack, .int .i64 x.inn, .string x.mark, .string x.goods, .int .i64 x.lo, .int .i64 x.hi, .int .i64 x.pieces, .int .i64 x.owner, .int .i64 x.count, .int .i64 x.of] 28)) := HB.out.alloc HB.out.size _
      have hBr : Below wr.heap.size wr (wr.alloc (.cells #[.int .i64 x.id, .int .i64 x.known, .int .u8 x.kind, .int .i64 x.loss, .int .i64 x.pack, .int .i64 x.inn, .string x.mark, .string x.goods, .int .i64 x.lo, .int .i64 x.hi, .int .i64 x.pieces, .int .i64 x.owner, .int .i64 x.count, .int .i64 x.of] 28)) := (Below.refl _ wr).alloc (Nat.le_refl _) _
      have hzx : (wr.alloc (.cells #[.int .i64 x.id, .int .i64 x.known, .int .u8 x.kind, .int .i64 x.loss, .int .i64 x.pack, .int .i64 x.inn, .string x.mark, .string x.goods, .int .i64 x.lo, .int .i64 x.hi, .int .i64 x.pieces, .int .i64 x.owner, .int .i64 x.count, .int .i64 x.of] 28)).heap.size = wr.heap.size + 1 := by simp
      have y0 : (wr.alloc (.cells #[.int .i64 x.id, .int .i64 x.known, .int .u8 x.kind, .int .i64 x.loss, .int .i64 x.pack, .int .i64 x.inn, .string x.mark, .string x.goods, .int .i64 x.lo, .int .i64 x.hi, .int .i64 x.pieces, .int .i64 x.owner, .int .i64 x.count, .int .i64 x.of] 28)).cell? ⟨wr.heap.size, 0, none⟩ = some (.int .i64 x.id) := by go_simp
      have HPr := Lib.hid (ids1_pred x.id wr.heap.size (wr.alloc (.cells #[.int .i64 x.id, .int .i64 x.known, .int .u8 x.kind, .int .i64 x.loss, .int .i64 x.pack, .int .i64 x.inn, .string x.mark, .string x.goods, .int .i64 x.lo, .int .i64 x.hi, .int .i64 x.pieces, .int .i64 x.owner, .int .i64 x.count, .int .i64 x.of] 28)) (by omega) y0)
      have hmf : ∀ (fn : Fn) (first cap : Array Value) (w : World), (Instr.makeFunc fn first cap).run Tryz.prog w = .ok (.func fn first cap) w := fun _ _ _ _ => rfl
      go_wp2_with fail
      refine (HHv.out _ hBx _ HPr.out).mono ?_
      rintro e w5 ⟨rfl, hb5⟩
      have hB5 := hBx.trans (hb5.mono hBx.size)
      have hBr5 := hBr.trans (hb5.mono hBr.size)
      have hz5 := hb5.size
      have u0 := (hb5.cell (p := ⟨wr.heap.size, 0, none⟩) (by simp)).trans y0
      have HO5 := Lib.hid (ownsRow_below HO.out hBr5)
      clear y0 hb5 hBr hBx HPr c0 c1 c2 c3 c4 c5 c6 c7 c8 c9 c10 c11 c12 c13
      by_cases g : 0 ≤ q
      · have hyes : idsP m (l.take (k + 1)) = ls ++ [x.id] := by rw [hT.out, hLf.out, decide_eq_true g]; rfl
        have HY := Lib.hid hyes
        have HHX : Hid (∀ u ∈ [Value.int .i64 x.id], u.oneCell' = true) := by show ∀ u ∈ _, _; simp [Value.oneCell']
        clear hyes
        go_wp2_with (at_builtin; go_must (refine wpList_append_own _ rfl _ _ 45 rfl W2.heap.size 3 i0 _ 1 8 Tryz.underlying45 hi hz0 hz1 hz2 rfl (by decide) _ ls.length (ls.flatMap encI) rfl (HO5.out.alloc _) ⟨w5.heap.size, 0, none⟩ 1 1 [.int .i64 x.id] rfl rfl (by intro j u hu; rw [Addr.add_lit, Nat.zero_add]; cases j with | zero => (simp only [List.getElem?_cons_zero, Option.some.injEq] at hu; subst hu; go_simp) | succ j => (simp at hu)) HHX.out (by unfold maxLen; omega) (by omega) (by simp; omega) ?_; intro v9 w9 hown9 hg9 hnil9; have HO9 := Lib.hid hown9; have HG9 := Lib.hid hg9; clear hown9 hg9 hnil9))
        go_roundw
        case rel =>
          refine ⟨k + 1, by omega, by go_num, ?_, ?_⟩
          · unfold Own3; rw [HY.out, List.flatMap_append, List.length_append]; exact HO9.out
          · exact (hB5.alloc (by omega) _).grown HG9.out (by simp; omega) (fun k hk => (HO5.out.lt k hk).1)
        case measure => simp [intOf]; omega
      · have hno : idsP m (l.take (k + 1)) = ls := by rw [hT.out, hLf.out, decide_eq_false g]; simp
        have HN := Lib.hid hno
        clear hno
        go_wp2_with fail
        go_roundw
        case rel => exact ⟨k + 1, by omega, by go_num, by unfold Own3; rw [HN.out]; exact HO5.out, hB5⟩
        case measure => simp [intOf]; omega
    · obtain rfl : k = l.length := by omega
      rw [List.take_of_length_le (Nat.le_refl _)] at hown
      have hsz := hb.size
      have hBB := hB2.trans (hb.mono (by omega))
      have HOW : Own3 w.heap.size wr _ (idsP m l) := owns_mono hown (by omega)
      have HX := Lib.hid HOW
      clear hown HOW
      go_wp2_with fail
      go_ret
      exact ⟨_, rfl, HX.out, hBB⟩

end Go.Proofs.YtpffpofdceppiaaGreatDoor
