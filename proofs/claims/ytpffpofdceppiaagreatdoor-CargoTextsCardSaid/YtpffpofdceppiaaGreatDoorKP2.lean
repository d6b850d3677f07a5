/- A part of the proof that laganlaw01.CargoTexts answers true at every input and leaves its arguments as they were; the conditions are those of the given row and card, nothing else. -/
import Derived.Test.YtpffpofdceppiaaGreatDoorKS1
import Derived.Test.YtpffpofdceppiaaGreatDoorKA8
import Derived.Test.YtpffpofdceppiaaGreatDoorKH3
import Derived.Test.YtpffpofdceppiaaGreatDoorKH2
import Derived.Lib.ItoaLen
import Derived.Lib.LaidTab
import Derived.WalkSmall
import Derived.Deep.RegionHeld3
set_option linter.unusedSimpArgs false
set_option linter.unusedVariables false
namespace Go.Proofs.YtpffpofdceppiaaGreatDoor
open Go.RowKit Go.Shelf

/-- How many signs of a mark are read. -/
def signsP (m : ByteArray) : Int := if isMark m then (m.size : Int) - (Lib.countByte m.data.toList 63 : Int) else 0

theorem count_le (m : ByteArray) : Lib.countByte m.data.toList 63 ≤ m.size := by
  unfold Lib.countByte
  exact List.count_le_length

theorem isMark_size (m : ByteArray) (h : isMark m = true) : m.size ≤ 12 := by
  unfold isMark at h
  rw [Bool.and_eq_true] at h
  have := h.2
  unfold within at this
  rw [Bool.and_eq_true] at this
  have := this.2
  simp at this
  omega

set_option maxHeartbeats 1000000 in
theorem Signs_any (m : ByteArray) (w : World) (hm : m.size ≤ maxLen) :
    Calls Tryz.prog 21 #[.string m] w fun e w' => e = .returned (.int .i64 (signsP m)) ∧ w = w' := by
  have H1 := Lib.hid (fun W => isMark_any m W hm)
  have HS : Hid (signsP m = if isMark m then (m.size : Int) - (Lib.countByte m.data.toList 63 : Int) else 0) := by show _ = _; rfl
  have hz := Lib.hid (isMark_size m)
  have hc := count_le m
  generalize isMark m = q at *
  cases q
  · have HR : Hid (signsP m = 0) := by show _ = _; rw [HS.out]; rfl
    go_enter Tryz.func21, Tryz.ntmps21
    go_wp2_with (go_at_call 76; refine (H1.out _).mono ?_; rintro e w' ⟨rfl, rfl⟩)
    go_ret
    exact ⟨by rw [HR.out]; rfl, rfl⟩
  · have HR : Hid (signsP m = (m.size : Int) - (Lib.countByte m.data.toList 63 : Int)) := by show _ = _; rw [HS.out]; rfl
    have h12 := hz.out rfl
    have HC := Lib.hid (fun W => Tryz.strings_Count_one m 63 W)
    generalize Lib.countByte m.data.toList 63 = k at *
    go_enter Tryz.func21, Tryz.ntmps21
    go_wp2_with fail
    refine (H1.out _).mono ?_
    rintro e w' ⟨rfl, rfl⟩
    go_wp2_with fail
    refine (HC.out _).mono ?_
    rintro e w' ⟨rfl, rfl⟩
    go_wp2_with fail
    go_ret
    exact ⟨by rw [HR.out]; rfl, rfl⟩

/-- What the program's own variables hold. -/
structure Gl (w : World) : Prop where
  tab : Lib.TabIs Tryz.prog w "internal/strconv.uint64pow10" .u64 Lib.pow10Tab
  len : ∃ m, w.cell? ⟨0, 0, none⟩ = some (.int .i64 m)
  syn : ∃ tp p, w.var? Tryz.prog "strconv.ErrSyntax" = some #[.iface tp p]
  rng : ∃ tp p, w.var? Tryz.prog "strconv.ErrRange" = some #[.iface tp p]

theorem var_some {w : World} {n : String} {cs : Array Value} (hv : w.var? Tryz.prog n = some cs) : ∃ g, Tryz.prog.globalNamed n = some g ∧ g < w.heap.size := by
  unfold World.var? at hv
  cases hg : Tryz.prog.globalNamed n with
  | none => rw [hg] at hv; cases hv
  | some g =>
    rw [hg, Option.bind_some] at hv
    refine ⟨g, rfl, ?_⟩
    rcases Nat.lt_or_ge g w.heap.size with h' | h'
    · exact h'
    · simp [Array.getElem?_eq_none h'] at hv

theorem var_below {w w' : World} {n : String} {cs : Array Value} (hb : Below w.heap.size w w') (hv : w.var? Tryz.prog n = some cs) : w'.var? Tryz.prog n = some cs := by
  obtain ⟨g, hg, hlt⟩ := var_some hv
  exact var?_below hb hg hlt hv

theorem Gl.below {w w' : World} (h : Gl w) (hb : Below w.heap.size w w') : Gl w' := by
  obtain ⟨h1, ⟨m, h2⟩, ⟨t3, p3, h3⟩, ⟨t4, p4, h4⟩⟩ := h
  refine ⟨var_below hb h1, ⟨m, ?_⟩, ⟨t3, p3, var_below hb h3⟩, ⟨t4, p4, var_below hb h4⟩⟩
  exact (hb.cell (p := ⟨0, 0, none⟩) (cell_lt h2)).trans h2

theorem below_grow1 (w : World) (os : Array Obj) : Below w.heap.size w (Sort.grow w os) := ⟨rfl, rfl, rfl, by simp [Sort.grow], fun k hk => by simp only [Sort.grow]; rw [Array.getElem?_append_left hk]⟩

theorem Itoa_any (n : Int) (w : World) (h0 : -1000000000 ≤ n) (h1 : n ≤ 1000000000) (hG : Gl w) :
    Calls Tryz.prog 81 #[.int .i64 n] w fun e w' => e = .returned (.string ⟨(Lib.itoa n).toArray⟩) ∧ Below w.heap.size w w' := by
  refine (Tryz.strconv_Itoa n (by omega) (by omega) w hG.tab).mono ?_
  rintro e w' ⟨rfl, k, os, rfl⟩
  exact ⟨rfl, (below_drewN (Below.refl _ w) k).trans (below_grow1 (w.drewN k) os)⟩

def strOf (n : Int) : ByteArray := ⟨(Lib.itoa n).toArray⟩
/-- Numbers, a blank between. -/
def rowS (l : List Int) : List UInt8 := Lib.join (l.map Lib.itoa) [32]

theorem strOf_data (n : Int) : (strOf n).data.toList = Lib.itoa n := by simp [strOf]

def encS (n : Int) : List Value := [.string (strOf n)]

theorem join_len (l : List Int) (hl : l.length ≤ 100) (hb : ∀ n ∈ l, -1000000000 ≤ n ∧ n ≤ 1000000000) : (rowS l).length ≤ 5000 := by
  have hlens : ∀ l : List Int, (∀ n ∈ l, -1000000000 ≤ n ∧ n ≤ 1000000000) → Lib.lens (l.map Lib.itoa) ≤ 21 * l.length := fun l => by
    induction l with
    | nil => intro _; simp [Lib.lens]
    | cons n l ih =>
      intro hb
      have h1 := ih (fun m hm => hb m (List.mem_cons_of_mem _ hm))
      have h2 := hb n (List.mem_cons_self)
      have h3 := Lib.itoa_length_le n (by omega) (by omega)
      simp only [Lib.lens, List.map_cons, List.sum_cons, List.length_cons] at h1 ⊢
      omega
  unfold rowS
  cases l with
  | nil => simp [Lib.join_nil]
  | cons n l =>
    have h1 := hlens l (fun m hm => hb m (List.mem_cons_of_mem _ hm))
    have h2 := hb n (List.mem_cons_self)
    have h3 := Lib.itoa_length_le n (by omega) (by omega)
    rw [List.map_cons, Lib.join_cons, List.length_append, Lib.joinTail_length]
    simp only [List.length_cons, List.length_nil, List.length_map] at hl ⊢
    omega

theorem ownsRow_later {w w' : World} {base : Nat} {e : TypeId} {size : Nat} {v : Value} {n : Nat} {xs : List Value} (h : w.ownsRow base e size v n xs) (hb : Below w.heap.size w w') : w'.ownsRow base e size v n xs := by
  refine ⟨h.1, h.2.imp id ?_⟩
  rintro ⟨g, cap, cur, a1, a2, a3, a4⟩
  exact ⟨g, cap, cur, a1, a2, (hb.block _ (Array.getElem?_eq_some_iff.1 a3).1).trans a3, a4⟩

theorem Tryz.info9 : (Tryz.prog.info? 9).map (fun i => (i.zero, i.size, i.bytes)) = some (some (.string ⟨#[]⟩), 1, 16) := by kernel_rfl

set_option maxRecDepth 100000 in
set_option maxHeartbeats 4000000 in
theorem nrow_any (v : Value) (l : List Int) (w : World) (hv : Rows (fun i : Int => [Value.int .i64 i]) 1 w v l) (hl : l.length ≤ 100) (h0 : 0 < l.length) (hb : ∀ n ∈ l, -1000000000 ≤ n ∧ n ≤ 1000000000) (hG : Gl w) :
    Calls Tryz.prog 80 #[v] w fun e w' => e = .returned (.string ⟨(rowS l).toArray⟩) ∧ Below w.heap.size w w' := by
  obtain ⟨a, c, rfl, h1, h2, h3⟩ := hv
  obtain ⟨i0, hi, hz0, hz1, hz2⟩ := info_parts Tryz.info9
  obtain ⟨b, off, rfl, hbs, hcell⟩ := h3 (by omega)
  have H3 := Lib.hid hcell
  have HB := Lib.hid hb
  have HJ := Lib.hid (join_len l hl hb)
  clear h3 hcell hb
  go_enter Tryz.func80, Tryz.ntmps80
  go_wp2_with fail
  go_loopw [3, 8] (fun v i wr => ∃ k : Nat, k ≤ l.length ∧ i = .int .i64 k ∧ wr.ownsRow w.heap.size 9 1 v k ((l.take k).flatMap encS) ∧ Below w.heap.size w wr) (fun _ i _ => l.length - (intOf i).toNat)
  case atStart => exact ⟨0, Nat.zero_le _, rfl, World.ownsRow_nil _ _ _ _, Below.refl _ w⟩
  case round =>
    obtain ⟨k, hk, rfl, hown, hbl⟩ := hrel
    by_cases hlt : k < l.length
    · have c1 : wr.cell? ⟨b, off + k, none⟩ = some (.int .i64 l[k]) := by
        have := H3.out k hlt 0 (.int .i64 l[k]) rfl
        rw [Nat.mul_one, Nat.add_zero] at this
        exact (hbl.cell (p := ⟨b, off + k, none⟩) hbs).trans this
      have hT : Hid ((l.take (k + 1)).flatMap encS = (l.take k).flatMap encS ++ [.string (strOf l[k])]) := by
        show _ = _
        rw [List.take_succ_eq_append_getElem hlt, List.flatMap_append]; simp [encS]
      have hbk := HB.out l[k] (List.getElem_mem _)
      generalize l[k] = x at *
      have hGr := hG.below hbl
      have hI := Lib.hid (Itoa_any x wr hbk.1 hbk.2 hGr)
      have HO := Lib.hid hown
      have hsz := hbl.size
      clear hown hbk hGr
      go_wp2_with fail
      refine hI.out.mono ?_
      rintro e w2 ⟨rfl, hb2⟩
      have hs2 := hb2.size
      have HO2 := Lib.hid (ownsRow_later HO.out hb2)
      have hsx : Hid ((⟨(Lib.itoa x).toArray⟩ : ByteArray) = strOf x) := by show _ = _; rfl
      rw [hsx.out]
      generalize strOf x = sx at *
      have hHX : Hid (∀ u ∈ [Value.string sx], u.oneCell' = true) := by show ∀ u ∈ _, _; simp [Value.oneCell']
      go_wp2_with (at_builtin; go_must (refine wpList_append_own _ rfl _ _ 85 rfl w.heap.size 9 i0 _ 1 16 Tryz.underlying85 hi hz0 hz1 hz2 rfl (by decide) _ k ((l.take k).flatMap encS) rfl (HO2.out.alloc _) ⟨w2.heap.size, 0, none⟩ 1 1 [.string sx] rfl rfl (by intro j u hu; rw [Addr.add_lit, Nat.zero_add]; cases j with | zero => (simp only [List.getElem?_cons_zero, Option.some.injEq] at hu; subst hu; go_simp) | succ j => (simp at hu)) hHX.out (by unfold maxLen; omega) (by omega) (by simp; omega) ?_; intro v9 w9 hown9 hg9 hnil9; have HO9 := Lib.hid hown9; have HG9 := Lib.hid hg9; clear hown9 hg9 hnil9))
      go_roundw
      case rel =>
        refine ⟨k + 1, by omega, by go_num, ?_, ?_⟩
        · rw [hT.out]; exact HO9.out
        · exact ((hbl.trans (hb2.mono hsz)).alloc (by omega) _).grown HG9.out (by simp; omega) (fun k hk => (HO2.out.lt k hk).1)
      case measure => simp [intOf]; omega
    · obtain rfl : k = l.length := by omega
      rw [List.take_of_length_le (Nat.le_refl _)] at hown
      obtain ⟨a2, c2, rfl, g1, g2, g3⟩ := Rows.of_owns (enc := encS) (k := 1) (fun _ => rfl) hown
      obtain ⟨b2, off2, rfl, g4, g5⟩ := g3 (by omega)
      have hJ := Tryz.strings_Join b2 off2 c2 (l.map strOf) ⟨#[32]⟩ wr (fun j x hx => by
        rw [List.getElem?_map] at hx
        obtain ⟨y, hy, rfl⟩ := Option.map_eq_some_iff.1 hx
        obtain ⟨hj, rfl⟩ := List.getElem?_eq_some_iff.1 hy
        have := g5 j hj 0 _ rfl
        rw [Nat.mul_one, Nat.add_zero] at this
        exact this) g4 (by rw [List.length_map]; omega) (by rw [List.length_map]; exact g1) (by
        have : (l.map strOf).map (·.data.toList) = l.map Lib.itoa := by rw [List.map_map]; exact List.map_congr_left (fun n _ => strOf_data n)
        rw [this]
        have := HJ.out
        unfold rowS at this
        show (Lib.join (l.map Lib.itoa) [32]).length ≤ _
        omega)
      have e1 : (l.map strOf).map (·.data.toList) = l.map Lib.itoa := by rw [List.map_map]; exact List.map_congr_left (fun n _ => strOf_data n)
      rw [List.length_map, e1] at hJ
      have hJ : Calls Tryz.prog 82 #[.slice (some ⟨b2, off2, none⟩) l.length c2, .string ⟨#[32]⟩] wr fun e w' => e = .returned (.string ⟨(rowS l).toArray⟩) ∧ Below wr.heap.size wr w' := hJ
      have HJ2 := Lib.hid hJ
      have hsz := hbl.size
      clear hJ g5 g3 hown e1
      go_wp2_with fail
      refine HJ2.out.mono ?_
      rintro e w9 ⟨rfl, hb9⟩
      go_wp2_with fail
      go_ret
      exact ⟨rfl, hbl.trans (hb9.mono hsz)⟩

end Go.Proofs.YtpffpofdceppiaaGreatDoor
