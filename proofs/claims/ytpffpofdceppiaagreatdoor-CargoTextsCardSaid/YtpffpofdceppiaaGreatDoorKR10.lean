/- A part of the proof that laganlaw01.CargoTexts answers true at every input and leaves its arguments as they were; the conditions are those of the given row and card, nothing else. -/
import Derived.Test.YtpffpofdceppiaaGreatDoorKL5
import Derived.Test.YtpffpofdceppiaaGreatDoorKR3
import Derived.Test.YtpffpofdceppiaaGreatDoorKW5
import Derived.Deep.CutRange
import Derived.StillTailTactics
set_option linter.unusedSimpArgs false
set_option linter.unusedVariables false
namespace Go.Proofs.YtpffpofdceppiaaGreatDoor
open Go.RowKit Go.Shelf

/-- A word, and behind it numbers. -/
def rowI (word : ByteArray) (l : List Int) : ByteArray := rowB word (l.map Int.toNat)
theorem rowI_size (word : ByteArray) (l : List Int) (h : ∀ n ∈ l, 0 ≤ n ∧ n ≤ 1000000000) : (rowI word l).size ≤ word.size + 22 * l.length := by
  have := rowB_size word (l.map Int.toNat) (fun n hn => by obtain ⟨m, hm, rfl⟩ := List.mem_map.1 hn; have := h m hm; omega)
  rwa [List.length_map] at this
theorem RowI_any (word : ByteArray) (l : List Int) (v : Value) (w : World) (hv : IntsAt w v l) (hw : word.size ≤ 100000) (hl : l.length ≤ 1000) (hb : ∀ n ∈ l, 0 ≤ n ∧ n ≤ 1000000000) :
    Calls Tryz.prog 85 #[.string word, v] w fun e w' => e = .returned (.string (rowI word l)) ∧ Below w.heap.size w w' := by
  have e : (l.map Int.toNat).map Int.ofNat = l := by
    rw [List.map_map]
    conv => rhs; rw [← List.map_id l]
    exact List.map_congr_left fun n hn => by have := (hb n hn).1; show Int.ofNat n.toNat = n; simp; omega
  exact RowR_any word (l.map Int.toNat) v w (by rw [e]; exact hv) hw (by rw [List.length_map]; exact hl) (fun n hn => by obtain ⟨m, hm, rfl⟩ := List.mem_map.1 hn; have := hb m hm; omega)

theorem rowB_data (word : ByteArray) (l : List Nat) : (rowB word l).data.toList = word.data.toList ++ (l.map fun n => 32 :: Lib.decDigits n).flatten := by
  induction l generalizing word with
  | nil => simp [rowB]
  | cons n l ih =>
    show (rowB (word ++ ⟨#[32]⟩ ++ digB n) l).data.toList = _
    rw [ih]
    simp [ByteArray.data_append, digB]
theorem rowI_data (word : ByteArray) (l : List Int) (h : ∀ n ∈ l, 0 ≤ n) : (rowI word l).data.toList = word.data.toList ++ (l.map fun n => 32 :: Lib.itoa n).flatten := by
  unfold rowI
  rw [rowB_data, List.map_map]
  congr 2
  exact List.map_congr_left fun n hn => by rw [itoa_nn (h n hn)]; rfl

def idB (x : Paper) : ByteArray := rowI (digB x.id.toNat) [x.known]
/-- The line of a paper, as the reference writes it. -/
def writeRB (x : Paper) : ByteArray :=
  if x.kind = 3 then rowI (idB x ++ ⟨#[32, 118, 111, 105, 100]⟩) [x.of]
  else if x.kind = 2 then rowI (idB x ++ ⟨#[32, 116, 111, 116, 97, 108]⟩) [x.loss, x.pack, x.count, x.lo, x.hi]
  else rowI (rowI (idB x ++ ⟨#[32, 112, 97, 99, 107, 97, 103, 101]⟩) [x.loss, x.pack, x.inn] ++ ⟨#[32]⟩ ++ x.mark ++ ⟨#[32]⟩ ++ x.goods) [x.lo, x.hi, x.pieces, x.owner]

theorem writeRB_eq (x : Paper) (h : formed x = true) : writeRB x = writeB x := by
  have hi := formed_ids x h
  have hb := formed_bounds x h
  apply ByteArray.ext
  apply Array.toList_inj.1
  rw [writeB_words]
  have hid : (idB x).data.toList = Lib.itoa x.id ++ 32 :: Lib.itoa x.known := by
    unfold idB
    rw [rowI_data _ _ (by intro n hn; simp at hn; omega), itoa_nn (n := x.id) (by omega)]
    simp [digB]
  have hk3 : (⟨#[32, 118, 111, 105, 100]⟩ : ByteArray).data.toList = 32 :: vvB.data.toList := rfl
  have hk2 : (⟨#[32, 116, 111, 116, 97, 108]⟩ : ByteArray).data.toList = 32 :: ttB.data.toList := rfl
  have hk1 : (⟨#[32, 112, 97, 99, 107, 97, 103, 101]⟩ : ByteArray).data.toList = 32 :: pkB.data.toList := rfl
  have h32 : (⟨#[32]⟩ : ByteArray).data.toList = [32] := rfl
  unfold writeRB wsP
  rcases hi.2.2.2.2 with hk | hk | hk
  · rw [if_neg (by omega), if_neg (by omega), if_pos hk, rowI_data _ _ (by intro n hn; simp at hn; omega)]
    simp only [ByteArray.data_append, Array.toList_append]
    rw [rowI_data _ _ (by intro n hn; simp at hn; omega)]
    simp only [ByteArray.data_append, Array.toList_append, hid, hk1, h32]
    simp [join_two, Lib.join_one]
    rfl
  · rw [if_neg (by omega), if_pos hk, if_neg (by omega), if_pos hk, rowI_data _ _ (by intro n hn; simp at hn; omega)]
    simp only [ByteArray.data_append, Array.toList_append, hid, hk2]
    simp [join_two, Lib.join_one]
    rfl
  · rw [if_pos hk, if_neg (by omega), if_neg (by omega), rowI_data _ _ (by intro n hn; simp at hn; omega)]
    simp only [ByteArray.data_append, Array.toList_append, hid, hk3]
    simp [join_two, Lib.join_one]
    rfl

theorem row_built (word : ByteArray) (ns : List Int) (b : Nat) (W : World) (hw : word.size ≤ 100000) (hl : ns.length ≤ 1000) (hn : ∀ n ∈ ns, 0 ≤ n ∧ n ≤ 1000000000) (hb : b < W.heap.size) (hc : ∀ j (h : j < ns.length), W.cell? ⟨b, j, none⟩ = some (.int .i64 ns[j])) :
    Calls Tryz.prog 85 #[.string word, .slice (some ⟨b, 0, none⟩) ns.length ns.length] W fun e w' => e = .returned (.string (rowI word ns)) ∧ Below W.heap.size W w' := by
  refine RowI_any word ns _ W ⟨_, _, rfl, Nat.le_refl _, by unfold maxLen; omega, fun _ => ⟨b, 0, rfl, hb, fun j hj i u hu => ?_⟩⟩ hw hl hn
  cases i with
  | succ i => simp [encI] at hu
  | zero =>
    simp only [encI, List.getElem?_cons_zero, Option.some.injEq] at hu
    subst hu
    rw [Nat.zero_add, Nat.mul_one, Nat.add_zero]
    exact hc j hj

theorem row1 (word : ByteArray) (b : Nat) (n0 : Int) (W : World) (hw : word.size ≤ 100000) (hn : ∀ n ∈ [n0], 0 ≤ n ∧ n ≤ 1000000000) (hb : b < W.heap.size) (h0 : W.cell? ⟨b, 0, none⟩ = some (.int .i64 n0)) :
    Calls Tryz.prog 85 #[.string word, .slice (some ⟨b, 0, none⟩) 1 1] W fun e w' => e = .returned (.string (rowI word [n0])) ∧ Below W.heap.size W w' :=
  row_built word [n0] b W hw (by simp) hn hb fun j hj => match j, hj with | 0, _ => h0
theorem row5 (word : ByteArray) (b : Nat) (n0 n1 n2 n3 n4 : Int) (W : World) (hw : word.size ≤ 100000) (hn : ∀ n ∈ [n0, n1, n2, n3, n4], 0 ≤ n ∧ n ≤ 1000000000) (hb : b < W.heap.size) (h0 : W.cell? ⟨b, 0, none⟩ = some (.int .i64 n0)) (h1 : W.cell? ⟨b, 1, none⟩ = some (.int .i64 n1)) (h2 : W.cell? ⟨b, 2, none⟩ = some (.int .i64 n2)) (h3 : W.cell? ⟨b, 3, none⟩ = some (.int .i64 n3)) (h4 : W.cell? ⟨b, 4, none⟩ = some (.int .i64 n4)) :
    Calls Tryz.prog 85 #[.string word, .slice (some ⟨b, 0, none⟩) 5 5] W fun e w' => e = .returned (.string (rowI word [n0, n1, n2, n3, n4])) ∧ Below W.heap.size W w' :=
  row_built word [n0, n1, n2, n3, n4] b W hw (by simp) hn hb fun j hj => match j, hj with | 0, _ => h0 | 1, _ => h1 | 2, _ => h2 | 3, _ => h3 | 4, _ => h4
theorem rowSB (x : Paper) (w : World) (W : World) (hS : SX x w W) (wd : ByteArray) (b n : Nat) (B C W1 W2 : ByteArray) (hB : B = rowI W1 [x.loss, x.pack, x.inn]) (hC : C = rowI W2 [x.lo, x.hi, x.pieces, x.owner]) (z1 : W1.size ≤ 100000) (z2 : W2.size ≤ 100000)
    (iB : ∀ n ∈ [x.loss, x.pack, x.inn], 0 ≤ n ∧ n ≤ 1000000000) (iC : ∀ n ∈ [x.lo, x.hi, x.pieces, x.owner], 0 ≤ n ∧ n ≤ 1000000000)
    (h : (n = 3 ∧ wd = W1 ∧ b < W.heap.size ∧ W.cell? ⟨b, 0, none⟩ = some (.int .i64 x.loss) ∧ W.cell? ⟨b, 1, none⟩ = some (.int .i64 x.pack) ∧ W.cell? ⟨b, 2, none⟩ = some (.int .i64 x.inn)) ∨
      (n = 4 ∧ wd = W2 ∧ b < W.heap.size ∧ W.cell? ⟨b, 0, none⟩ = some (.int .i64 x.lo) ∧ W.cell? ⟨b, 1, none⟩ = some (.int .i64 x.hi) ∧ W.cell? ⟨b, 2, none⟩ = some (.int .i64 x.pieces) ∧ W.cell? ⟨b, 3, none⟩ = some (.int .i64 x.owner))) :
    Calls Tryz.prog 85 #[.string wd, .slice (some ⟨b, 0, none⟩) n n] W fun e w' => e = .returned (.string (if n = 3 then B else C)) ∧ Below W.heap.size W w' ∧ SX x w w' := by
  rcases h with ⟨rfl, rfl, h0, h1, h2, h3⟩ | ⟨rfl, rfl, h0, h1, h2, h3, h4⟩
  · rw [hB]
    exact (row_built _ [x.loss, x.pack, x.inn] b W z1 (by simp) iB h0 fun j hj => match j, hj with | 0, _ => h1 | 1, _ => h2 | 2, _ => h3).mono fun _ _ h => ⟨h.1, h.2, hS.keep h.2⟩
  · rw [hC]
    exact (row_built _ [x.lo, x.hi, x.pieces, x.owner] b W z2 (by simp) iC h0 fun j hj => match j, hj with | 0, _ => h1 | 1, _ => h2 | 2, _ => h3 | 3, _ => h4).mono fun _ _ h => ⟨h.1, h.2, hS.keep h.2⟩

abbrev SW (x : Paper) (w w1 W : World) : Prop := W.cell? ⟨w.heap.size, 0, none⟩ = some (.int .i64 x.id) ∧ W.cell? ⟨w.heap.size, 1, none⟩ = some (.int .i64 x.known) ∧ w.heap.size < W.heap.size ∧ Below w.heap.size w W ∧ Below w1.heap.size w1 W
theorem SW.keep {x : Paper} {w w1 W w' : World} (h : SW x w w1 W) (hb : Below W.heap.size W w') : SW x w w1 w' := by
  obtain ⟨q0, q1, qL, qB, qC⟩ := h
  exact ⟨keepS hb qL q0, keepS hb qL q1, keepL qL hb, keepB qB hb, keepB qC hb⟩
theorem SW.al {x : Paper} {w w1 W : World} (h : SW x w w1 W) (o : Obj) : SW x w w1 (W.alloc o) := h.keep ((Below.refl _ W).alloc (Nat.le_refl _) o)
theorem SW.drew {x : Paper} {w w1 W : World} (h : SW x w w1 W) : SW x w w1 W.drew := h.keep (Below.refl _ W).drew
theorem SW.al_drew {x : Paper} {w w1 W : World} (h : SW x w w1 W) (o : Obj) : SW x w w1 (W.alloc o).drew := (h.al o).drew
theorem digW (x : Paper) (w w1 W : World) (hS : SW x w w1 W) (G : ByteArray) (h : ∀ W, Calls Tryz.prog 86 #[.int .i64 x.id] W fun e w' => e = .returned (.string G) ∧ Below W.heap.size W w') :
    Calls Tryz.prog 86 #[.int .i64 x.id] W fun e w' => e = .returned (.string G) ∧ Below W.heap.size W w' ∧ SW x w w1 w' :=
  (h W).mono fun _ _ h => ⟨h.1, h.2, hS.keep h.2⟩
theorem rowW (x : Paper) (w w1 W : World) (hS : SW x w w1 W) (G H : ByteArray) (hH : H = rowI G [x.known]) (hG : G.size ≤ 100000) (hn : ∀ n ∈ [x.known], 0 ≤ n ∧ n ≤ 1000000000) (b : Nat) (hb : b < W.heap.size) (h0 : W.cell? ⟨b, 0, none⟩ = some (.int .i64 x.known)) :
    Calls Tryz.prog 85 #[.string G, .slice (some ⟨b, 0, none⟩) 1 1] W fun e w' => e = .returned (.string H) ∧ Below W.heap.size W w' ∧ SW x w w1 w' := by
  rw [hH]
  exact (row1 G b x.known W hG hn hb h0).mono fun _ _ h => ⟨h.1, h.2, hS.keep h.2⟩

set_option maxRecDepth 100000 in
set_option maxHeartbeats 8000000 in
theorem WriteR_any (x : Paper) (w : World) (hm : x.mark.size ≤ 10000) (hg : x.goods.size ≤ 10000) :
    Calls Tryz.prog 25 #[.agg x.vals.toArray] w fun e w' => e = .returned (.tuple #[.string (writeP x).1, .int .i64 (writeP x).2]) ∧ Below w.heap.size w w' := by
  have HF := Lib.hid (fun W => formedR_any x W (by unfold maxLen; omega) (by unfold maxLen; omega))
  have HID := Lib.hid (formed_ids x)
  have HP : Hid (writeP x = if formed x then (writeB x, 0) else (⟨#[]⟩, 1)) := by show _ = _; rfl
  have hFB := Lib.hid (formed_bounds x)
  have HWE := Lib.hid (writeRB_eq x)
  generalize formed x = fx at *
  show Calls Tryz.prog 25 #[.agg #[.int .i64 x.id, .int .i64 x.known, .int .u8 x.kind, .int .i64 x.loss, .int .i64 x.pack, .int .i64 x.inn, .string x.mark, .string x.goods, .int .i64 x.lo, .int .i64 x.hi, .int .i64 x.pieces, .int .i64 x.owner, .int .i64 x.count, .int .i64 x.of]] w _
  have HF : Hid (∀ W, Calls Tryz.prog 84 #[.agg #[.int .i64 x.id, .int .i64 x.known, .int .u8 x.kind, .int .i64 x.loss, .int .i64 x.pack, .int .i64 x.inn, .string x.mark, .string x.goods, .int .i64 x.lo, .int .i64 x.hi, .int .i64 x.pieces, .int .i64 x.owner, .int .i64 x.count, .int .i64 x.of]] W fun e w' => e = .returned (.bool fx) ∧ Below W.heap.size W w') := HF
  have hB0 : Below w.heap.size w (w.alloc (.cells #[.int .i64 x.id, .int .i64 x.known, .int .u8 x.kind, .int .i64 x.loss, .int .i64 x.pack, .int .i64 x.inn, .string x.mark, .string x.goods, .int .i64 x.lo, .int .i64 x.hi, .int .i64 x.pieces, .int .i64 x.owner, .int .i64 x.count, .int .i64 x.of] 28)) := (Below.refl _ w).alloc (Nat.le_refl _) _
  cases fx
  · have HR : Hid (writeP x = (⟨#[]⟩, 1)) := by show _ = _; rw [HP.out]; rfl
    clear HP HID
    go_enter Tryz.func25, Tryz.ntmps25
    go_wp2_with fail
    refine (HF.out _).mono ?_
    rintro e w1 ⟨rfl, hb1⟩
    go_wp2_with fail
    go_ret2
    exact ⟨by rw [HR.out]; rfl, hB0.trans (hb1.mono hB0.size)⟩
  · have HR : Hid (writeP x = (writeRB x, 0)) := by show _ = _; rw [HP.out, HWE.out rfl]; rfl
    obtain ⟨i1, i2, i3, i4, hk⟩ := HID.out rfl
    have hbd := hFB.out rfl
    clear HP HID hFB HWE
    go_enter Tryz.func25, Tryz.ntmps25
    go_wp2_with fail
    refine (HF.out _).mono ?_
    rintro e w1 ⟨rfl, hb1⟩
    go_wp2_with fail
    have hs1 := hb1.size
    rw [World.size_alloc] at hs1
    have hB1 := hB0.trans (hb1.mono hB0.size)
    obtain ⟨c0, c1, c2, c3, c4, c5, c6, c7, c8, c9, c10, c11, c12, c13⟩ := box_later x (show Below (w.alloc (boxOf x)).heap.size (w.alloc (boxOf x)) w1 from hb1)
    clear hb1 hB0
    have hs1' : w.heap.size < w1.heap.size := by omega
    obtain ⟨H, hH⟩ : ∃ H, H = idB x := ⟨_, rfl⟩
    have hidK : Hid (∀ n ∈ [x.known], 0 ≤ n ∧ n ≤ 1000000000) := by show ∀ n ∈ _, _; intro n hn; simp at hn; subst hn; omega
    have hdz := digB_size (n := x.id.toNat) (by omega)
    have hHz : H.size ≤ 100 := by rw [hH]; unfold idB; have := rowI_size (digB x.id.toNat) [x.known] hidK.out; simp at this; omega
    have HH := Lib.hid hH
    have HD : Hid (∀ W, Calls Tryz.prog 86 #[.int .i64 x.id] W fun e w' => e = .returned (.string (digB x.id.toNat)) ∧ Below W.heap.size W w') := by
      show ∀ W, _
      intro W
      have := DigitsR_any x.id.toNat (by omega) W
      rwa [show ((x.id.toNat : Nat) : Int) = x.id by omega] at this
    have hdz' : (digB x.id.toNat).size ≤ 100000 := by omega
    have hH2 : H = rowI (digB x.id.toNat) [x.known] := hH
    clear hH
    generalize digB x.id.toNat = G at *
    have HG := Lib.hid hH2
    clear hH2
    clear i1 i2 i3 i4 hdz
    go_cut [5] from 10 to 16 (fun s5 wx => s5 = .string H ∧ Hid (Below w1.heap.size w1 wx))
    case first =>
      have hBw : Below w1.heap.size w1 w1 := Below.refl _ _
      go_region_held3 (fun W => W.cell? ⟨w.heap.size, 0, none⟩ = some (.int .i64 x.id) ∧ W.cell? ⟨w.heap.size, 1, none⟩ = some (.int .i64 x.known) ∧ w.heap.size < W.heap.size ∧ Below w.heap.size w W ∧ Below w1.heap.size w1 W) (first | with_reducible exact (SW.drew ⟨by assumption, by assumption, by assumption, by assumption, by assumption⟩ : SW x w w1 _) | with_reducible exact (SW.al_drew ⟨by assumption, by assumption, by assumption, by assumption, by assumption⟩ _ : SW x w w1 _) | with_reducible exact (SW.al ⟨by assumption, by assumption, by assumption, by assumption, by assumption⟩ _ : SW x w w1 _) | with_reducible exact (SW.al_drew (SW.al ⟨by assumption, by assumption, by assumption, by assumption, by assumption⟩ _) _ : SW x w w1 _) | with_reducible exact (SW.al (SW.al ⟨by assumption, by assumption, by assumption, by assumption, by assumption⟩ _) _ : SW x w w1 _) | with_reducible exact (⟨by assumption, by assumption, by assumption, by assumption, by assumption⟩ : SW x w w1 _)) (first
        | (go_at_call 86; refine (digW x w w1 _ ?_ G HD.out).mono ?_; (with_reducible first | exact (SW.drew ⟨by assumption, by assumption, by assumption, by assumption, by assumption⟩ : SW x w w1 _) | exact (SW.al_drew ⟨by assumption, by assumption, by assumption, by assumption, by assumption⟩ _ : SW x w w1 _) | exact (SW.al ⟨by assumption, by assumption, by assumption, by assumption, by assumption⟩ _ : SW x w w1 _) | exact (SW.al_drew (SW.al ⟨by assumption, by assumption, by assumption, by assumption, by assumption⟩ _) _ : SW x w w1 _) | exact (SW.al (SW.al ⟨by assumption, by assumption, by assumption, by assumption, by assumption⟩ _) _ : SW x w w1 _) | exact (⟨by assumption, by assumption, by assumption, by assumption, by assumption⟩ : SW x w w1 _)); rintro e w' ⟨rfl, hb8, q0, q1, qL, qB, qC⟩)
        | (go_at_call 85; refine (rowW x w w1 _ ?_ G H HG.out hdz' hidK.out _ ?_ ?_).mono ?_; (with_reducible first | exact (SW.drew ⟨by assumption, by assumption, by assumption, by assumption, by assumption⟩ : SW x w w1 _) | exact (SW.al_drew ⟨by assumption, by assumption, by assumption, by assumption, by assumption⟩ _ : SW x w w1 _) | exact (SW.al ⟨by assumption, by assumption, by assumption, by assumption, by assumption⟩ _ : SW x w w1 _) | exact (SW.al_drew (SW.al ⟨by assumption, by assumption, by assumption, by assumption, by assumption⟩ _) _ : SW x w w1 _) | exact (SW.al (SW.al ⟨by assumption, by assumption, by assumption, by assumption, by assumption⟩ _) _ : SW x w w1 _) | exact (⟨by assumption, by assumption, by assumption, by assumption, by assumption⟩ : SW x w w1 _)); (with_reducible first | exact lt_new_drew _ _ | exact lt_new _ _ | exact lt2 _ _ _ | exact lt3 _ _ _ | exact keepL (lt_new_drew _ _) hb8 | exact keepL (lt_new _ _) hb8); ((with_reducible first | refine built_cell_drew _ _ _ _ _ ?_ | refine built_cell _ _ _ _ _ ?_ | refine keepS hb8 (lt_new_drew _ _) (built_cell_drew _ _ _ _ _ ?_) | refine keepS hb8 (lt_new _ _) (built_cell _ _ _ _ _ ?_)); rfl); rintro e w' ⟨rfl, hb9, q0, q1, qL, qB, qC⟩))
      all_goals go_wp2_with fail
      all_goals go_meet
      all_goals exact ⟨rfl, (by assumption : Below w1.heap.size w1 _)⟩
    case rest =>
      obtain ⟨rfl, hbx⟩ := hcut
      have hBc : Below w.heap.size w wc := hB1.trans (hbx.out.mono hB1.size)
      have hLc : w.heap.size < wc.heap.size := keepL hs1' hbx.out
      have e2 := keepS hbx.out hs1' c2
      have e3 := keepS hbx.out hs1' c3
      have e4 := keepS hbx.out hs1' c4
      have e5 := keepS hbx.out hs1' c5
      have e6 := keepS hbx.out hs1' c6
      have e7 := keepS hbx.out hs1' c7
      have e8 := keepS hbx.out hs1' c8
      have e9 := keepS hbx.out hs1' c9
      have e10 := keepS hbx.out hs1' c10
      have e11 := keepS hbx.out hs1' c11
      have e12 := keepS hbx.out hs1' c12
      have e13 := keepS hbx.out hs1' c13
      clear c0 c1 c2 c3 c4 c5 c6 c7 c8 c9 c10 c11 c12 c13 hbx hB1 hs1 hs1' HD HG hdz' hidK
      obtain ⟨b1, b2, b3, b4, b5, b6, b7, b8, b9, b10, b11, b12, b13, b14, b15, b16, b17, b18, b19, b20⟩ := hbd
      have hHz' : H.size ≤ 9223372036854775000 := by omega
      have HWR : Hid (writeRB x = if x.kind = 3 then rowI (H ++ ⟨#[32, 118, 111, 105, 100]⟩) [x.of] else if x.kind = 2 then rowI (H ++ ⟨#[32, 116, 111, 116, 97, 108]⟩) [x.loss, x.pack, x.count, x.lo, x.hi] else rowI (rowI (H ++ ⟨#[32, 112, 97, 99, 107, 97, 103, 101]⟩) [x.loss, x.pack, x.inn] ++ ⟨#[32]⟩ ++ x.mark ++ ⟨#[32]⟩ ++ x.goods) [x.lo, x.hi, x.pieces, x.owner]) := by show _ = _; rw [HH.out]; rfl
      rcases hk with hk | hk | hk
      · have g1 : (x.kind == 3) = false := by rw [hk]; rfl
        have g2 : (x.kind == 2) = false := by rw [hk]; rfl
        have hidB : Hid (∀ n ∈ [x.loss, x.pack, x.inn], 0 ≤ n ∧ n ≤ 1000000000) := by show ∀ n ∈ _, _; intro n hn; simp at hn; rcases hn with rfl | rfl | rfl <;> omega
        have hidC : Hid (∀ n ∈ [x.lo, x.hi, x.pieces, x.owner], 0 ≤ n ∧ n ≤ 1000000000) := by show ∀ n ∈ _, _; intro n hn; simp at hn; rcases hn with rfl | rfl | rfl | rfl <;> omega
        have pz : (⟨#[32, 112, 97, 99, 107, 97, 103, 101]⟩ : ByteArray).size = 8 := rfl
        have sz32 : (⟨#[32]⟩ : ByteArray).size = 1 := rfl
        obtain ⟨W1, hW1⟩ : ∃ W1, W1 = H ++ ⟨#[32, 112, 97, 99, 107, 97, 103, 101]⟩ := ⟨_, rfl⟩
        have ad0 := fun W => run_string_add_sum (P := Tryz.prog) W H ⟨#[32, 112, 97, 99, 107, 97, 103, 101]⟩ (by rw [pz]; omega)
        rw [← hW1] at ad0
        have w1z : W1.size ≤ 200 := by rw [hW1, ByteArray.size_append, pz]; omega
        obtain ⟨B, hB⟩ : ∃ B, B = rowI W1 [x.loss, x.pack, x.inn] := ⟨_, rfl⟩
        have hBz : B.size ≤ 500 := by rw [hB]; have := rowI_size W1 _ hidB.out; simp at this; omega
        obtain ⟨W2, hW2⟩ : ∃ W2, W2 = B ++ ⟨#[32]⟩ ++ x.mark ++ ⟨#[32]⟩ ++ x.goods := ⟨_, rfl⟩
        have w2z : W2.size ≤ 100000 := by rw [hW2]; simp only [ByteArray.size_append, sz32]; omega
        obtain ⟨C, hC⟩ : ∃ C, C = rowI W2 [x.lo, x.hi, x.pieces, x.owner] := ⟨_, rfl⟩
        have ad1 := fun W => run_string_add_sum (P := Tryz.prog) W B ⟨#[32]⟩ (by rw [sz32]; omega)
        have ad2 := fun W => run_string_add_sum (P := Tryz.prog) W (B ++ ⟨#[32]⟩) x.mark (by simp only [ByteArray.size_append, sz32]; omega)
        have ad3 := fun W => run_string_add_sum (P := Tryz.prog) W (B ++ ⟨#[32]⟩ ++ x.mark) ⟨#[32]⟩ (by simp only [ByteArray.size_append, sz32]; omega)
        have ad4 := fun W => run_string_add_sum (P := Tryz.prog) W (B ++ ⟨#[32]⟩ ++ x.mark ++ ⟨#[32]⟩) x.goods (by simp only [ByteArray.size_append, sz32]; omega)
        rw [← hW2] at ad4
        have HW : Hid (writeRB x = C) := by show _ = _; rw [HWR.out, if_neg (by omega), if_neg (by omega), hC, hW2, hB, hW1]
        have HB := Lib.hid hB
        have HC := Lib.hid hC
        have hz1 : Hid (W1.size ≤ 100000) := by show _ ≤ _; omega
        have hz2 : Hid (W2.size ≤ 100000) := Lib.hid w2z
        clear b1 b2 b3 b4 b5 b6 b7 b8 b9 b10 b11 b12 b13 b14 b15 b16 b17 b18 b19 b20 hW1 hW2 hB hC pz sz32 w1z w2z hBz hHz hHz' hm hg HWR HH
        go_wp2_with fail
        go_region_held3 (fun W => W.cell? ⟨w.heap.size, 3, none⟩ = some (.int .i64 x.loss) ∧ W.cell? ⟨w.heap.size, 4, none⟩ = some (.int .i64 x.pack) ∧ W.cell? ⟨w.heap.size, 5, none⟩ = some (.int .i64 x.inn) ∧ W.cell? ⟨w.heap.size, 6, none⟩ = some (.string x.mark) ∧ W.cell? ⟨w.heap.size, 7, none⟩ = some (.string x.goods) ∧ W.cell? ⟨w.heap.size, 8, none⟩ = some (.int .i64 x.lo) ∧ W.cell? ⟨w.heap.size, 9, none⟩ = some (.int .i64 x.hi) ∧ W.cell? ⟨w.heap.size, 10, none⟩ = some (.int .i64 x.pieces) ∧ W.cell? ⟨w.heap.size, 11, none⟩ = some (.int .i64 x.owner) ∧ w.heap.size < W.heap.size ∧ Below w.heap.size w W) ((first | with_reducible exact (SX.drew ⟨by assumption, by assumption, by assumption, by assumption, by assumption, by assumption, by assumption, by assumption, by assumption, by assumption, by assumption⟩ : SX x w _) | with_reducible exact (SX.al_drew ⟨by assumption, by assumption, by assumption, by assumption, by assumption, by assumption, by assumption, by assumption, by assumption, by assumption, by assumption⟩ _ : SX x w _) | with_reducible exact (SX.al ⟨by assumption, by assumption, by assumption, by assumption, by assumption, by assumption, by assumption, by assumption, by assumption, by assumption, by assumption⟩ _ : SX x w _) | with_reducible exact (SX.al_drew (SX.al ⟨by assumption, by assumption, by assumption, by assumption, by assumption, by assumption, by assumption, by assumption, by assumption, by assumption, by assumption⟩ _) _ : SX x w _) | with_reducible exact (SX.al (SX.al ⟨by assumption, by assumption, by assumption, by assumption, by assumption, by assumption, by assumption, by assumption, by assumption, by assumption, by assumption⟩ _) _ : SX x w _) | with_reducible exact (⟨by assumption, by assumption, by assumption, by assumption, by assumption, by assumption, by assumption, by assumption, by assumption, by assumption, by assumption⟩ : SX x w _))) (first
          | (go_at_call 85; refine (rowSB x w _ ?_ _ _ _ B C W1 W2 HB.out HC.out hz1.out hz2.out hidB.out hidC.out ?_).mono ?_; (with_reducible first | exact (SX.drew ⟨by assumption, by assumption, by assumption, by assumption, by assumption, by assumption, by assumption, by assumption, by assumption, by assumption, by assumption⟩ : SX x w _) | exact (SX.al_drew ⟨by assumption, by assumption, by assumption, by assumption, by assumption, by assumption, by assumption, by assumption, by assumption, by assumption, by assumption⟩ _ : SX x w _) | exact (SX.al ⟨by assumption, by assumption, by assumption, by assumption, by assumption, by assumption, by assumption, by assumption, by assumption, by assumption, by assumption⟩ _ : SX x w _) | exact (SX.al_drew (SX.al ⟨by assumption, by assumption, by assumption, by assumption, by assumption, by assumption, by assumption, by assumption, by assumption, by assumption, by assumption⟩ _) _ : SX x w _) | exact (SX.al (SX.al ⟨by assumption, by assumption, by assumption, by assumption, by assumption, by assumption, by assumption, by assumption, by assumption, by assumption, by assumption⟩ _) _ : SX x w _) | exact (⟨by assumption, by assumption, by assumption, by assumption, by assumption, by assumption, by assumption, by assumption, by assumption, by assumption, by assumption⟩ : SX x w _)); (first | (refine .inl ⟨rfl, rfl, ?_, ?_, ?_, ?_⟩; (with_reducible first | exact lt_new_drew _ _ | exact lt_new _ _ | exact lt2 _ _ _ | exact lt3 _ _ _ | exact keepL (lt2 _ _ _) hb9 | exact keepL (lt3 _ _ _) hb9); ((with_reducible first | refine built_cell_drew _ _ _ _ _ ?_ | refine built_cell _ _ _ _ _ ?_ | refine built2 _ _ _ _ _ _ ?_ | refine built3 _ _ _ _ _ _ ?_ | refine keepS hb9 (lt2 _ _ _) (built2 _ _ _ _ _ _ ?_) | refine keepS hb9 (lt3 _ _ _) (built3 _ _ _ _ _ _ ?_)); (rfl)); ((with_reducible first | refine built_cell_drew _ _ _ _ _ ?_ | refine built_cell _ _ _ _ _ ?_ | refine built2 _ _ _ _ _ _ ?_ | refine built3 _ _ _ _ _ _ ?_ | refine keepS hb9 (lt2 _ _ _) (built2 _ _ _ _ _ _ ?_) | refine keepS hb9 (lt3 _ _ _) (built3 _ _ _ _ _ _ ?_)); (rfl)); ((with_reducible first | refine built_cell_drew _ _ _ _ _ ?_ | refine built_cell _ _ _ _ _ ?_ | refine built2 _ _ _ _ _ _ ?_ | refine built3 _ _ _ _ _ _ ?_ | refine keepS hb9 (lt2 _ _ _) (built2 _ _ _ _ _ _ ?_) | refine keepS hb9 (lt3 _ _ _) (built3 _ _ _ _ _ _ ?_)); (rfl))) | (refine .inr ⟨rfl, rfl, ?_, ?_, ?_, ?_, ?_⟩; (with_reducible first | exact lt_new_drew _ _ | exact lt_new _ _ | exact lt2 _ _ _ | exact lt3 _ _ _ | exact keepL (lt2 _ _ _) hb9 | exact keepL (lt3 _ _ _) hb9); ((with_reducible first | refine built_cell_drew _ _ _ _ _ ?_ | refine built_cell _ _ _ _ _ ?_ | refine built2 _ _ _ _ _ _ ?_ | refine built3 _ _ _ _ _ _ ?_ | refine keepS hb9 (lt2 _ _ _) (built2 _ _ _ _ _ _ ?_) | refine keepS hb9 (lt3 _ _ _) (built3 _ _ _ _ _ _ ?_)); (rfl)); ((with_reducible first | refine built_cell_drew _ _ _ _ _ ?_ | refine built_cell _ _ _ _ _ ?_ | refine built2 _ _ _ _ _ _ ?_ | refine built3 _ _ _ _ _ _ ?_ | refine keepS hb9 (lt2 _ _ _) (built2 _ _ _ _ _ _ ?_) | refine keepS hb9 (lt3 _ _ _) (built3 _ _ _ _ _ _ ?_)); (rfl)); ((with_reducible first | refine built_cell_drew _ _ _ _ _ ?_ | refine built_cell _ _ _ _ _ ?_ | refine built2 _ _ _ _ _ _ ?_ | refine built3 _ _ _ _ _ _ ?_ | refine keepS hb9 (lt2 _ _ _) (built2 _ _ _ _ _ _ ?_) | refine keepS hb9 (lt3 _ _ _) (built3 _ _ _ _ _ _ ?_)); (rfl)); ((with_reducible first | refine built_cell_drew _ _ _ _ _ ?_ | refine built_cell _ _ _ _ _ ?_ | refine built2 _ _ _ _ _ _ ?_ | refine built3 _ _ _ _ _ _ ?_ | refine keepS hb9 (lt2 _ _ _) (built2 _ _ _ _ _ _ ?_) | refine keepS hb9 (lt3 _ _ _) (built3 _ _ _ _ _ _ ?_)); (rfl)))); rintro e w' ⟨rfl, hb9, q3, q4, q5, q6, q7, q8, q9, q10, q11, qL, qB⟩))
        all_goals go_wp2_with fail
        all_goals go_ret2
        all_goals exact ⟨by rw [HR.out, HW.out]; rfl, by assumption⟩
      · have g1 : (x.kind == 3) = false := by rw [hk]; rfl
        have g2 : (x.kind == 2) = true := by rw [hk]; rfl
        have hidD : Hid (∀ n ∈ [x.loss, x.pack, x.count, x.lo, x.hi], 0 ≤ n ∧ n ≤ 1000000000) := by show ∀ n ∈ _, _; intro n hn; simp at hn; rcases hn with rfl | rfl | rfl | rfl | rfl <;> omega
        have pz : (⟨#[32, 116, 111, 116, 97, 108]⟩ : ByteArray).size = 6 := rfl
        have ad0 := fun W => run_string_add_sum (P := Tryz.prog) W H ⟨#[32, 116, 111, 116, 97, 108]⟩ (by rw [pz]; omega)
        have wz : Hid ((H ++ ⟨#[32, 116, 111, 116, 97, 108]⟩).size ≤ 100000) := by show _ ≤ _; rw [ByteArray.size_append, pz]; omega
        have HW : Hid (writeRB x = rowI (H ++ ⟨#[32, 116, 111, 116, 97, 108]⟩) [x.loss, x.pack, x.count, x.lo, x.hi]) := by show _ = _; rw [HWR.out, if_neg (by omega), if_pos hk]
        clear b1 b2 b3 b4 b5 b6 b7 b8 b9 b10 b11 b12 b13 b14 b15 b16 b17 b18 b19 b20 pz hHz hHz' hm hg HWR HH
        go_wp2_with fail
        refine (row5 _ _ x.loss x.pack x.count x.lo x.hi _ wz.out hidD.out (lt_new _ _) (built_cell _ _ _ _ _ rfl) (built_cell _ _ _ _ _ rfl) (built_cell _ _ _ _ _ rfl) (built_cell _ _ _ _ _ rfl) (built_cell _ _ _ _ _ rfl)).mono ?_
        rintro e w' ⟨rfl, hb⟩
        have hB9 := keepB (below_al hBc _) hb
        clear hb
        go_wp2_with fail
        go_ret2
        exact ⟨by rw [HR.out, HW.out]; rfl, hB9⟩
      · have g1 : (x.kind == 3) = true := by rw [hk]; rfl
        have hidD : Hid (∀ n ∈ [x.of], 0 ≤ n ∧ n ≤ 1000000000) := by show ∀ n ∈ _, _; intro n hn; simp at hn; subst hn; omega
        have pz : (⟨#[32, 118, 111, 105, 100]⟩ : ByteArray).size = 5 := rfl
        have ad0 := fun W => run_string_add_sum (P := Tryz.prog) W H ⟨#[32, 118, 111, 105, 100]⟩ (by rw [pz]; omega)
        have wz : Hid ((H ++ ⟨#[32, 118, 111, 105, 100]⟩).size ≤ 100000) := by show _ ≤ _; rw [ByteArray.size_append, pz]; omega
        have HW : Hid (writeRB x = rowI (H ++ ⟨#[32, 118, 111, 105, 100]⟩) [x.of]) := by show _ = _; rw [HWR.out, if_pos hk]
        clear b1 b2 b3 b4 b5 b6 b7 b8 b9 b10 b11 b12 b13 b14 b15 b16 b17 b18 b19 b20 pz hHz hHz' hm hg HWR HH
        go_wp2_with fail
        refine (row1 _ _ x.of _ wz.out hidD.out (lt_new _ _) (built_cell _ _ _ _ _ rfl)).mono ?_
        rintro e w' ⟨rfl, hb⟩
        have hB9 := keepB (below_al hBc _) hb
        clear hb
        go_wp2_with fail
        go_ret2
        exact ⟨by rw [HR.out, HW.out]; rfl, hB9⟩

end Go.Proofs.YtpffpofdceppiaaGreatDoor
