/- A part of the proof that laganlaw01.CargoTexts answers true at every input and leaves its arguments as they were; the conditions are those of the given row and card, nothing else. -/
import Derived.Shelf.LaysM
import Derived.Shelf.Strconv.Itoa3
import Derived.Shelf.Strings.Count
import Derived.Test.YtpffpofdceppiaaGreatDoorProg
import Derived.Shelf.Strings.Split
import Derived.Test.YtpffpofdceppiaaGreatDoorKO3
namespace Go.Proofs
open Go.Shelf

def Tryz.laysM171_ren : Go.Shelf.Ren := ⟨fun | 171 => 81 | 243 => 148 | 246 => 184 | 283 => 200 | 284 => 201 | 285 => 202 | 286 => 203 | 129 => 216 | 317 => 215 | 318 => 217 | 319 => 218 | 320 => 219 | 337 => 244 | 338 => 245 | n => n, fun | 3 => 3 | 9 => 9 | 2 => 2 | 4 => 4 | 171 => 197 | 0 => 0 | 53 => 198 | 37 => 153 | 5 => 5 | 173 => 201 | 212 => 215 | 51 => 211 | 20 => 20 | 213 => 216 | 46 => 196 | 232 => 252 | 233 => 253 | n => n, fun | 17 => 1 | 18 => 4 | 19 => 5 | n => n⟩
theorem Tryz.laysM171 : Go.Proofs.LaysM.n171 Tryz.prog Tryz.laysM171_ren := {
  mixed := by kernel_rfl
  f129 := Tryz.func216.trans (congrArg some (by kernel_rfl))
  f171 := Tryz.func81.trans (congrArg some (by kernel_rfl))
  f243 := Tryz.func148.trans (congrArg some (by kernel_rfl))
  f246 := Tryz.func184.trans (congrArg some (by kernel_rfl))
  f283 := Tryz.func200.trans (congrArg some (by kernel_rfl))
  f284 := Tryz.func201.trans (congrArg some (by kernel_rfl))
  f285 := Tryz.func202.trans (congrArg some (by kernel_rfl))
  f286 := Tryz.func203.trans (congrArg some (by kernel_rfl))
  f317 := Tryz.func215.trans (congrArg some (by kernel_rfl))
  f318 := Tryz.func217.trans (congrArg some (by kernel_rfl))
  f319 := Tryz.func218.trans (congrArg some (by kernel_rfl))
  f320 := Tryz.func219.trans (congrArg some (by kernel_rfl))
  f337 := Tryz.func244.trans (congrArg some (by kernel_rfl))
  f338 := Tryz.func245.trans (congrArg some (by kernel_rfl))
  t0 := Tryz.underlying0
  a0 := Tryz.isAgg0
  z0 := Tryz.sizeOf0
  v0 := Tryz.zeroValue0
  t2 := Tryz.underlying2
  a2 := Tryz.isAgg2
  z2 := Tryz.sizeOf2
  v2 := Tryz.zeroValue2
  t3 := Tryz.underlying3
  a3 := Tryz.isAgg3
  z3 := Tryz.sizeOf3
  v3 := Tryz.zeroValue3
  t4 := Tryz.underlying4
  a4 := Tryz.isAgg4
  z4 := Tryz.sizeOf4
  v4 := Tryz.zeroValue4
  t5 := Tryz.underlying5
  a5 := Tryz.isAgg5
  z5 := Tryz.sizeOf5
  v5 := Tryz.zeroValue5
  t9 := Tryz.underlying9
  a9 := Tryz.isAgg9
  z9 := Tryz.sizeOf9
  v9 := Tryz.zeroValue9
  t20 := Tryz.underlying20
  a20 := Tryz.isAgg20
  z20 := Tryz.sizeOf20
  v20 := Tryz.zeroValue20
  t37 := Tryz.underlying153
  a37 := Tryz.isAgg153
  z37 := Tryz.sizeOf153
  v37 := Tryz.zeroValue153
  t46 := Tryz.underlying196
  a46 := Tryz.isAgg196
  z46 := Tryz.sizeOf196
  v46 := Tryz.zeroValue196
  t51 := Tryz.underlying211
  a51 := Tryz.isAgg211
  z51 := Tryz.sizeOf211
  v51 := Tryz.zeroValue211
  t53 := Tryz.underlying198
  a53 := Tryz.isAgg198
  z53 := Tryz.sizeOf198
  v53 := Tryz.zeroValue198
  t171 := Tryz.underlying197
  a171 := Tryz.isAgg197
  z171 := Tryz.sizeOf197
  v171 := Tryz.zeroValue197
  t173 := Tryz.underlying201
  a173 := Tryz.isAgg201
  z173 := Tryz.sizeOf201
  v173 := Tryz.zeroValue201
  t212 := Tryz.underlying215
  a212 := Tryz.isAgg215
  z212 := Tryz.sizeOf215
  v212 := Tryz.zeroValue215
  t213 := Tryz.underlying216
  a213 := Tryz.isAgg216
  z213 := Tryz.sizeOf216
  t232 := Tryz.underlying252
  a232 := Tryz.isAgg252
  z232 := Tryz.sizeOf252
  v232 := Tryz.zeroValue252
  t233 := Tryz.underlying253
  a233 := Tryz.isAgg253
  z233 := Tryz.sizeOf253
  v233 := Tryz.zeroValue253
  g17 := by kernel_rfl
  g18 := by kernel_rfl
  g19 := by kernel_rfl
  i0 := by kernel_rfl
  i2 := by kernel_rfl
  i3 := by kernel_rfl
  i4 := by kernel_rfl
  i5 := by kernel_rfl
  i9 := by kernel_rfl
  i20 := by kernel_rfl
  i37 := by kernel_rfl
  i46 := by kernel_rfl
  i51 := by kernel_rfl
  i53 := by kernel_rfl
  i171 := by kernel_rfl
  i173 := by kernel_rfl
  i212 := by kernel_rfl
  i232 := by kernel_rfl
  i233 := by kernel_rfl
  m17 := by kernel_rfl
  m18 := by kernel_rfl
  m19 := by kernel_rfl }
open Go.RowKit Go.Sort Go.Lib in
/-- strconv.Itoa: "Itoa is equivalent to FormatInt(int64(i), 10).": i's DECIMAL NUMERAL ('Lib.itoa': a '-' where i is negative, then the digits), FOR EVERY int. The world behind the call: the world before it, new blocks behind the heap (the library's 'var a [24]byte'), draws. (LAID: no walk: one application.) -/
theorem Tryz.strconv_Itoa (n : Int) (h0 : -9223372036854775808 ≤ n) (h1 : n ≤ 9223372036854775807) (w : World) (htab : Lib.TabIs Tryz.prog w "internal/strconv.uint64pow10" .u64 Lib.pow10Tab) :
    Calls Tryz.prog 81 #[.int .i64 n] w fun e w' => e = .returned (.string ⟨(Lib.itoa n).toArray⟩) ∧ ∃ k os, w' = grow (w.drewN k) os := Any.strconv_Itoa Tryz.laysM171 n h0 h1 w htab
def Tryz.lays138_ren : Go.Shelf.Ren := ⟨fun | 138 => 78 | 195 => 143 | 218 => 144 | 143 => 145 | 219 => 183 | 217 => 196 | 225 => 197 | 224 => 198 | 267 => 199 | 266 => 213 | 314 => 214 | n => n, fun | 9 => 9 | 3 => 3 | 4 => 4 | 5 => 5 | 0 => 0 | 46 => 196 | 146 => 212 | 51 => 211 | n => n, fun | 1 => 0 | n => n⟩
theorem Tryz.lays138 : Go.Proofs.Lays.n138 Tryz.prog Tryz.lays138_ren := {
  mixed := by kernel_rfl
  f138 := Tryz.func78.trans (congrArg some (by kernel_rfl))
  f143 := Tryz.func145.trans (congrArg some (by kernel_rfl))
  f195 := Tryz.func143.trans (congrArg some (by kernel_rfl))
  f217 := Tryz.func196.trans (congrArg some (by kernel_rfl))
  f218 := Tryz.func144.trans (congrArg some (by kernel_rfl))
  f219 := Tryz.func183.trans (congrArg some (by kernel_rfl))
  f224 := Tryz.func198.trans (congrArg some (by kernel_rfl))
  f225 := Tryz.func197.trans (congrArg some (by kernel_rfl))
  f266 := Tryz.func213.trans (congrArg some (by kernel_rfl))
  f267 := Tryz.func199.trans (congrArg some (by kernel_rfl))
  f314 := Tryz.func214.trans (congrArg some (by kernel_rfl))
  t0 := Tryz.underlying0
  a0 := Tryz.isAgg0
  z0 := Tryz.sizeOf0
  v0 := Tryz.zeroValue0
  t3 := Tryz.underlying3
  a3 := Tryz.isAgg3
  z3 := Tryz.sizeOf3
  v3 := Tryz.zeroValue3
  t4 := Tryz.underlying4
  a4 := Tryz.isAgg4
  z4 := Tryz.sizeOf4
  v4 := Tryz.zeroValue4
  t5 := Tryz.underlying5
  a5 := Tryz.isAgg5
  z5 := Tryz.sizeOf5
  v5 := Tryz.zeroValue5
  t9 := Tryz.underlying9
  a9 := Tryz.isAgg9
  z9 := Tryz.sizeOf9
  v9 := Tryz.zeroValue9
  t46 := Tryz.underlying196
  a46 := Tryz.isAgg196
  z46 := Tryz.sizeOf196
  v46 := Tryz.zeroValue196
  t51 := Tryz.underlying211
  a51 := Tryz.isAgg211
  z51 := Tryz.sizeOf211
  v51 := Tryz.zeroValue211
  t146 := Tryz.underlying212
  a146 := Tryz.isAgg212
  z146 := Tryz.sizeOf212
  v146 := Tryz.zeroValue212
  g1 := by kernel_rfl }
open Go.RowKit Go.Lib in
/-- strings.Count AT A substr OF ONE BYTE ('hp'): "Count counts the number of non-overlapping instances of substr in s.": IT RETURNS 'Lib.countByte s (that byte)'; the world is as it was. ✋ NO CONTRACT HERE YET at an empty substr (utf8.RuneCountInString) or at a longer one (a loop over strings.Index). (LAID: no walk: one application.) -/
theorem Tryz.strings_Count_one (s : ByteArray) (c : UInt8) (w : World) :
    Calls Tryz.prog 78 #[.string s, .string ⟨#[c]⟩] w fun e w' => e = .returned (.int .i64 (Lib.countByte s.data.toList c)) ∧ w' = w := Any.strings_Count_one Tryz.lays138 s c w
end Go.Proofs

namespace Go.Proofs
open Go.Shelf

def Tryz.lays146_ren : Go.Shelf.Ren := ⟨fun | 146 => 154 | 221 => 187 | 268 => 206 | 138 => 78 | 143 => 145 | 195 => 143 | 197 => 220 | 218 => 144 | 219 => 183 | 260 => 246 | 217 => 196 | 225 => 197 | 224 => 198 | 267 => 199 | 266 => 213 | 314 => 214 | n => n, fun | 9 => 9 | 31 => 85 | 3 => 3 | 4 => 4 | 0 => 0 | 105 => 217 | 21 => 21 | 5 => 5 | 46 => 196 | 119 => 254 | 139 => 257 | 138 => 256 | 146 => 212 | 51 => 211 | n => n, fun | 1 => 0 | 3 => 6 | 4 => 7 | n => n⟩
theorem Tryz.lays146 : Go.Proofs.Lays.n146 Tryz.prog Tryz.lays146_ren := {
  mixed := by kernel_rfl
  f138 := Tryz.func78.trans (congrArg some (by kernel_rfl))
  f143 := Tryz.func145.trans (congrArg some (by kernel_rfl))
  f146 := Tryz.func154.trans (congrArg some (by kernel_rfl))
  f195 := Tryz.func143.trans (congrArg some (by kernel_rfl))
  f197 := Tryz.func220.trans (congrArg some (by kernel_rfl))
  f217 := Tryz.func196.trans (congrArg some (by kernel_rfl))
  f218 := Tryz.func144.trans (congrArg some (by kernel_rfl))
  f219 := Tryz.func183.trans (congrArg some (by kernel_rfl))
  f221 := Tryz.func187.trans (congrArg some (by kernel_rfl))
  f224 := Tryz.func198.trans (congrArg some (by kernel_rfl))
  f225 := Tryz.func197.trans (congrArg some (by kernel_rfl))
  f260 := Tryz.func246.trans (congrArg some (by kernel_rfl))
  f266 := Tryz.func213.trans (congrArg some (by kernel_rfl))
  f267 := Tryz.func199.trans (congrArg some (by kernel_rfl))
  f268 := Tryz.func206.trans (congrArg some (by kernel_rfl))
  f314 := Tryz.func214.trans (congrArg some (by kernel_rfl))
  t0 := Tryz.underlying0
  a0 := Tryz.isAgg0
  z0 := Tryz.sizeOf0
  v0 := Tryz.zeroValue0
  t3 := Tryz.underlying3
  a3 := Tryz.isAgg3
  z3 := Tryz.sizeOf3
  v3 := Tryz.zeroValue3
  t4 := Tryz.underlying4
  a4 := Tryz.isAgg4
  z4 := Tryz.sizeOf4
  v4 := Tryz.zeroValue4
  t5 := Tryz.underlying5
  a5 := Tryz.isAgg5
  z5 := Tryz.sizeOf5
  v5 := Tryz.zeroValue5
  t9 := Tryz.underlying9
  a9 := Tryz.isAgg9
  z9 := Tryz.sizeOf9
  v9 := Tryz.zeroValue9
  t21 := Tryz.underlying21
  a21 := Tryz.isAgg21
  z21 := Tryz.sizeOf21
  v21 := Tryz.zeroValue21
  t31 := Tryz.underlying85
  a31 := Tryz.isAgg85
  z31 := Tryz.sizeOf85
  v31 := Tryz.zeroValue85
  t46 := Tryz.underlying196
  a46 := Tryz.isAgg196
  z46 := Tryz.sizeOf196
  v46 := Tryz.zeroValue196
  t51 := Tryz.underlying211
  a51 := Tryz.isAgg211
  z51 := Tryz.sizeOf211
  v51 := Tryz.zeroValue211
  t105 := Tryz.underlying217
  a105 := Tryz.isAgg217
  z105 := Tryz.sizeOf217
  v105 := Tryz.zeroValue217
  t119 := Tryz.underlying254
  a119 := Tryz.isAgg254
  z119 := Tryz.sizeOf254
  t138 := Tryz.underlying256
  a138 := Tryz.isAgg256
  z138 := Tryz.sizeOf256
  v138 := Tryz.zeroValue256
  t139 := Tryz.underlying257
  a139 := Tryz.isAgg257
  z139 := Tryz.sizeOf257
  v139 := Tryz.zeroValue257
  t146 := Tryz.underlying212
  a146 := Tryz.isAgg212
  z146 := Tryz.sizeOf212
  v146 := Tryz.zeroValue212
  g1 := by kernel_rfl
  g3 := by kernel_rfl
  g4 := by kernel_rfl }
open Go.RowKit Go.Lib in
/-- strings.Split. (LAID: no walk: one application.) -/
theorem Tryz.strings_Split (s sep : ByteArray) (m : Int) (w : World) (hs : s.size < 4294967281) (hm : w.cell? ⟨0, 0, none⟩ = some (.int .i64 m)) (h1 : 1 ≤ sep.size) :
    Calls Tryz.prog 154 #[.string s, .string sep] w fun e w' =>
      e = .returned (.slice (some ⟨w.heap.size, 0, none⟩) (Lib.countB s sep + 1) (Lib.countB s sep + 1)) ∧ w' = w.alloc (.cells ((Lib.splitB sep 0 (Lib.countB s sep) s).map Value.string).toArray 9) := Any.strings_Split Tryz.lays146 (by kernel_rfl) s sep m w hs hm h1
end Go.Proofs

set_option linter.unusedSimpArgs false
set_option linter.unusedVariables false
namespace Go.Proofs.YtpffpofdceppiaaGreatDoor
open Go.RowKit Go.Shelf

set_option maxRecDepth 100000 in
set_option maxHeartbeats 2000000 in
theorem Index_any (v : Value) (l : List Int) (n : Int) (w : World) (hv : IntsAt w v l) (hn : l.length ≤ 100000) :
    Calls Tryz.prog 111 #[v, .int .i64 n] w fun e w' => e = .returned (.int .i64 (hav (fun y => n == y) l)) ∧ Below w.heap.size w w' := by
  obtain ⟨a, c, rfl, h1, h2, h3⟩ := hv
  go_enter Tryz.func111, Tryz.ntmps111
  go_wp2_with fail
  go_loopw [8] (fun s8 wr => ∃ k : Nat, k ≤ l.length ∧ s8 = .int .i64 k ∧ Hid (∀ j (h : j < l.length), j < k → (n == l[j]) = false) ∧ Below w.heap.size w wr) (fun s8 _ => l.length - (intOf s8).toNat)
  case atStart => exact ⟨0, Nat.zero_le _, rfl, fun j _ hj => absurd hj (Nat.not_lt_zero _), Below.refl _ _⟩
  case round =>
    obtain ⟨k, hk, rfl, hno, hb⟩ := hrel
    by_cases hlt : k < l.length
    · obtain ⟨b, off, rfl, hbs, hcell⟩ := h3 (by omega)
      have hc := hcell k hlt 0 _ rfl
      have hc : w.cell? ⟨b, off + k, none⟩ = some (.int .i64 l[k]) := by simpa [encI] using hc
      have hc1 := (hb.cell (p := ⟨b, off + k, none⟩) hbs).trans hc
      have hno2 : Hid ((n == l[k]) = false → ∀ j (hj : j < l.length), j < k + 1 → (n == l[j]) = false) := fun h0 j hj hjk => by
        by_cases e : j = k
        · subst e; exact h0
        · exact hno.out j hj (by omega)
      have hhit : Hid ((n == l[k]) = true → hav (fun y => n == y) l = k) := fun h0 => hav_hit (fun y => n == y) l k hlt h0 (fun j hj => hno.out j (by omega) hj)
      clear hc hcell h3
      generalize l[k] = x at *
      cases g : (n == x)
      · have h9 := hno2.out g
        have H9 := Lib.hid h9
        clear h9 hno2 hno hhit
        go_wp2_with fail
        go_roundw
        case rel => exact ⟨k + 1, by omega, by go_num, H9.out, by first | exact hb | exact hb.drew | exact below_drewN hb _⟩
        case measure => simp [intOf]; omega
      · have h9 := hhit.out g
        have H9 := Lib.hid h9
        clear h9 hno2 hno hhit
        go_wp2_with fail
        go_ret
        exact ⟨by rw [H9.out]; rfl, by first | exact hb | exact hb.drew | exact below_drewN hb _⟩
    · obtain rfl : k = l.length := by omega
      have H9 : Hid (hav (fun y => n == y) l = -1) := hav_miss _ _ (fun j hj => hno.out j hj hj)
      clear hno
      go_wp2_with fail
      go_ret
      exact ⟨by rw [H9.out]; rfl, by first | exact hb | exact hb.drew | exact below_drewN hb _⟩

set_option maxHeartbeats 1000000 in
theorem Contains_any (v : Value) (l : List Int) (n : Int) (w : World) (hv : IntsAt w v l) (hn : l.length ≤ 100000) :
    Calls Tryz.prog 46 #[v, .int .i64 n] w fun e w' => e = .returned (.bool (l.contains n)) ∧ Below w.heap.size w w' := by
  have hc := Lib.hid (Index_any v l n w hv hn)
  have hh := hav_nonneg (fun y => n == y) l
  obtain ⟨a, c, rfl, h1, h2, h3⟩ := hv
  have he : l.any (fun y => n == y) = l.contains n := by rw [List.contains_eq_any_beq]
  rw [he] at hh
  generalize hav (fun y => n == y) l = q at *
  have HH := Lib.hid hh
  clear hh h3 he
  go_enter Tryz.func46, Tryz.ntmps46
  go_wp2_with fail
  refine hc.out.mono ?_
  rintro e w' ⟨rfl, hb⟩
  go_wp2_with fail
  go_ret
  exact ⟨by rw [← HH.out]; rfl, hb⟩

end Go.Proofs.YtpffpofdceppiaaGreatDoor
