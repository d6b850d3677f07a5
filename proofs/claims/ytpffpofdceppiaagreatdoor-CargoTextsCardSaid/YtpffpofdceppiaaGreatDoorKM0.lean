/- A part of the proof that laganlaw01.CargoTexts answers true at every input and leaves its arguments as they were; the conditions are those of the given row and card, nothing else. -/
import Derived.Test.YtpffpofdceppiaaGreatDoorKA1
import Derived.MapKept
import Derived.ChangeMaps4
import Derived.Maps.RangeRun
set_option linter.unusedSimpArgs false
set_option linter.unusedVariables false
namespace Go.Proofs.YtpffpofdceppiaaGreatDoor
open Go.RowKit
open Go.ChangeMaps (setBlock)

/-- Keys of a map, told by data of our own. -/
structure KeyOK {κ : Type} (P : Program) (kt : TypeId) (kv : κ → Value) : Prop where
  inj : ∀ a b, kv a = kv b → a = b
  check : ∀ w em k, (Instr.checkKey em 10000 kt (kv k)).run P w = .ok () w
  find : ∀ w k (es : List MapEntry), (∀ e ∈ es, ∃ k', e.key = kv k') → ((Instr.findKey kt (kv k) es).run P w = .ok none w ∧ ∀ e ∈ es, e.key ≠ kv k) ∨ ∃ j e, (Instr.findKey kt (kv k) es).run P w = .ok (some (j, e.val)) w ∧ es[j]? = some e ∧ e.key = kv k
  stays : ∀ w k, (Instr.keyThatStays (kv k) (kv k)).run P w = .ok (kv k) w

theorem int_key : KeyOK Tryz.prog 3 (fun k : Int => .int .i64 k) where
  inj := fun a b h => by cases h; rfl
  check := fun w em k => MapKept.run_checkKey Tryz.underlying3 (show MapKept.IsKey (.int .i64) (.int .i64 k) from rfl) em 9999
  find := fun w k es h => by
    rcases MapKept.findNow_spec (d := .int .i64) (k := .int .i64 k) rfl es 0 (fun e he => by obtain ⟨k', hk⟩ := h e he; rw [hk]; rfl) with ⟨h1, h2⟩ | ⟨j, e, h1, h2, h3⟩
    · exact .inl ⟨MapKept.run_findKey Tryz.underlying3 h1, h2⟩
    · exact .inr ⟨j, e, by rw [MapKept.run_findKey Tryz.underlying3 h1]; simp, h2, h3⟩
  stays := fun w k => by simp [Instr.keyThatStays, Instr.sameBits]

/-- The key of a package or its total. -/
def kv (k : Int × Bool) : Value := .agg #[.int .i64 k.1, .bool k.2]

theorem eq189 (a b : Int × Bool) (w : World) : (Op.equal 189 (kv a) (kv b)).run Tryz.prog w = .ok (decide (a = b)) w := by
  have hS : Tryz.prog.underlying 189 = some (.struct (Tryz.prog.fieldsOf 189)) := by kernel_rfl
  have h : (Op.equalIn (9998 + 2) 189 (kv a) (kv b)).run Tryz.prog w = .ok (a.1 == b.1 && (a.2 == b.2 && true)) w := by
    rw [kv, kv, run_equalIn_agg w (9998 + 1) 189 _ _ hS (by kernel_rfl)]
    have u3 := Tryz.underlying3
    have a3 := Tryz.isAgg3
    have z3 := Tryz.sizeOf3
    have u4 := Tryz.underlying4
    have a4 := Tryz.isAgg4
    have z4 := Tryz.sizeOf4
    simp only [Program.fieldsOf, Tryz.underlying189]
    exact eqf_cons rfl (a := .int .i64 a.1) (b := .int .i64 b.1) (by go_simp) (by go_simp) (by go_simp) (eqf_cons rfl (a := .bool a.2) (b := .bool b.2) (by go_simp) (by go_simp) (by go_simp) eqf_nil)
  have h' : (Op.equal 189 (kv a) (kv b)).run Tryz.prog w = .ok (a.1 == b.1 && (a.2 == b.2 && true)) w := by
    rw [Op.equal, Op.maxDepth, show (10000 : Nat) = 9998 + 2 from rfl]; exact h
  have e : (a.1 == b.1 && (a.2 == b.2 && true)) = decide (a = b) := by
    rw [Bool.eq_iff_iff]
    simp [Prod.ext_iff]
  rw [h', e]

theorem kv_inj (a b : Int × Bool) (h : kv a = kv b) : a = b := by
  obtain ⟨a1, a2⟩ := a
  obtain ⟨b1, b2⟩ := b
  simp [kv] at h
  simp [h]

theorem asking189 (k : Int × Bool) (w : World) : ∀ (es : List MapEntry) (i : Nat), (∀ e ∈ es, ∃ k', e.key = kv k') →
    ((Instr.findAsking 189 (kv k) es i).run Tryz.prog w = .ok none w ∧ ∀ e ∈ es, e.key ≠ kv k) ∨ ∃ j e, (Instr.findAsking 189 (kv k) es i).run Tryz.prog w = .ok (some (i + j, e.val)) w ∧ es[j]? = some e ∧ e.key = kv k
  | [], i, _ => .inl ⟨by simp [Instr.findAsking], by simp⟩
  | e :: es, i, h => by
    obtain ⟨k', hk⟩ := h e (.head _)
    have heq := eq189 k k' w
    by_cases hkk : k = k'
    · refine .inr ⟨0, e, ?_, rfl, by rw [hk, hkk]⟩
      rw [decide_eq_true hkk] at heq
      simp [Instr.findAsking, hk, heq, Result.andThen]
    · rw [decide_eq_false hkk] at heq
      rcases asking189 k w es (i + 1) (fun x hx => h x (.tail _ hx)) with ⟨h1, h2⟩ | ⟨j, e', h1, h2, h3⟩
      · refine .inl ⟨by simp [Instr.findAsking, hk, heq, Result.andThen, h1], fun x hx => ?_⟩
        cases hx with
        | head => intro q; rw [hk] at q; exact hkk (kv_inj _ _ q).symm
        | tail _ hx => exact h2 x hx
      · exact .inr ⟨j + 1, e', by simp [Instr.findAsking, hk, heq, Result.andThen, h1]; omega, by simpa using h2, h3⟩

theorem kv_key : KeyOK Tryz.prog 189 kv where
  inj := kv_inj
  check := fun w em k => by
    have hS : Tryz.prog.underlying 189 = some (.struct (Tryz.prog.fieldsOf 189)) := by kernel_rfl
    have u3 := Tryz.underlying3
    have a3 := Tryz.isAgg3
    have z3 := Tryz.sizeOf3
    have u4 := Tryz.underlying4
    have a4 := Tryz.isAgg4
    have z4 := Tryz.sizeOf4
    rw [kv, show (10000 : Nat) = 9998 + 2 from rfl]
    unfold Instr.checkKey
    simp only [Sem.run_bind, run_underlying Tryz.underlying189, Result.andThen]
    have c3 : ∀ (x : Int), (Instr.checkKey em (9998 + 1) 3 (.int .i64 x)).run Tryz.prog w = .ok () w := fun x => MapKept.run_checkKey Tryz.underlying3 (show MapKept.IsKey (.int .i64) (.int .i64 x) from rfl) em 9998
    have c4 : ∀ (x : Bool), (Instr.checkKey em (9998 + 1) 4 (.bool x)).run Tryz.prog w = .ok () w := fun x => MapKept.run_checkKey Tryz.underlying4 (show MapKept.IsKey .bool (.bool x) from trivial) em 9998
    rw [← Array.forIn_toList]
    go_simp
  find := fun w k es h => by
    cases es with
    | nil => exact .inl ⟨by simp [Instr.findKey, run_underlying Tryz.underlying189, Result.andThen, Instr.findNow], by simp⟩
    | cons e es =>
      obtain ⟨k', hk⟩ := h e (.head _)
      have hn : ∀ d, Instr.findNow (.struct d) (kv k) (e :: es) 0 = none := fun d => by simp [Instr.findNow, Instr.sameNow, kv]
      have hr : (Instr.findKey 189 (kv k) (e :: es)).run Tryz.prog w = (Instr.findAsking 189 (kv k) (e :: es)).run Tryz.prog w := by
        rw [Instr.findKey]
        simp only [Sem.run_bind, run_underlying Tryz.underlying189, Result.andThen, hn]
      rw [hr]
      rcases asking189 k w (e :: es) 0 h with ⟨h1, h2⟩ | ⟨j, e', h1, h2, h3⟩
      · exact .inl ⟨h1, h2⟩
      · exact .inr ⟨j, e', by rw [h1]; simp, h2, h3⟩
  stays := fun w k => by
    rw [Instr.keyThatStays, kv, show (10000 : Nat) = 9998 + 2 from rfl]
    simp [Instr.sameBits]

section
variable {P : Program} {κ ε : Type} {kt et : TypeId} {kv : κ → Value} {ev : ε → Value} {w : World} {b : Nat} {f : κ → Option ε} {T : TypeId}

/-- Block b is a map that holds f. -/
def MapAt (kv : κ → Value) (ev : ε → Value) (w : World) (b : Nat) (f : κ → Option ε) : Prop :=
  ∃ es clock, w.heap[b]? = some (.map es clock) ∧ MapKept.Stamped es clock ∧ (∀ e ∈ es.toList, ∃ k x, e.key = kv k ∧ e.val = ev x ∧ f k = some x) ∧ ∀ k x, f k = some x → ∃ e ∈ es.toList, e.key = kv k ∧ e.val = ev x

theorem MapAt.made (w : World) : MapAt kv ev (w.alloc (.map #[] 0)) w.heap.size (fun _ => none) :=
  ⟨#[], 0, (MapKept.heap_alloc w _).1, MapKept.stamped_empty 0, by simp, by simp⟩

theorem MapAt.lt (h : MapAt kv ev w b f) : b < w.heap.size := by
  obtain ⟨es, clock, h, _⟩ := h
  exact (Array.getElem?_eq_some_iff.1 h).1

theorem MapAt.kept {w' : World} (h : MapAt kv ev w b f) (hb : w'.heap[b]? = w.heap[b]?) : MapAt kv ev w' b f := by
  obtain ⟨es, clock, h0, h⟩ := h
  exact ⟨es, clock, hb.trans h0, h⟩

theorem setBlock_same {w : World} {b : Nat} {o : Obj} (hb : b < w.heap.size) : (setBlock w b o).heap[b]? = some o := by
  simp [setBlock, hb]
theorem setBlock_other {w : World} {b c : Nat} {o : Obj} (hc : c ≠ b) : (setBlock w b o).heap[c]? = w.heap[c]? := by
  simp [setBlock, Ne.symm hc]

theorem key_nodup {es : Array MapEntry} {clock : Nat} (hs : MapKept.Stamped es clock) {e e' : MapEntry} (he : e ∈ es.toList) (he' : e' ∈ es.toList) (h : e.key = e'.key) : e = e' := by
  obtain ⟨i, hi, rfl⟩ := List.getElem_of_mem he
  obtain ⟨j, hj, rfl⟩ := List.getElem_of_mem he'
  have hq : (es.toList.map MapEntry.key)[i]'(by simpa using hi) = (es.toList.map MapEntry.key)[j]'(by simpa using hj) := by simpa using h
  have hij := (List.getElem_inj hs.2.2).1 hq
  subst hij
  rfl

theorem MapAt.update [DecidableEq κ] (K : KeyOK P kt kv) (ht : P.underlying T = some (.map kt et)) (h : MapAt kv ev w b f) (k : κ) (x : ε) :
    ∃ o, (Instr.mapUpdate T (.map (some b)) (kv k) (ev x)).run P w = .ok () (setBlock w b o) ∧ MapAt kv ev (setBlock w b o) b (fun k' => if k' = k then some x else f k') := by
  obtain ⟨es, clock, hb, hs, h1, h2⟩ := h
  have hlt : b < w.heap.size := (Array.getElem?_eq_some_iff.1 hb).1
  have hk := K.check w false k
  rcases K.find w k es.toList (fun e he => by obtain ⟨k', x', e1, _⟩ := h1 e he; exact ⟨k', e1⟩) with ⟨g1, g2⟩ | ⟨j, e, g1, g2, g3⟩
  · refine ⟨.map (es.push { key := kv k, val := ev x, born := clock }) (clock + 1), ?_, _, _, setBlock_same hlt, MapKept.stamped_push hs g2, ?_, ?_⟩
    · simp [Instr.mapUpdate, run_underlying ht, MapKept.run_getObj_map hb, hk, g1, MapKept.run_setObj_map _ hb, Result.andThen, setBlock]
    · intro e he
      simp only [Array.toList_push, List.mem_append, List.mem_singleton] at he
      rcases he with he | rfl
      · obtain ⟨k', x', e1, e2, e3⟩ := h1 e he
        have hne : k' ≠ k := fun q => g2 e he (by rw [e1, q])
        exact ⟨k', x', e1, e2, by simp [hne, e3]⟩
      · exact ⟨k, x, rfl, rfl, by simp⟩
    · intro k' x' hk'
      simp only [Array.toList_push, List.mem_append, List.mem_singleton]
      by_cases hkk : k' = k
      · simp [hkk] at hk'
        exact ⟨_, .inr rfl, by rw [hkk], by rw [hk']⟩
      · simp [hkk] at hk'
        obtain ⟨e, he, e1, e2⟩ := h2 k' x' hk'
        exact ⟨e, .inl he, e1, e2⟩
  · have hj : es[j]? = some e := by simpa using g2
    have hjl : j < es.size := (Array.getElem?_eq_some_iff.1 hj).1
    have hst := K.stays w k
    refine ⟨.map (es.modify j fun e => { e with key := kv k, val := ev x }) clock, ?_, _, _, setBlock_same hlt, MapKept.stamped_modify hs j _ (fun _ _ => rfl) (fun e' _ he' => by rw [hj] at he'; cases he'; exact g3.symm), ?_, ?_⟩
    · simp [Instr.mapUpdate, run_underlying ht, MapKept.run_getObj_map hb, hk, g1, hj, g3, hst, MapKept.run_setObj_map _ hb, Result.andThen, setBlock]
    · intro e' he'
      obtain ⟨i, hi, rfl⟩ := List.getElem_of_mem he'
      have hi : i < es.size := by simpa using hi
      simp only [Array.getElem_toList, Array.getElem_modify]
      by_cases hij : j = i
      · subst hij
        exact ⟨k, x, by simp, by simp, by simp⟩
      · simp only [hij, if_false]
        obtain ⟨k', x', e1, e2, e3⟩ := h1 es[i] (by simp)
        have hne : k' ≠ k := fun q => by
          have : es[i] = e := key_nodup hs (by simp) (by rw [← Array.getElem?_toList] at hj; exact List.mem_of_getElem? hj) (by rw [e1, q, g3])
          have h3 : es[j] = e := by
            have := Array.getElem?_eq_some_iff.1 hj
            exact this.2
          have hq : (es.toList.map MapEntry.born)[i]'(by simpa using hi) = (es.toList.map MapEntry.born)[j]'(by simpa using hjl) := by simp [this, h3]
          have hij' := (List.getElem_inj hs.2.1).1 hq
          exact hij hij'.symm
        exact ⟨k', x', e1, e2, by simp [hne, e3]⟩
    · intro k' x' hk'
      by_cases hkk : k' = k
      · simp [hkk] at hk'
        refine ⟨{ e with key := kv k, val := ev x }, ?_, by simp [hkk], by simp [hk']⟩
        rw [Array.mem_toList_iff, Array.mem_iff_getElem]
        refine ⟨j, by simpa using hjl, ?_⟩
        have h3 : es[j] = e := (Array.getElem?_eq_some_iff.1 hj).2
        simp [Array.getElem_modify, h3]
      · simp [hkk] at hk'
        obtain ⟨e', he', e1, e2⟩ := h2 k' x' hk'
        obtain ⟨i, hi, rfl⟩ := List.getElem_of_mem he'
        have hij : j ≠ i := fun q => by
          subst q
          have h3 : es[j] = e := (Array.getElem?_eq_some_iff.1 hj).2
          simp only [Array.getElem_toList, h3, g3] at e1
          exact hkk (K.inj _ _ e1).symm
        refine ⟨es.toList[i], ?_, e1, e2⟩
        rw [Array.mem_toList_iff, Array.mem_iff_getElem]
        refine ⟨i, by simpa using hi, ?_⟩
        simp [Array.getElem_modify, hij]

theorem MapAt.lookup (K : KeyOK P kt kv) (ht : P.underlying T = some (.map kt et)) (h : MapAt kv ev w b f) (k : κ) (z : Value) (hz : (zeroValue et).run P w = .ok z w) (c : Bool) :
    (Instr.lookup T (.map (some b)) (kv k) c).run P w = .ok (if c then .tuple #[((f k).map ev).getD z, .bool (f k).isSome] else ((f k).map ev).getD z) w := by
  obtain ⟨es, clock, hb, hs, h1, h2⟩ := h
  have hk := K.check w es.isEmpty k
  rcases K.find w k es.toList (fun e he => by obtain ⟨k', x', e1, _⟩ := h1 e he; exact ⟨k', e1⟩) with ⟨g1, g2⟩ | ⟨j, e, g1, g2, g3⟩
  · have hf : f k = none := by
      cases hfk : f k with
      | none => rfl
      | some x =>
        obtain ⟨e, he, e1, _⟩ := h2 k x hfk
        exact absurd e1 (g2 e he)
    cases c <;> simp [Instr.lookup, run_underlying ht, MapKept.run_getObj_map hb, hk, g1, hz, Result.andThen, hf]
  · have hem : e ∈ es.toList := List.mem_of_getElem? g2
    obtain ⟨k', x, e1, e2, e3⟩ := h1 e hem
    have : k' = k := K.inj _ _ (by rw [← e1, g3])
    subst this
    cases c <;> simp [Instr.lookup, run_underlying ht, MapKept.run_getObj_map hb, hk, g1, Result.andThen, e3, e2]

/-- Block r is an iterator over the map of block b, of which the keys lk are still to come. -/
def IterAt (kv : κ → Value) (ev : ε → Value) (w : World) (b r : Nat) (f : κ → Option ε) (lk : List κ) : Prop :=
  ∃ es clock since seen c0, w.heap[b]? = some (.map es clock) ∧ w.heap[r]? = some (.mapIter (some b) since seen c0) ∧ MapKept.Stamped es clock ∧ (∀ x ∈ es.toList, x.born < since) ∧ since ≤ c0 ∧ since ≤ clock ∧
    (∀ e ∈ es.toList, ∃ k x, e.key = kv k ∧ e.val = ev x ∧ f k = some x) ∧ (∀ k x, f k = some x → ∃ e ∈ es.toList, e.key = kv k ∧ e.val = ev x) ∧
    lk.Nodup ∧ ∀ k, k ∈ lk ↔ ∃ e ∈ es.toList, e.key = kv k ∧ seen.contains e.born = false

theorem IterAt.kept {w' : World} {r : Nat} {lk : List κ} (h : IterAt kv ev w b r f lk) (hb : w'.heap[b]? = w.heap[b]?) (hr : w'.heap[r]? = w.heap[r]?) : IterAt kv ev w' b r f lk := by
  obtain ⟨es, clock, since, seen, c0, h1, h2, h⟩ := h
  exact ⟨es, clock, since, seen, c0, hb.trans h1, hr.trans h2, h⟩

theorem IterAt.map {r : Nat} {lk : List κ} (h : IterAt kv ev w b r f lk) : MapAt kv ev w b f := by
  obtain ⟨es, clock, since, seen, c0, h1, h2, h3, h4, h5, _, h6, h7, _⟩ := h
  exact ⟨es, clock, h1, h3, h6, h7⟩

/-- The keys of a finite map, each once. -/
theorem MapAt.keys (K : KeyOK P kt kv) (h : MapAt kv ev w b f) : ∃ ks : List κ, ks.Nodup ∧ ∀ k, k ∈ ks ↔ (f k).isSome := by
  obtain ⟨es, clock, hb, hs, h1, h2⟩ := h
  have hc : ∀ (l : List MapEntry), (∀ e ∈ l, ∃ k x, e.key = kv k ∧ e.val = ev x ∧ f k = some x) → (l.map MapEntry.key).Nodup → ∃ ks : List κ, ks.Nodup ∧ ∀ k, k ∈ ks ↔ ∃ e ∈ l, e.key = kv k := by
    intro l
    induction l with
    | nil => exact fun _ _ => ⟨[], by simp, by simp⟩
    | cons e l ih =>
      intro he hn
      simp only [List.map_cons, List.nodup_cons] at hn
      obtain ⟨ks, n1, n2⟩ := ih (fun x hx => he x (.tail _ hx)) hn.2
      obtain ⟨k, x, e1, _, _⟩ := he e (.head _)
      refine ⟨k :: ks, List.nodup_cons.2 ⟨fun hk => ?_, n1⟩, fun k' => ?_⟩
      · obtain ⟨e', he', e2⟩ := (n2 k).1 hk
        exact hn.1 (List.mem_map.2 ⟨e', he', by rw [e2, e1]⟩)
      · rw [List.mem_cons, n2]
        constructor
        · rintro (rfl | ⟨e', he', e2⟩)
          · exact ⟨e, .head _, e1⟩
          · exact ⟨e', .tail _ he', e2⟩
        · rintro ⟨e', he', e2⟩
          cases he' with
          | head => exact .inl (K.inj _ _ (by rw [← e2, e1]))
          | tail _ he' => exact .inr ⟨e', he', e2⟩
  obtain ⟨ks, n1, n2⟩ := hc es.toList h1 hs.2.2
  refine ⟨ks, n1, fun k => (n2 k).trans ⟨?_, ?_⟩⟩
  · rintro ⟨e, he, e1⟩
    obtain ⟨k', x, e2, _, e3⟩ := h1 e he
    rw [K.inj _ _ (e1.symm.trans e2), e3]; rfl
  · intro hk
    obtain ⟨x, hx⟩ := Option.isSome_iff_exists.1 hk
    obtain ⟨e, he, e1, _⟩ := h2 k x hx
    exact ⟨e, he, e1⟩

theorem IterAt.start (K : KeyOK P kt kv) (ht : P.underlying T = some (.map kt et)) (h : MapAt kv ev w b f) {ks : List κ} (hn : ks.Nodup) (hk : ∀ k, k ∈ ks ↔ (f k).isSome) :
    ∃ o, (Instr.range T (.map (some b))).run P w = .ok (.pointer (some ⟨w.heap.size, 0, none⟩)) (w.alloc o) ∧ IterAt kv ev (w.alloc o) b w.heap.size f ks := by
  have hlt := h.lt
  obtain ⟨es, clock, hb, hs, h1, h2⟩ := h
  refine ⟨.mapIter (some b) clock #[] clock, ?_, es, clock, clock, #[], clock, ?_, (MapKept.heap_alloc w _).1, hs, hs.1, Nat.le_refl _, Nat.le_refl _, h1, h2, hn, fun k => ?_⟩
  · simp [Instr.range, run_underlying ht, MapKept.run_getObj_map hb, Result.andThen]
  · rw [(MapKept.heap_alloc w _).2 b hlt]; exact hb
  · rw [hk]
    constructor
    · intro hs'
      obtain ⟨x, hx⟩ := Option.isSome_iff_exists.1 hs'
      obtain ⟨e, he, e1, _⟩ := h2 k x hx
      exact ⟨e, he, e1, by simp⟩
    · rintro ⟨e, he, e1, _⟩
      obtain ⟨k', x, e2, _, e3⟩ := h1 e he
      rw [K.inj _ _ (e1.symm.trans e2), e3]; rfl

theorem IterAt.next [DecidableEq κ] (K : KeyOK P kt kv) {r : Nat} {lk : List κ} (hrb : r ≠ b) (h : IterAt kv ev w b r f lk) (ty : TypeId) :
    (lk = [] ∧ (Instr.next (.pointer (some ⟨r, 0, none⟩)) false ty).run P w = .ok (.tuple #[.bool false]) w) ∨
    ∃ k x w1 o, k ∈ lk ∧ f k = some x ∧ (w1 = w ∨ w1 = w.drew) ∧ (Instr.next (.pointer (some ⟨r, 0, none⟩)) false ty).run P w = .ok (.tuple #[.bool true, kv k, ev x]) (setBlock w1 r o) ∧
      IterAt kv ev (setBlock w1 r o) b r f (lk.erase k) ∧ ∀ w2 : World, w2.heap[b]? = (setBlock w1 r o).heap[b]? → w2.heap[r]? = (setBlock w1 r o).heap[r]? → (Instr.entry (.pointer (some ⟨r, 0, none⟩))).run P w2 = .ok (.tuple #[kv k, ev x]) w2 := by
  obtain ⟨es, clock, since, seen, c0, hb, hr, hs, h4, h5, h5', h6, h7, hn, hlk⟩ := h
  have hlr : r < w.heap.size := (Array.getElem?_eq_some_iff.1 hr).1
  rcases run_next_at (P := P) w ty r b since c0 seen es clock hr hb h4 h5 with ⟨h0, hrun⟩ | ⟨e, he, w1, hw1, hrun⟩
  · refine .inl ⟨?_, hrun⟩
    rw [List.eq_nil_iff_forall_not_mem]
    intro k hk
    obtain ⟨e, he, e1, e2⟩ := (hlk k).1 hk
    have : e ∈ (leftOf es seen).toList := by
      rw [Array.mem_toList_iff, leftOf, Array.mem_filter]
      exact ⟨Array.mem_toList_iff.1 he, by rw [e2]; rfl⟩
    have h0' : (leftOf es seen).toList = [] := by simpa using h0
    rw [h0'] at this
    cases this
  · obtain ⟨hem, hse⟩ := mem_left he
    obtain ⟨k, x, e1, e2, e3⟩ := h6 e hem
    rw [e1, e2] at hrun
    have hb1 : w1.heap = w.heap := by rcases hw1 with rfl | rfl <;> rfl
    have hb' : (setBlock w1 r (.mapIter (some b) since (seen.push e.born) clock)).heap[b]? = some (.map es clock) := by
      rw [setBlock_other hrb.symm, hb1]; exact hb
    have hr' : (setBlock w1 r (.mapIter (some b) since (seen.push e.born) clock)).heap[r]? = some (.mapIter (some b) since (seen.push e.born) clock) := setBlock_same (by rw [hb1]; exact hlr)
    have hcl : ∀ y ∈ es.toList, y.born < clock := hs.1
    refine .inr ⟨k, x, w1, _, (hlk k).2 ⟨e, hem, e1, hse⟩, e3, hw1, hrun, ⟨es, clock, since, seen.push e.born, clock, hb', hr', hs, h4, h5', h5', h6, h7, hn.erase k, fun k' => ?_⟩, fun w2 g1 g2 => ?_⟩
    · rw [hn.mem_erase_iff, hlk]
      constructor
      · rintro ⟨hne, e', he', e4, e5⟩
        refine ⟨e', he', e4, ?_⟩
        have : e'.born ≠ e.born := fun q => by
          obtain ⟨i, hi, rfl⟩ := List.getElem_of_mem he'
          obtain ⟨j, hj, rfl⟩ := List.getElem_of_mem hem
          have hq : (es.toList.map MapEntry.born)[i]'(by simpa using hi) = (es.toList.map MapEntry.born)[j]'(by simpa using hj) := by simpa using q
          have hij := (List.getElem_inj hs.2.1).1 hq
          subst hij
          exact hne (K.inj _ _ (e4.symm.trans e1))
        simp at e5 ⊢
        exact ⟨e5, this⟩
      · rintro ⟨e', he', e4, e5⟩
        simp at e5
        refine ⟨fun q => ?_, e', he', e4, by simpa using e5.1⟩
        subst q
        have : e' = e := key_nodup hs he' hem (e4.trans e1.symm)
        exact e5.2 (by rw [this])
    · have := run_entry_at (P := P) w2 r b since seen es clock e (g2.trans hr') (g1.trans hb') hem hs.2.1
      rw [e1, e2] at this
      exact this

end

end Go.Proofs.YtpffpofdceppiaaGreatDoor
