/- Joined texts of the proof, part 4: Mem3, F53, F28, F72, F41, F81, F66, F82, F68, F52, WIdx, Mem4, Model2, F56. -/
import Derived.Test.YtbacmadoenicnaaQ03
set_option maxRecDepth 2000
set_option linter.unusedVariables false
set_option linter.unusedSimpArgs false
set_option linter.unusedSectionVars false
/- Maps with integer keys of the call's own. -/
namespace Go.Pl
set_option linter.unusedVariables false
/-- An object that is a map with these entries, in this order of their making. -/
def MpO (m : List (Int × Value)) (o : Obj) : Prop := ∃ es clock, o = .map es clock ∧ es.toList.map (fun e => (e.key, e.val)) = m.map (fun p => (Value.int .i64 p.1, p.2)) ∧ (m.map Prod.fst).Nodup ∧
  (es.toList.map MapEntry.born).Nodup ∧ ∀ e ∈ es.toList, e.born < clock
theorem MpO.empty : MpO [] (.map #[] 0) := ⟨#[], 0, rfl, by simp, by simp, by simp, by simp⟩
def mget (m : List (Int × Value)) (k : Int) : Option Value := (m.find? (fun p => p.1 == k)).map Prod.snd
def mput (m : List (Int × Value)) (k : Int) (v : Value) : List (Int × Value) := if m.any (fun p => p.1 == k) then m.map (fun p => if p.1 = k then (k, v) else p) else m ++ [(k, v)]
def mdel (m : List (Int × Value)) (k : Int) : List (Int × Value) := m.filter (fun p => !(p.1 == k))
theorem findNow_spec (q : IntKind) (k : Int) : ∀ (m : List (Int × Value)) (es : List MapEntry) (i : Nat), es.map (fun e => (e.key, e.val)) = m.map (fun p => (Value.int .i64 p.1, p.2)) →
    Instr.findNow (.int q) (.int .i64 k) es i = some ((m.findIdx? (fun p => p.1 == k)).bind fun j => (m[j]?).map fun p => (i + j, p.2))
  | [], [], i, _ => by simp [Instr.findNow]
  | [], e :: es, i, h => by simp at h
  | p :: m, [], i, h => by simp at h
  | p :: m, e :: es, i, h => by
    simp only [List.map_cons, List.cons.injEq, Prod.mk.injEq] at h
    obtain ⟨⟨hk, hv⟩, ht⟩ := h
    simp only [Instr.findNow, hk, Instr.sameNow, if_true]
    by_cases e0 : p.1 = k
    · have h1 : (k == p.1) = true := by simp [e0]
      have h2 : (p.1 == k) = true := by simp [e0]
      simp [h1, List.findIdx?_cons, h2, hv]
    · have h1 : (k == p.1) = false := by simp; exact fun e => e0 e.symm
      have h2 : (p.1 == k) = false := by simp [e0]
      simp only [h1]
      rw [findNow_spec q k m es (i + 1) ht]
      simp only [List.findIdx?_cons, h2]
      cases m.findIdx? (fun p => p.1 == k) with
      | none => simp
      | some j => simp [Nat.add_assoc, Nat.add_comm 1 j]
theorem checkKey_run {P : Program} {t : TypeId} {q : IntKind} (ht : P.underlying t = some (.int q)) (b : Bool) (k : Int) (w : World) : (Instr.checkKey b 10000 t (.int .i64 k)).run P w = .ok () w := by
  have e : (10000 : Nat) = Nat.succ 9999 := rfl
  rw [e, Instr.checkKey]
  simp only [Sem.run_bind, run_und w ht, Result.andThen_ok]
  rfl
theorem findKey_run {P : Program} {t : TypeId} {q : IntKind} (ht : P.underlying t = some (.int q)) {m : List (Int × Value)} {es : List MapEntry} (h : es.map (fun e => (e.key, e.val)) = m.map (fun p => (Value.int .i64 p.1, p.2))) (k : Int) (w : World) :
    (Instr.findKey t (.int .i64 k) es).run P w = .ok ((m.findIdx? (fun p => p.1 == k)).bind fun j => (m[j]?).map fun p => (j, p.2)) w := by
  unfold Instr.findKey
  simp only [Sem.run_bind, run_und w ht, Result.andThen_ok]
  rw [findNow_spec q k m es 0 h]
  simp
theorem idx_cases (k : Int) : ∀ (m : List (Int × Value)), (∃ j v, m.findIdx? (fun p => p.1 == k) = some j ∧ m[j]? = some (k, v) ∧ mget m k = some v) ∨
    (m.findIdx? (fun p => p.1 == k) = none ∧ mget m k = none ∧ ∀ p ∈ m, p.1 ≠ k)
  | [] => .inr ⟨by simp, by simp [mget], by simp⟩
  | (a, u) :: m => by
    by_cases e : a = k
    · subst e
      exact .inl ⟨0, u, by simp [List.findIdx?_cons], by simp, by simp [mget]⟩
    · have e1 : (a == k) = false := by simp [e]
      rcases idx_cases k m with ⟨j, v, h1, h2, h3⟩ | ⟨h1, h2, h3⟩
      · refine .inl ⟨j + 1, v, ?_, by simpa using h2, ?_⟩
        · simp [List.findIdx?_cons, e1, h1]
        · simpa [mget, List.find?_cons, e1] using h3
      · refine .inr ⟨?_, ?_, ?_⟩
        · simp [List.findIdx?_cons, e1, h1]
        · simpa [mget, List.find?_cons, e1] using h2
        · intro p hp
          rcases List.mem_cons.1 hp with rfl | hp
          · exact e
          · exact h3 p hp
/-- A map type by the table: integer keys. -/
def mpT (P : Program) (t e : Nat) : Bool :=
  match P.underlying t with
  | some (.map k e') => Nat.beq e e' && (match P.underlying k with | some (.int .i64) => true | _ => false)
  | _ => false
theorem mpT_inv {P : Program} {t e : Nat} (h : mpT P t e = true) : ∃ k, P.underlying t = some (.map k e) ∧ P.underlying k = some (.int .i64) := by
  unfold mpT at h
  split at h
  · rename_i k e' hu
    simp only [Bool.and_eq_true] at h
    obtain ⟨h1, h2⟩ := h
    have he := Nat.eq_of_beq_eq_true h1
    subst he
    split at h2
    · rename_i hk; exact ⟨k, hu, hk⟩
    · cases h2
  · cases h
theorem getObj_run {P : Program} {w : World} {b : Nat} {es : Array MapEntry} {c : Nat} (h : w.heap[b]? = some (.map es c)) : (getObj b).run P w = .ok (.map es c) w := by
  simp [getObj, Sem.run, h]
theorem zero_run {P : Program} {e : TypeId} {z : Value} (h : zeroOf P e = some z) (w : World) : (zeroValue e).run P w = .ok z w := by
  unfold zeroOf at h
  split at h
  · rename_i i hi; simp [zeroValue, typeInfo, hi, h]
  · cases h
section
variable {P : Program} {w0 w : World} {L : List (Nat × Obj)}
theorem look_run {t e : Nat} (hT : mpT P t e = true) {z : Value} (hz : zeroOf P e = some z) {b : Nat} {o : Obj} {m : List (Int × Value)} (hm : MpO m o) (hb : w.heap[b]? = some o) (k : Int) (ok : Bool) :
    (Instr.lookup t (.map (some b)) (.int .i64 k) ok).run P w = .ok (if ok then .tuple ⟨[(mget m k).getD z, .bool (mget m k).isSome]⟩ else (mget m k).getD z) w := by
  obtain ⟨kt, ht, hk⟩ := mpT_inv hT
  obtain ⟨es, c, rfl, he, hnd, hbn, hcl⟩ := hm
  unfold Instr.lookup
  simp only [Sem.run_bind, run_und w ht, Result.andThen_ok, getObj_run hb, Sem.run_pure, checkKey_run hk, findKey_run hk he]
  rcases idx_cases k m with ⟨j, v, h1, h2, h3⟩ | ⟨h1, h2, h3⟩
  · simp only [h1, h2, h3, Option.bind_some, Option.map_some]
    cases ok <;> simp
  · simp only [h1, h2, Option.bind_none, Sem.run_bind, zero_run hz, Result.andThen_ok, Sem.run_pure]
    cases ok <;> simp
theorem look_nil {t e : Nat} (hT : mpT P t e = true) {z : Value} (hz : zeroOf P e = some z) (k : Int) (ok : Bool) (w : World) :
    (Instr.lookup t (.map none) (.int .i64 k) ok).run P w = .ok (if ok then .tuple ⟨[z, .bool false]⟩ else z) w := by
  obtain ⟨kt, ht, hk⟩ := mpT_inv hT
  unfold Instr.lookup
  simp only [Sem.run_bind, run_und w ht, Result.andThen_ok, Sem.run_pure, checkKey_run hk, findKey_run hk (m := []) (es := (#[] : Array MapEntry).toList) (by simp)]
  simp only [List.findIdx?_nil, Option.bind_none, Sem.run_bind, zero_run hz, Result.andThen_ok, Sem.run_pure]
theorem setObj_run {b : Nat} {es : Array MapEntry} {c : Nat} (h : w.heap[b]? = some (.map es c)) (o' : Obj) :
    ∃ w', (setObj b o').run P w = .ok () w' ∧ w'.heap.size = w.heap.size ∧ w'.heap[b]? = some o' ∧ (∀ k, k ≠ b → w'.heap[k]? = w.heap[k]?) ∧ w'.os = w.os ∧ w'.output = w.output := by
  have hlt := (Array.getElem?_eq_some_iff.1 h).1
  refine ⟨{ w with heap := w.heap.setIfInBounds b o' }, by simp [setObj, Sem.run, h], by simp, by simp [hlt], fun k hk => ?_, rfl, rfl⟩
  simp [Array.getElem?_setIfInBounds_ne (Ne.symm hk)]
theorem sameBits_int (k : Int) : Instr.sameBits 10000 (.int .i64 k) (.int .i64 k) = true := by
  have e : (10000 : Nat) = Nat.succ 9999 := rfl
  rw [e, Instr.sameBits]
  simp
theorem mput_keys (m : List (Int × Value)) (k : Int) (v : Value) (h : m.any (fun p => p.1 == k) = true) : (mput m k v).map Prod.fst = m.map Prod.fst := by
  unfold mput
  rw [if_pos h, List.map_map]
  apply List.map_congr_left
  intro p _
  simp only [Function.comp]
  split <;> simp_all
/-- A store into a map of the call's own. -/
theorem upd_run {t e : Nat} (hT : mpT P t e = true) (h : Hp w0 w L) (i : Nat) {b : Nat} {o : Obj} {m : List (Int × Value)} (hi : L[i]? = some (b, o)) (hm : MpO m o) (k : Int) (v : Value) :
    ∃ w' o', (Instr.mapUpdate t (.map (some b)) (.int .i64 k) v).run P w = .ok () w' ∧ MpO (mput m k v) o' ∧ Hp w0 w' (L.set i (b, o')) := by
  obtain ⟨kt, ht, hk⟩ := mpT_inv hT
  have hb := h.at i hi
  obtain ⟨es, c, rfl, he, hnd, hbn, hcl⟩ := hm
  unfold Instr.mapUpdate
  rcases idx_cases k m with ⟨j, u, h1, h2, h3⟩ | ⟨h1, h2, h3⟩
  · have hany : m.any (fun p => p.1 == k) = true := List.any_eq_true.2 ⟨_, List.mem_of_getElem? h2, by simp⟩
    obtain ⟨w', hr, hs, hb', ho⟩ := setObj_run (P := P) hb (.map (es.modify j fun e => { e with key := .int .i64 k, val := v }) c)
    have hlen : es.toList.length = m.length := by simpa using congrArg List.length he
    have hjm := (List.getElem?_eq_some_iff.1 h2).1
    have hje : j < es.toList.length := by omega
    have hkey : (((es[j]?).map (·.key)).getD (.int .i64 k)) = .int .i64 k := by
      have := congrArg (fun l => l[j]?) he
      simp only [List.getElem?_map, h2, Option.map_some] at this
      rw [← Array.getElem?_toList]
      cases hx : es.toList[j]? with
      | none => rw [hx] at this; cases this
      | some x => rw [hx] at this; simp only [Option.map_some, Option.some.injEq, Prod.mk.injEq] at this; simp [this.1]
    refine ⟨w', _, ?_, ⟨_, c, rfl, ?_, ?_, ?_, ?_⟩, h.turn i hi hs hb' ho⟩
    · simp only [Sem.run_bind, run_und w ht, Result.andThen_ok, getObj_run hb, checkKey_run hk, findKey_run hk he, h1, h2, Option.bind_some, Option.map_some, Instr.keyThatStays, hkey, sameBits_int, if_true, Sem.run_pure]
      exact hr
    · apply List.ext_getElem?
      intro x
      have hx := congrArg (fun l => l[x]?) he
      simp only [List.getElem?_map] at hx ⊢
      rw [mput, if_pos hany, List.getElem?_map, Array.getElem?_toList, Array.getElem?_modify, ← Array.getElem?_toList]
      by_cases hxj : j = x
      · subst hxj
        rw [if_pos rfl, h2]
        have : es.toList[j]? = some es.toList[j] := List.getElem?_eq_getElem hje
        rw [this]
        simp
      · rw [if_neg hxj, hx]
        cases hmx : m[x]? with
        | none => rfl
        | some p =>
          have hpk : p.1 ≠ k := by
            intro e
            have hpw := List.pairwise_iff_getElem.1 hnd
            have hxl := (List.getElem?_eq_some_iff.1 hmx).1
            have e1 : (m.map Prod.fst)[j]'(by simpa using hjm) = k := by rw [List.getElem_map, (List.getElem?_eq_some_iff.1 h2).2]
            have e2 : (m.map Prod.fst)[x]'(by simpa using hxl) = k := by rw [List.getElem_map, (List.getElem?_eq_some_iff.1 hmx).2, e]
            rcases Nat.lt_or_gt_of_ne hxj with hlt | hgt
            · exact hpw j x (by simpa using hjm) (by simpa using hxl) hlt (by rw [e1, e2])
            · exact hpw x j (by simpa using hxl) (by simpa using hjm) hgt (by rw [e1, e2])
          simp [hpk]
    · rw [mput_keys m k v hany]; exact hnd
    · have : (es.modify j fun e => { e with key := Value.int .i64 k, val := v }).toList.map MapEntry.born = es.toList.map MapEntry.born := by
        apply List.ext_getElem?
        intro x
        simp only [List.getElem?_map, Array.getElem?_toList, Array.getElem?_modify]
        split
        · cases es[x]? <;> simp
        · rfl
      rw [this]; exact hbn
    · intro x hx
      obtain ⟨y, hy⟩ := List.mem_iff_getElem?.1 hx
      rw [Array.getElem?_toList, Array.getElem?_modify] at hy
      split at hy
      · cases hz : es[y]? with
        | none => rw [hz] at hy; cases hy
        | some z =>
          rw [hz] at hy
          simp only [Option.map_some, Option.some.injEq] at hy
          subst hy
          exact hcl z (List.mem_of_getElem? (by rw [Array.getElem?_toList]; exact hz))
      · exact hcl x (List.mem_of_getElem? (by rw [Array.getElem?_toList]; exact hy))
  · have hany : ¬ m.any (fun p => p.1 == k) = true := by
      intro ha
      obtain ⟨p, hp, hpk⟩ := List.any_eq_true.1 ha
      exact h3 p hp (by simpa using hpk)
    obtain ⟨w', hr, hs, hb', ho⟩ := setObj_run (P := P) hb (.map (es.push { key := .int .i64 k, val := v, born := c }) (c + 1))
    refine ⟨w', _, ?_, ⟨_, c + 1, rfl, ?_, ?_, ?_, ?_⟩, h.turn i hi hs hb' ho⟩
    · simp only [Sem.run_bind, run_und w ht, Result.andThen_ok, getObj_run hb, checkKey_run hk, findKey_run hk he, h1, Option.bind_none]
      exact hr
    · simp [mput, hany, he]
    · rw [mput, if_neg hany, List.map_append, List.nodup_append]
      refine ⟨hnd, by simp, ?_⟩
      intro x hx y hy e
      obtain ⟨p, hp, rfl⟩ := List.mem_map.1 hx
      simp at hy
      exact h3 p hp (by rw [e, hy])
    · rw [Array.toList_push, List.map_append, List.nodup_append]
      refine ⟨hbn, by simp, ?_⟩
      intro x hx y hy e
      obtain ⟨p, hp, rfl⟩ := List.mem_map.1 hx
      simp at hy
      have := hcl p hp
      omega
    · intro x hx
      rw [Array.toList_push] at hx
      rcases List.mem_append.1 hx with hx | hx
      · have := hcl x hx; omega
      · simp at hx; subst hx; simp
theorem mlen_run {t e ty : Nat} (hT : mpT P t e = true) {b : Nat} {o : Obj} {m : List (Int × Value)} (hm : MpO m o) (hb : w.heap[b]? = some o) :
    (Builtin.len_ #[t] ty ⟨[.map (some b)]⟩).run P w = .ok (.int .i64 (m.length : Nat)) w := by
  obtain ⟨kt, ht, hk⟩ := mpT_inv hT
  obtain ⟨es, c, rfl, he, hnd, hbn, hcl⟩ := hm
  have hl : es.size = m.length := by simpa using congrArg List.length he
  simp [Builtin.len_, run_und w ht, getObj_run hb, goInt, hl]
/-! ### going through a map -/
/-- Of a map that is gone through, what is still to come. -/
def Rg (b : Nat) (m left : List (Int × Value)) (om oi : Obj) : Prop := ∃ es clock seen, om = .map es clock ∧ MpO m om ∧ oi = .mapIter (some b) clock seen clock ∧
  ((es.toList.filter fun e => !seen.contains e.born).map fun e => (e.key, e.val)).Perm (left.map fun p => (Value.int .i64 p.1, p.2))
theorem Rg.mp {b : Nat} {m left : List (Int × Value)} {om oi : Obj} (h : Rg b m left om oi) : MpO m om := let ⟨_, _, _, _, h, _⟩ := h; h
theorem range_run {t e : Nat} (hT : mpT P t e = true) (h : Hp w0 w L) {b : Nat} {o : Obj} {m : List (Int × Value)} (hb : w.heap[b]? = some o) (hm : MpO m o) :
    ∃ r w' oi, (Instr.range t (.map (some b))).run P w = .ok (.pointer (some ⟨r, 0, none⟩)) w' ∧ Hp w0 w' ((r, oi) :: L) ∧ Rg b m m o oi ∧ Ext w w' := by
  obtain ⟨kt, ht, hk⟩ := mpT_inv hT
  have hm' := hm
  obtain ⟨es, c, rfl, he, hnd, hbn, hcl⟩ := hm
  refine ⟨w.heap.size, w.alloc (.mapIter (some b) c #[] c), .mapIter (some b) c #[] c, ?_, h.al _, ⟨es, c, #[], rfl, hm', rfl, ?_⟩, ext_alloc w _⟩
  · unfold Instr.range
    simp only [Sem.run_bind, run_und w ht, Result.andThen_ok, getObj_run hb, Sem.run_pure]
    rfl
  · have : (es.toList.filter fun e => !(#[] : Array Nat).contains e.born) = es.toList := by simp
    rw [this, he]
theorem perm_map_inv {α β : Type} (f : α → β) (hf : ∀ x y, f x = f y → x = y) : ∀ {l1 l2 : List α}, (l1.map f).Perm (l2.map f) → l1.Perm l2 := by
  intro l1
  induction l1 with
  | nil => intro l2 h; have := h.length_eq; simp at this; rw [List.length_eq_zero_iff.1 this.symm]
  | cons x l1 ih =>
    intro l2 h
    have hx : f x ∈ l2.map f := h.subset (by simp)
    obtain ⟨y, hy, e⟩ := List.mem_map.1 hx
    have := hf _ _ e
    subst this
    obtain ⟨a, b, rfl⟩ := List.append_of_mem hy
    have h2 : (l1.map f).Perm ((a ++ b).map f) := by
      have : ((a ++ y :: b).map f).Perm (f y :: (a ++ b).map f) := by simp
      have h3 := h.trans this
      simp only [List.map_cons] at h3
      exact (List.perm_cons _).1 h3
    exact ((ih h2).cons y).trans List.perm_middle.symm
theorem choose_next {P : Program} (n : Nat) (h : 1 ≤ n) (w : World) : ∃ i w1, i < n ∧ w1.heap = w.heap ∧ (w1.os = w.os ∧ w1.output = w.output) ∧ (n = 1 → w1 = w) ∧ (choose (.mapNext n)).run P w = .ok i w1 := by
  by_cases h1 : n ≤ 1
  · have : n = 1 := by omega
    subst this
    exact ⟨0, w, by omega, rfl, ⟨rfl, rfl⟩, fun _ => rfl, by simp [choose, Sem.run, Question.forced]⟩
  · refine ⟨(w.tape w.drawn (.mapNext n)) % n, { w with drawn := w.drawn + 1 }, Nat.mod_lt _ (by omega), rfl, ⟨rfl, rfl⟩, fun e => absurd e (by omega), ?_⟩
    simp [choose, Sem.run, Question.forced, h1, Question.cut]
theorem born_filter {l : List MapEntry} (hn : (l.map MapEntry.born).Nodup) {e : MapEntry} (he : e ∈ l) : l.Perm (e :: l.filter fun x => !(x.born == e.born)) := by
  induction l with
  | nil => cases he
  | cons a l ih =>
    simp only [List.map_cons, List.nodup_cons] at hn
    rcases List.mem_cons.1 he with rfl | he
    · have : (l.filter fun x => !(x.born == e.born)) = l := by
        apply List.filter_eq_self.2
        intro x hx
        simp only [Bool.not_eq_true', beq_eq_false_iff_ne]
        intro e1
        exact hn.1 (by rw [← e1]; exact List.mem_map_of_mem hx)
      simp [List.filter_cons, this]
    · have hne : a.born ≠ e.born := fun e1 => hn.1 (by rw [e1]; exact List.mem_map_of_mem he)
      have h1 : (!(a.born == e.born)) = true := by simp [hne]
      rw [List.filter_cons_of_pos (by simpa using h1)]
      exact ((ih hn.2 he).cons a).trans (List.Perm.swap _ _ _)
theorem born_find {l : List MapEntry} (hn : (l.map MapEntry.born).Nodup) {e : MapEntry} (he : e ∈ l) : l.find? (fun x => x.born == e.born) = some e := by
  induction l with
  | nil => cases he
  | cons a l ih =>
    simp only [List.map_cons, List.nodup_cons] at hn
    rcases List.mem_cons.1 he with rfl | he
    · simp
    · have hne : a.born ≠ e.born := fun e1 => hn.1 (by rw [e1]; exact List.mem_map_of_mem he)
      have h1 : (a.born == e.born) = false := by simp [hne]
      rw [List.find?_cons, h1]
      exact ih hn.2 he
theorem kv_inj (x y : Int × Value) (h : ((Value.int .i64 x.1, x.2) : Value × Value) = (Value.int .i64 y.1, y.2)) : x = y := by
  obtain ⟨a, b⟩ := x
  obtain ⟨c, d⟩ := y
  simp only [Prod.mk.injEq, Value.int.injEq, true_and] at h
  simp [h.1, h.2]
/-- A step: nothing is left, or something comes. -/
theorem next_run {ty : Nat} (h : Hp w0 w L) (i : Nat) {r b : Nat} {om oi : Obj} (hi : L[i]? = some (r, oi)) (hb : w.heap[b]? = some om) (hrb : r ≠ b) {m left : List (Int × Value)} (hr : Rg b m left om oi) :
    (left = [] ∧ (Instr.next (.pointer (some ⟨r, 0, none⟩)) false ty).run P w = .ok (.tuple ⟨[.bool false]⟩) w) ∨
    ∃ k v left' w' oi', left.Perm ((k, v) :: left') ∧ (Instr.next (.pointer (some ⟨r, 0, none⟩)) false ty).run P w = .ok (.tuple ⟨[.bool true, .int .i64 k, v]⟩) w' ∧ Hp w0 w' (L.set i (r, oi')) ∧ Rg b m left' om oi' ∧ (k, v) ∈ m ∧
      (Instr.entry (.pointer (some ⟨r, 0, none⟩))).run P w' = .ok (.tuple ⟨[.int .i64 k, v]⟩) w' ∧ w'.heap.size = w.heap.size ∧ ∀ b, b ≠ r → w'.heap[b]? = w.heap[b]? := by
  have hm := hr.mp
  obtain ⟨es, c, seen, rfl, -, rfl, hperm⟩ := hr
  have hm' := hm
  obtain ⟨es', c', he', he, hnd, hbn, hcl⟩ := hm
  cases he'
  have hit := h.at i hi
  have hget : (getObj r).run P w = .ok (.mapIter (some b) c seen c) w := by simp [getObj, Sem.run, hit]
  have hgm := getObj_run (P := P) hb
  have hchk : (!seen.isEmpty && !es.isEmpty && es.all (fun x => decide (x.born ≥ c))) = false := by
    cases hes : es.isEmpty with
    | true => simp
    | false =>
      have : es.all (fun x => decide (x.born ≥ c)) = false := by
        rw [Array.all_eq_false]
        have hp : 0 < es.size := by
          rcases Nat.eq_zero_or_pos es.size with h0 | h0
          · rw [Array.isEmpty_iff_size_eq_zero.2 h0] at hes; cases hes
          · exact h0
        refine ⟨0, hp, ?_⟩
        have := hcl es[0] (by simp)
        simp only [decide_eq_true_eq, ge_iff_le]
        omega
      simp [this]
  have hold : (es.filter fun e => !seen.contains e.born).filter (fun e => decide (e.born < c)) = es.filter fun e => !seen.contains e.born := by
    rw [Array.filter_eq_self]
    intro x hx
    have := hcl x (by simpa using (Array.mem_filter.1 hx).1)
    simpa using this
  have hnew : (es.filter fun e => !seen.contains e.born).filter (fun e => decide (e.born ≥ c)) = #[] := by
    rw [Array.filter_eq_empty_iff]
    intro x hx
    have := hcl x (by simpa using (Array.mem_filter.1 hx).1)
    simp only [decide_eq_true_eq, ge_iff_le]
    omega
  unfold Instr.next
  simp only [Sem.run_bind, Sem.run_pure, hget, Result.andThen_ok, hgm, hchk, Bool.false_eq_true, if_false]
  simp only [hold, hnew, Array.append_empty]
  generalize hl : (es.filter fun e => !seen.contains e.born) = l
  have hlt : l.toList = es.toList.filter fun e => !seen.contains e.born := by rw [← hl, Array.toList_filter]
  by_cases hle : l = #[]
  · subst hle
    left
    have h0 : left = [] := by
      rw [← hlt] at hperm
      have := hperm.length_eq
      simpa using this.symm
    refine ⟨h0, ?_⟩
    obtain ⟨i', w1, hi', -, -, hw1, hc⟩ := choose_next (P := P) 1 (Nat.le_refl _) w
    have : i' = 0 := by omega
    subst this
    rw [hw1 rfl] at hc
    simp [hc]
  · right
    have hsz : 1 ≤ l.size := by
      rcases Nat.eq_zero_or_pos l.size with h0 | h0
      · exact absurd (Array.eq_empty_of_size_eq_zero h0) hle
      · exact h0
    have hemp : l.isEmpty = false := by
      cases hq : l.isEmpty with
      | false => rfl
      | true => exact absurd (Array.isEmpty_iff.1 hq) hle
    obtain ⟨j, w1, hj, hw1, hw1q, -, hc⟩ := choose_next (P := P) l.size hsz w
    have hle' : l[j]? = some l[j] := Array.getElem?_eq_getElem hj
    generalize l[j] = e at hle'
    have heL : e ∈ l.toList := List.mem_of_getElem? (by rw [Array.getElem?_toList]; exact hle')
    have heE : e ∈ es.toList := by rw [hlt] at heL; exact (List.mem_filter.1 heL).1
    have hndL : (l.toList.map MapEntry.born).Nodup := by rw [hlt]; exact hbn.sublist (List.Sublist.map _ List.filter_sublist)
    have hmem : ((e.key, e.val) : Value × Value) ∈ left.map fun p => (Value.int .i64 p.1, p.2) := hperm.subset (by rw [← hlt]; exact List.mem_map.2 ⟨e, heL, rfl⟩)
    obtain ⟨⟨k, v⟩, hkv, hkve⟩ := List.mem_map.1 hmem
    simp only [Prod.mk.injEq] at hkve
    obtain ⟨hk, hv⟩ := hkve
    obtain ⟨A, B, hAB⟩ := List.append_of_mem hkv
    have hit1 : w1.heap[r]? = some (.mapIter (some b) c seen c) := by rw [hw1]; exact hit
    have hlt1 := (Array.getElem?_eq_some_iff.1 hit1).1
    let w2 : World := { w1 with heap := w1.heap.setIfInBounds r (.mapIter (some b) c (seen.push e.born) c) }
    have hset : (setObj r (.mapIter (some b) c (seen.push e.born) c)).run P w1 = .ok () w2 := by simp [setObj, Sem.run, hit1, w2]
    have h2r : w2.heap[r]? = some (.mapIter (some b) c (seen.push e.born) c) := by simp [w2, hlt1]
    have h2b : w2.heap[b]? = some (.map es c) := by simp only [w2]; rw [Array.getElem?_setIfInBounds_ne hrb, hw1]; exact hb
    have hkvm : (k, v) ∈ m := by
      have : ((e.key, e.val) : Value × Value) ∈ m.map fun p => (Value.int .i64 p.1, p.2) := by rw [← he]; exact List.mem_map.2 ⟨e, heE, rfl⟩
      obtain ⟨q, hq, hqe⟩ := List.mem_map.1 this
      rw [← hk, ← hv] at hqe
      rw [kv_inj q (k, v) hqe] at hq
      exact hq
    refine ⟨k, v, A ++ B, w2, .mapIter (some b) c (seen.push e.born) c, by rw [hAB]; exact List.perm_middle, ?_, ?_, ⟨es, c, seen.push e.born, rfl, hm', rfl, ?_⟩, hkvm, ?_, by simp [w2, hw1], fun k' hk' => by simp only [w2]; rw [Array.getElem?_setIfInBounds_ne (Ne.symm hk'), hw1]⟩
    · simp only [hemp, Bool.false_eq_true, if_false, Array.empty_append, Array.size_map, hc, Result.andThen_ok, Array.getElem?_map, hle', Option.map_some, Sem.run_bind, hset, Sem.run_pure, hk, hv]
    · exact h.turn i hi (by simp [w2, hw1]) h2r ⟨fun k' hk' => by simp only [w2]; rw [Array.getElem?_setIfInBounds_ne (Ne.symm hk'), hw1], hw1q⟩
    · have e1 : (es.toList.filter fun x => !(seen.push e.born).contains x.born) = l.toList.filter fun x => !(x.born == e.born) := by
        rw [hlt, List.filter_filter]
        apply List.filter_congr
        intro x _
        simp only [Array.contains_push, Bool.not_or]
        rw [Bool.and_comm, Bool.beq_comm]
      rw [e1]
      have p1 := (born_filter hndL heL).map fun e => (e.key, e.val)
      rw [← hlt] at hperm
      have p2 := p1.symm.trans hperm
      rw [hAB] at p2
      have p3 : (((k, v) :: (A ++ B)).map fun p : Int × Value => ((Value.int .i64 p.1, p.2) : Value × Value)).Perm ((A ++ (k, v) :: B).map fun p => (Value.int .i64 p.1, p.2)) := (List.perm_middle.symm).map _
      have p4 := p2.trans p3.symm
      simp only [List.map_cons, hk, hv] at p4
      exact (List.perm_cons _).1 p4
    · unfold Instr.entry
      have g1 : (getObj r).run P w2 = .ok (.mapIter (some b) c (seen.push e.born) c) w2 := by simp [getObj, Sem.run, h2r]
      have g2 := getObj_run (P := P) h2b
      have g3 : es.find? (fun x => x.born == e.born) = some e := by rw [← Array.find?_toList]; exact born_find hbn heE
      simp only [Sem.run_bind, Sem.run_pure, g1, Result.andThen_ok, Array.back?_push, g2, bne_self_eq_false, Bool.false_eq_true, if_false, g3, hk, hv]
/-- A nil map is gone through. -/
theorem range_nil {t e : Nat} (hT : mpT P t e = true) (h : Hp w0 w L) :
    ∃ r w' oi, (Instr.range t (.map none)).run P w = .ok (.pointer (some ⟨r, 0, none⟩)) w' ∧ Hp w0 w' ((r, oi) :: L) ∧ Ext w w' ∧ ∀ ty w'', w''.heap[r]? = some oi → (Instr.next (.pointer (some ⟨r, 0, none⟩)) false ty).run P w'' = .ok (.tuple ⟨[.bool false]⟩) w'' := by
  obtain ⟨kt, ht, hk⟩ := mpT_inv hT
  refine ⟨w.heap.size, w.alloc (.mapIter none 0 #[] 0), .mapIter none 0 #[] 0, ?_, h.al _, ext_alloc w _, ?_⟩
  · unfold Instr.range
    simp only [Sem.run_bind, run_und w ht, Result.andThen_ok, Sem.run_pure]
    rfl
  · intro ty w'' hw
    have g1 : (getObj w.heap.size).run P w'' = .ok (.mapIter none 0 #[] 0) w'' := by simp [getObj, Sem.run, hw]
    unfold Instr.next
    simp only [Sem.run_bind, Sem.run_pure, g1, Result.andThen_ok]
end
theorem CallP.mono {P : Program} {f : FuncId} {vs : List Value} {w : World} {K K' : Value → World → Prop} (h : CallP P f vs w K) (hk : ∀ v w', K v w' → K' v w') : CallP P f vs w K' :=
  Calls.mono h fun _ _ ⟨v, e, hv⟩ => ⟨v, e, hk v _ hv⟩
theorem CallV.mono {P : Program} {g : Value} {vs : List Value} {w : World} {K K' : Value → World → Prop} (h : CallV P g vs w K) (hk : ∀ v w', K v w' → K' v w') : CallV P g vs w K' := by
  unfold CallV at h ⊢
  split at h
  · exact ⟨h.1, h.2.mono hk⟩
  · exact h
theorem slice_nil {P : Program} {t e : TypeId} (hu : P.underlying t = some (.slice e)) (a : Option Addr) (n c : Nat) (w : World) : (Op.equal t (.slice a n c) (.slice none 0 0)).run P w = .ok a.isNone w := by
  unfold Op.equal
  have e : Op.maxDepth = Nat.succ 9999 := rfl
  rw [e, Op.equalIn]
  simp only [Sem.run_bind, run_und w hu, Result.andThen_ok]
  cases a <;> rfl
theorem eql_slice_nil {P : Program} {t e : TypeId} (hu : P.underlying t = some (.slice e)) (x y : Operand) (a : Option Addr) (n c : Nat) (w : World) :
    (do eqGuard .eql t x y (.slice a n c) (.slice none 0 0); binOp .eql t (.slice a n c) (.slice none 0 0) : Sem Value).run P w = .ok (.bool a.isNone) w := by
  have hg : (eqGuard .eql t x y (.slice a n c) (.slice none 0 0)).run P w = .ok () w := by unfold eqGuard; simp
  have hb : binOp .eql t (.slice a n c) (.slice none 0 0) = (do pure (.bool (← Op.equal t (.slice a n c) (.slice none 0 0)))) := rfl
  rw [hb]
  simp only [Sem.run_bind, hg, Result.andThen_ok, slice_nil hu, Sem.run_pure]
end Go.Pl

/- What 'slices.IndexFunc[[]palings/ssa.Ins,palings/ssa.Ins]' does, read off its translation by gen.py. -/
namespace Go.Pl.Try
set_option linter.unusedVariables false
set_option maxRecDepth 100000
def F53 (as1 : Option Addr) (ns1 cs1 : Nat) (f2 : Value) (w : World) (R : Value → World → Prop) : Prop :=
  ∃ J3 : Int → World → Nat → Prop, (∃ m6, J3 0 w m6) ∧
  ∀ (x4 : Int), ∀ w5 m6, J3 x4 w5 m6 →
  sp (decide ((x4 : Int) < (ns1 : Nat)))
  (0 ≤ (x4 : Int) ∧ (x4 : Int) < (ns1 : Nat) ∧
  ptAt as1 fun b8 o9 =>
  ∃ (x10 : Int) (x11 : Int) (ax12 : Option Addr) (nx12 cx12 : Nat) (x13 : Int) (x14 : Int) (x15 : Int) (x16 : Int), Row w5 b8 (o9 + x4.toNat * 7) [.int .i64 x10, .int .i64 x11, .slice ax12 nx12 cx12, .int .i64 x13, .int .i64 x14, .int .i64 x15, .int .i64 x16] ∧
  CallV Pg (f2) [.agg ⟨[.int .i64 x10, .int .i64 x11, .slice ax12 nx12 cx12, .int .i64 x13, .int .i64 x14, .int .i64 x15, .int .i64 x16]⟩] w5 fun v17 w18 => ∃ (x19 : Bool), v17 = .bool x19 ∧
  sp x19
  (R (.int .i64 x4) w18)
  (∃ m7, m7 < m6 ∧ J3 (IntKind.wrap .i64 (x4 + 1)) w18 m7))
  (R (.int .i64 (-1)) w5)
def T53 : List Sh := [.v (.one .sl), .v (.one .any), .v (.one .any), .v (.one .any), .v (.one (.int .i64)), .v (.one (.int .i64)), .v (.one .sl), .v (.one (.int .i64)), .v (.one (.int .i64)), .v (.one .bool), .v (.one (.int .i64)), .v (.one .any), .v (.one .sl), .v (.one (.int .i64)), .v (.one .ptr), .v (.agg [(.int .i64), (.int .i64), .sl, (.int .i64), (.int .i64), (.int .i64), (.int .i64)]), .v (.one .bool), .v (.one (.int .i64)), .v (.one (.int .i64))]
def A53 : Ann := (.seq none .z (.seq none (.seq none .z (.block none (.loop [8] (.seq none .z (.seq none (.cond .z .z) (.seq none (.block none (.seq none .z (.seq none .z (.cond (.seq none .z .z) .z)))) .z)))))) (.seq none .z .z)))
theorem F53_eq (as1 : Option Addr) (ns1 cs1 : Nat) (f2 : Value) (w : World) (R : Value → World → Prop) : F53 as1 ns1 cs1 f2 w R = denF Go.Proofs.Try.prog T53 Go.Proofs.Try.f53 A53 [.slice as1 ns1 cs1, f2] w R := by kernel_rfl
theorem F53_ok (as1 : Option Addr) (ns1 cs1 : Nat) (f2 : Value) {w : World} {R : Value → World → Prop} (h : F53 as1 ns1 cs1 f2 w R) : CallP Go.Proofs.Try.prog 53 [.slice as1 ns1 cs1, f2] w R :=
  calls_den (fun _ => drawn (by kernel_rfl)) Go.Proofs.Try.func53 (Nat.le_of_ble_eq_true (by kernel_rfl)) ((F53_eq as1 ns1 cs1 f2 w R).mp h)
end Go.Pl.Try

/- What 'slices.ContainsFunc[[]palings/ssa.Ins,palings/ssa.Ins]' does, read off its translation by gen.py. -/
namespace Go.Pl.Try
set_option linter.unusedVariables false
set_option maxRecDepth 100000
def F28 (as1 : Option Addr) (ns1 cs1 : Nat) (f2 : Value) (w : World) (R : Value → World → Prop) : Prop :=
  CallP Pg 53 [.slice as1 ns1 cs1, f2] w fun v3 w4 => ∃ (x5 : Int), v3 = .int .i64 x5 ∧
  R (.bool (decide ((0 : Int) ≤ x5))) w4
def T28 : List Sh := [.v (.one .sl), .v (.one .any), .v (.one .any), .v (.one .any), .v (.one .bool), .v (.one .sl), .v (.one .any), .v (.one (.int .i64)), .v (.one .bool)]
def A28 : Ann := (.seq none .z (.seq none .z .z))
theorem F28_eq (as1 : Option Addr) (ns1 cs1 : Nat) (f2 : Value) (w : World) (R : Value → World → Prop) : F28 as1 ns1 cs1 f2 w R = denF Go.Proofs.Try.prog T28 Go.Proofs.Try.f28 A28 [.slice as1 ns1 cs1, f2] w R := by kernel_rfl
theorem F28_ok (as1 : Option Addr) (ns1 cs1 : Nat) (f2 : Value) {w : World} {R : Value → World → Prop} (h : F28 as1 ns1 cs1 f2 w R) : CallP Go.Proofs.Try.prog 28 [.slice as1 ns1 cs1, f2] w R :=
  calls_den (fun _ => drawn (by kernel_rfl)) Go.Proofs.Try.func28 (Nat.le_of_ble_eq_true (by kernel_rfl)) ((F28_eq as1 ns1 cs1 f2 w R).mp h)
end Go.Pl.Try

/- What 'slices.IndexFunc[[]int,int]' does, read off its translation by gen.py. -/
namespace Go.Pl.Try
set_option linter.unusedVariables false
set_option maxRecDepth 100000
def F72 (as1 : Option Addr) (ns1 cs1 : Nat) (f2 : Value) (w : World) (R : Value → World → Prop) : Prop :=
  ∃ J3 : Int → World → Nat → Prop, (∃ m6, J3 0 w m6) ∧
  ∀ (x4 : Int), ∀ w5 m6, J3 x4 w5 m6 →
  sp (decide ((x4 : Int) < (ns1 : Nat)))
  (0 ≤ (x4 : Int) ∧ (x4 : Int) < (ns1 : Nat) ∧
  ptAt as1 fun b8 o9 =>
  ∃ (x10 : Int), cel w5 b8 (o9 + x4.toNat * 1) = some (.int .i64 x10) ∧
  CallV Pg (f2) [.int .i64 x10] w5 fun v11 w12 => ∃ (x13 : Bool), v11 = .bool x13 ∧
  sp x13
  (R (.int .i64 x4) w12)
  (∃ m7, m7 < m6 ∧ J3 (IntKind.wrap .i64 (x4 + 1)) w12 m7))
  (R (.int .i64 (-1)) w5)
def T72 : List Sh := [.v (.one .sl), .v (.one .any), .v (.one .any), .v (.one .any), .v (.one (.int .i64)), .v (.one (.int .i64)), .v (.one .sl), .v (.one (.int .i64)), .v (.one (.int .i64)), .v (.one .bool), .v (.one (.int .i64)), .v (.one .any), .v (.one .sl), .v (.one (.int .i64)), .v (.one .ptr), .v (.one (.int .i64)), .v (.one .bool), .v (.one (.int .i64)), .v (.one (.int .i64))]
def A72 : Ann := (.seq none .z (.seq none (.seq none .z (.block none (.loop [8] (.seq none .z (.seq none (.cond .z .z) (.seq none (.block none (.seq none .z (.seq none .z (.cond (.seq none .z .z) .z)))) .z)))))) (.seq none .z .z)))
theorem F72_eq (as1 : Option Addr) (ns1 cs1 : Nat) (f2 : Value) (w : World) (R : Value → World → Prop) : F72 as1 ns1 cs1 f2 w R = denF Go.Proofs.Try.prog T72 Go.Proofs.Try.f72 A72 [.slice as1 ns1 cs1, f2] w R := by kernel_rfl
theorem F72_ok (as1 : Option Addr) (ns1 cs1 : Nat) (f2 : Value) {w : World} {R : Value → World → Prop} (h : F72 as1 ns1 cs1 f2 w R) : CallP Go.Proofs.Try.prog 72 [.slice as1 ns1 cs1, f2] w R :=
  calls_den (fun _ => drawn (by kernel_rfl)) Go.Proofs.Try.func72 (Nat.le_of_ble_eq_true (by kernel_rfl)) ((F72_eq as1 ns1 cs1 f2 w R).mp h)
end Go.Pl.Try

/- What 'slices.ContainsFunc[[]int,int]' does, read off its translation by gen.py. -/
namespace Go.Pl.Try
set_option linter.unusedVariables false
set_option maxRecDepth 100000
def F41 (as1 : Option Addr) (ns1 cs1 : Nat) (f2 : Value) (w : World) (R : Value → World → Prop) : Prop :=
  CallP Pg 72 [.slice as1 ns1 cs1, f2] w fun v3 w4 => ∃ (x5 : Int), v3 = .int .i64 x5 ∧
  R (.bool (decide ((0 : Int) ≤ x5))) w4
def T41 : List Sh := [.v (.one .sl), .v (.one .any), .v (.one .any), .v (.one .any), .v (.one .bool), .v (.one .sl), .v (.one .any), .v (.one (.int .i64)), .v (.one .bool)]
def A41 : Ann := (.seq none .z (.seq none .z .z))
theorem F41_eq (as1 : Option Addr) (ns1 cs1 : Nat) (f2 : Value) (w : World) (R : Value → World → Prop) : F41 as1 ns1 cs1 f2 w R = denF Go.Proofs.Try.prog T41 Go.Proofs.Try.f41 A41 [.slice as1 ns1 cs1, f2] w R := by kernel_rfl
theorem F41_ok (as1 : Option Addr) (ns1 cs1 : Nat) (f2 : Value) {w : World} {R : Value → World → Prop} (h : F41 as1 ns1 cs1 f2 w R) : CallP Go.Proofs.Try.prog 41 [.slice as1 ns1 cs1, f2] w R :=
  calls_den (fun _ => drawn (by kernel_rfl)) Go.Proofs.Try.func41 (Nat.le_of_ble_eq_true (by kernel_rfl)) ((F41_eq as1 ns1 cs1 f2 w R).mp h)
end Go.Pl.Try

/- What 'slices.IndexFunc[[]int64,int64]' does, read off its translation by gen.py. -/
namespace Go.Pl.Try
set_option linter.unusedVariables false
set_option maxRecDepth 100000
def F81 (as1 : Option Addr) (ns1 cs1 : Nat) (f2 : Value) (w : World) (R : Value → World → Prop) : Prop :=
  ∃ J3 : Int → World → Nat → Prop, (∃ m6, J3 0 w m6) ∧
  ∀ (x4 : Int), ∀ w5 m6, J3 x4 w5 m6 →
  sp (decide ((x4 : Int) < (ns1 : Nat)))
  (0 ≤ (x4 : Int) ∧ (x4 : Int) < (ns1 : Nat) ∧
  ptAt as1 fun b8 o9 =>
  ∃ (x10 : Int), cel w5 b8 (o9 + x4.toNat * 1) = some (.int .i64 x10) ∧
  CallV Pg (f2) [.int .i64 x10] w5 fun v11 w12 => ∃ (x13 : Bool), v11 = .bool x13 ∧
  sp x13
  (R (.int .i64 x4) w12)
  (∃ m7, m7 < m6 ∧ J3 (IntKind.wrap .i64 (x4 + 1)) w12 m7))
  (R (.int .i64 (-1)) w5)
def T81 : List Sh := [.v (.one .sl), .v (.one .any), .v (.one .any), .v (.one .any), .v (.one (.int .i64)), .v (.one (.int .i64)), .v (.one .sl), .v (.one (.int .i64)), .v (.one (.int .i64)), .v (.one .bool), .v (.one (.int .i64)), .v (.one .any), .v (.one .sl), .v (.one (.int .i64)), .v (.one .ptr), .v (.one (.int .i64)), .v (.one .bool), .v (.one (.int .i64)), .v (.one (.int .i64))]
def A81 : Ann := (.seq none .z (.seq none (.seq none .z (.block none (.loop [8] (.seq none .z (.seq none (.cond .z .z) (.seq none (.block none (.seq none .z (.seq none .z (.cond (.seq none .z .z) .z)))) .z)))))) (.seq none .z .z)))
theorem F81_eq (as1 : Option Addr) (ns1 cs1 : Nat) (f2 : Value) (w : World) (R : Value → World → Prop) : F81 as1 ns1 cs1 f2 w R = denF Go.Proofs.Try.prog T81 Go.Proofs.Try.f81 A81 [.slice as1 ns1 cs1, f2] w R := by kernel_rfl
theorem F81_ok (as1 : Option Addr) (ns1 cs1 : Nat) (f2 : Value) {w : World} {R : Value → World → Prop} (h : F81 as1 ns1 cs1 f2 w R) : CallP Go.Proofs.Try.prog 81 [.slice as1 ns1 cs1, f2] w R :=
  calls_den (fun _ => drawn (by kernel_rfl)) Go.Proofs.Try.func81 (Nat.le_of_ble_eq_true (by kernel_rfl)) ((F81_eq as1 ns1 cs1 f2 w R).mp h)
end Go.Pl.Try

/- What 'slices.ContainsFunc[[]int64,int64]' does, read off its translation by gen.py. -/
namespace Go.Pl.Try
set_option linter.unusedVariables false
set_option maxRecDepth 100000
def F66 (as1 : Option Addr) (ns1 cs1 : Nat) (f2 : Value) (w : World) (R : Value → World → Prop) : Prop :=
  CallP Pg 81 [.slice as1 ns1 cs1, f2] w fun v3 w4 => ∃ (x5 : Int), v3 = .int .i64 x5 ∧
  R (.bool (decide ((0 : Int) ≤ x5))) w4
def T66 : List Sh := [.v (.one .sl), .v (.one .any), .v (.one .any), .v (.one .any), .v (.one .bool), .v (.one .sl), .v (.one .any), .v (.one (.int .i64)), .v (.one .bool)]
def A66 : Ann := (.seq none .z (.seq none .z .z))
theorem F66_eq (as1 : Option Addr) (ns1 cs1 : Nat) (f2 : Value) (w : World) (R : Value → World → Prop) : F66 as1 ns1 cs1 f2 w R = denF Go.Proofs.Try.prog T66 Go.Proofs.Try.f66 A66 [.slice as1 ns1 cs1, f2] w R := by kernel_rfl
theorem F66_ok (as1 : Option Addr) (ns1 cs1 : Nat) (f2 : Value) {w : World} {R : Value → World → Prop} (h : F66 as1 ns1 cs1 f2 w R) : CallP Go.Proofs.Try.prog 66 [.slice as1 ns1 cs1, f2] w R :=
  calls_den (fun _ => drawn (by kernel_rfl)) Go.Proofs.Try.func66 (Nat.le_of_ble_eq_true (by kernel_rfl)) ((F66_eq as1 ns1 cs1 f2 w R).mp h)
end Go.Pl.Try

/- What 'slices.IndexFunc[[][2]int,[2]int]' does, read off its translation by gen.py. -/
namespace Go.Pl.Try
set_option linter.unusedVariables false
set_option maxRecDepth 100000
def F82 (as1 : Option Addr) (ns1 cs1 : Nat) (f2 : Value) (w : World) (R : Value → World → Prop) : Prop :=
  ∃ J3 : Int → World → Nat → Prop, (∃ m6, J3 0 w m6) ∧
  ∀ (x4 : Int), ∀ w5 m6, J3 x4 w5 m6 →
  sp (decide ((x4 : Int) < (ns1 : Nat)))
  (0 ≤ (x4 : Int) ∧ (x4 : Int) < (ns1 : Nat) ∧
  ptAt as1 fun b8 o9 =>
  ∃ (x10 : Int) (x11 : Int), Row w5 b8 (o9 + x4.toNat * 2) [.int .i64 x10, .int .i64 x11] ∧
  CallV Pg (f2) [.agg ⟨[.int .i64 x10, .int .i64 x11]⟩] w5 fun v12 w13 => ∃ (x14 : Bool), v12 = .bool x14 ∧
  sp x14
  (R (.int .i64 x4) w13)
  (∃ m7, m7 < m6 ∧ J3 (IntKind.wrap .i64 (x4 + 1)) w13 m7))
  (R (.int .i64 (-1)) w5)
def T82 : List Sh := [.v (.one .sl), .v (.one .any), .v (.one .any), .v (.one .any), .v (.one (.int .i64)), .v (.one (.int .i64)), .v (.one .sl), .v (.one (.int .i64)), .v (.one (.int .i64)), .v (.one .bool), .v (.one (.int .i64)), .v (.one .any), .v (.one .sl), .v (.one (.int .i64)), .v (.one .ptr), .v (.agg [(.int .i64), (.int .i64)]), .v (.one .bool), .v (.one (.int .i64)), .v (.one (.int .i64))]
def A82 : Ann := (.seq none .z (.seq none (.seq none .z (.block none (.loop [8] (.seq none .z (.seq none (.cond .z .z) (.seq none (.block none (.seq none .z (.seq none .z (.cond (.seq none .z .z) .z)))) .z)))))) (.seq none .z .z)))
theorem F82_eq (as1 : Option Addr) (ns1 cs1 : Nat) (f2 : Value) (w : World) (R : Value → World → Prop) : F82 as1 ns1 cs1 f2 w R = denF Go.Proofs.Try.prog T82 Go.Proofs.Try.f82 A82 [.slice as1 ns1 cs1, f2] w R := by kernel_rfl
theorem F82_ok (as1 : Option Addr) (ns1 cs1 : Nat) (f2 : Value) {w : World} {R : Value → World → Prop} (h : F82 as1 ns1 cs1 f2 w R) : CallP Go.Proofs.Try.prog 82 [.slice as1 ns1 cs1, f2] w R :=
  calls_den (fun _ => drawn (by kernel_rfl)) Go.Proofs.Try.func82 (Nat.le_of_ble_eq_true (by kernel_rfl)) ((F82_eq as1 ns1 cs1 f2 w R).mp h)
end Go.Pl.Try

/- What 'slices.ContainsFunc[[][2]int,[2]int]' does, read off its translation by gen.py. -/
namespace Go.Pl.Try
set_option linter.unusedVariables false
set_option maxRecDepth 100000
def F68 (as1 : Option Addr) (ns1 cs1 : Nat) (f2 : Value) (w : World) (R : Value → World → Prop) : Prop :=
  CallP Pg 82 [.slice as1 ns1 cs1, f2] w fun v3 w4 => ∃ (x5 : Int), v3 = .int .i64 x5 ∧
  R (.bool (decide ((0 : Int) ≤ x5))) w4
def T68 : List Sh := [.v (.one .sl), .v (.one .any), .v (.one .any), .v (.one .any), .v (.one .bool), .v (.one .sl), .v (.one .any), .v (.one (.int .i64)), .v (.one .bool)]
def A68 : Ann := (.seq none .z (.seq none .z .z))
theorem F68_eq (as1 : Option Addr) (ns1 cs1 : Nat) (f2 : Value) (w : World) (R : Value → World → Prop) : F68 as1 ns1 cs1 f2 w R = denF Go.Proofs.Try.prog T68 Go.Proofs.Try.f68 A68 [.slice as1 ns1 cs1, f2] w R := by kernel_rfl
theorem F68_ok (as1 : Option Addr) (ns1 cs1 : Nat) (f2 : Value) {w : World} {R : Value → World → Prop} (h : F68 as1 ns1 cs1 f2 w R) : CallP Go.Proofs.Try.prog 68 [.slice as1 ns1 cs1, f2] w R :=
  calls_den (fun _ => drawn (by kernel_rfl)) Go.Proofs.Try.func68 (Nat.le_of_ble_eq_true (by kernel_rfl)) ((F68_eq as1 ns1 cs1 f2 w R).mp h)
end Go.Pl.Try

/- What 'slices.Clone[[]int,int]' does, read off its translation by gen.py. -/
namespace Go.Pl.Try
set_option linter.unusedVariables false
set_option maxRecDepth 100000
def F52 (as1 : Option Addr) (ns1 cs1 : Nat) (w : World) (R : Value → World → Prop) : Prop :=
  ∃ (x2 : Bool), Sem.run Pg (do eqGuard .eql 34 (.tmp 3) (.const (.slice none 0 0)) (.slice as1 ns1 cs1) (.slice none 0 0); binOp .eql 34 (.slice as1 ns1 cs1) (.slice none 0 0)) w = .ok (.bool x2) w ∧
  sp x2
  (R (.slice none 0 0) w)
  (AlP 3 [] w fun b3 w4 =>
  ∃ (ax5 : Option Addr) (nx5 cx5 : Nat), ∃ w6 : World, Sem.run Pg (Builtin.append_ #[34, 34] 34 ⟨[.slice (some ⟨b3, 0, none⟩) 0 0, .slice as1 ns1 cs1]⟩) w4 = .ok (.slice ax5 nx5 cx5) w6 ∧
  R (.slice ax5 nx5 cx5) w6)
def T52 : List Sh := [.v (.one .sl), .v (.one .any), .v (.one .sl), .v (.one .sl), .v (.one .bool), .v (.one .sl), .v (.one .sl), .v (.one .sl)]
def A52 : Ann := (.seq none .z (.seq none (.seq none .z (.cond (.seq none .z .z) .z)) (.seq none .z .z)))
theorem F52_eq (as1 : Option Addr) (ns1 cs1 : Nat) (w : World) (R : Value → World → Prop) : F52 as1 ns1 cs1 w R = denF Go.Proofs.Try.prog T52 Go.Proofs.Try.f52 A52 [.slice as1 ns1 cs1] w R := by kernel_rfl
theorem F52_ok (as1 : Option Addr) (ns1 cs1 : Nat) {w : World} {R : Value → World → Prop} (h : F52 as1 ns1 cs1 w R) : CallP Go.Proofs.Try.prog 52 [.slice as1 ns1 cs1] w R :=
  calls_den (fun _ => drawn (by kernel_rfl)) Go.Proofs.Try.func52 (Nat.le_of_ble_eq_true (by kernel_rfl)) ((F52_eq as1 ns1 cs1 w R).mp h)
end Go.Pl.Try

/- 'slices.IndexFunc', 'slices.ContainsFunc' and 'slices.Clone', walked. -/
namespace Go.Pl.Try
open M
set_option linter.unusedVariables false
def RTwo (_ : World) (vs : List Value) (x : Int × Int) : Prop := vs = [.int .i64 x.1, .int .i64 x.2]
theorem RdTwo.ext {w w' : World} {a : Option Addr} {n : Nat} {xs : List (Int × Int)} (h : RdS 2 RTwo w a n xs) (hx : Ext w w') : RdS 2 RTwo w' a n xs := RdS.ext (w := w) (R := RTwo) (fun _ _ h => h) hx h
theorem any_take_step {α : Type} {p : α → Bool} {xs : List α} {j : Nat} {x : α} (hx : xs[j]? = some x) (h : (xs.take j).any p = false) : (xs.take (j + 1)).any p = p x := by
  have hj := (List.getElem?_eq_some_iff.1 hx).1
  rw [List.take_add_one, List.any_append, h, hx]
  simp
theorem any_of_take {α : Type} {p : α → Bool} {xs : List α} {j : Nat} (h : (xs.take j).any p = true) : xs.any p = true := by
  obtain ⟨x, hx, hp⟩ := List.any_eq_true.1 h
  exact List.any_eq_true.2 ⟨x, List.take_subset j xs hx, hp⟩
theorem idxIns_w {a : Option Addr} {n c : Nat} {xs : List Ins} {w : World} {f : Value} (p : Ins → Bool) (h : RdS 7 RIns w a n xs) (hf : ∀ x ∈ xs, ∀ vs w1, RIns w1 vs x → Ext w w1 → CallV Pg f [.agg ⟨vs⟩] w1 fun v w2 => v = .bool (p x) ∧ Ext w1 w2) :
    CallP Pg 53 [.slice a n c, f] w fun v w' => ∃ i, v = .int .i64 i ∧ decide (0 ≤ i) = xs.any p ∧ Ext w w' := by
  refine F53_ok _ _ _ _ ?_
  have hl := h.len
  have hle := h.le
  refine ⟨fun i w5 m => ∃ j : Nat, i = j ∧ j ≤ n ∧ m = n - j ∧ Ext w w5 ∧ (xs.take j).any p = false, ⟨n, 0, rfl, by omega, by omega, Ext.refl _, by simp⟩, ?_⟩
  rintro i w5 m ⟨j, rfl, hj, rfl, hw, hany⟩
  refine sp_dec (fun hlt => ?_) (fun hge => ?_)
  · have hjn : j < n := by omega
    obtain ⟨x, hx⟩ : ∃ x, xs[j]? = some x := ⟨_, List.getElem?_eq_getElem (by omega)⟩
    have hxm := List.mem_of_getElem? hx
    have hstep := any_take_step (p := p) hx hany
    obtain ⟨b, o, vs, ha, hrow, hvl, ai, ni, ci, rfl, hargs⟩ := h.at_ _ _ hx
    have hR : RIns w5 _ x := ⟨ai, ni, ci, rfl, hargs.ext hw⟩
    refine ⟨by omega, by omega, ptAt_of ha ⟨_, _, _, _, _, _, _, _, _, hw.row hrow, ?_⟩⟩
    refine (hf x hxm _ w5 hR hw).mono ?_
    rintro v w6 ⟨rfl, hw6⟩
    refine ⟨_, rfl, ?_⟩
    cases hp : p x with
    | true => exact ⟨_, rfl, by rw [hp] at hstep; rw [any_of_take hstep]; simp, hw.trans hw6⟩
    | false => exact ⟨n - (j + 1), by omega, j + 1, wrap_succ (by omega), by omega, rfl, hw.trans hw6, by rw [hstep, hp]⟩
  · have : j = n := by omega
    subst this
    rw [List.take_of_length_le (by omega)] at hany
    exact ⟨_, rfl, by rw [hany]; decide, hw⟩
theorem hasIns_w {a : Option Addr} {n c : Nat} {xs : List Ins} {w : World} {f : Value} (p : Ins → Bool) (h : RdS 7 RIns w a n xs) (hf : ∀ x ∈ xs, ∀ vs w1, RIns w1 vs x → Ext w w1 → CallV Pg f [.agg ⟨vs⟩] w1 fun v w2 => v = .bool (p x) ∧ Ext w1 w2) :
    CallP Pg 28 [.slice a n c, f] w fun v w' => v = .bool (xs.any p) ∧ Ext w w' := by
  refine F28_ok _ _ _ _ ?_
  refine Calls.mono (idxIns_w p h hf) ?_
  rintro e w' ⟨v, rfl, i, rfl, hi, hx⟩
  exact ⟨_, rfl, _, rfl, by rw [hi], hx⟩
theorem idxInt_w {a : Option Addr} {n c : Nat} {xs : List Int} {w : World} {f : Value} (p : Int → Bool) (h : RdS 1 (RI .i64) w a n xs) (hf : ∀ x ∈ xs, ∀ w1, Ext w w1 → CallV Pg f [.int .i64 x] w1 fun v w2 => v = .bool (p x) ∧ Ext w1 w2) :
    CallP Pg 72 [.slice a n c, f] w fun v w' => ∃ i, v = .int .i64 i ∧ decide (0 ≤ i) = xs.any p ∧ Ext w w' := by
  refine F72_ok _ _ _ _ ?_
  have hl := h.len
  have hle := h.le
  refine ⟨fun i w5 m => ∃ j : Nat, i = j ∧ j ≤ n ∧ m = n - j ∧ Ext w w5 ∧ (xs.take j).any p = false, ⟨n, 0, rfl, by omega, by omega, Ext.refl _, by simp⟩, ?_⟩
  rintro i w5 m ⟨j, rfl, hj, rfl, hw, hany⟩
  refine sp_dec (fun hlt => ?_) (fun hge => ?_)
  · have hjn : j < n := by omega
    obtain ⟨x, hx⟩ : ∃ x, xs[j]? = some x := ⟨_, List.getElem?_eq_getElem (by omega)⟩
    have hxm := List.mem_of_getElem? hx
    have hstep := any_take_step (p := p) hx hany
    obtain ⟨b, o, ha, hc⟩ := RdI.at h hx
    refine ⟨by omega, by omega, ptAt_of ha ⟨_, hw.cel hc, ?_⟩⟩
    refine (hf x hxm w5 hw).mono ?_
    rintro v w6 ⟨rfl, hw6⟩
    refine ⟨_, rfl, ?_⟩
    cases hp : p x with
    | true => exact ⟨_, rfl, by rw [hp] at hstep; rw [any_of_take hstep]; simp, hw.trans hw6⟩
    | false => exact ⟨n - (j + 1), by omega, j + 1, wrap_succ (by omega), by omega, rfl, hw.trans hw6, by rw [hstep, hp]⟩
  · have : j = n := by omega
    subst this
    rw [List.take_of_length_le (by omega)] at hany
    exact ⟨_, rfl, by rw [hany]; decide, hw⟩
theorem hasInt_w {a : Option Addr} {n c : Nat} {xs : List Int} {w : World} {f : Value} (p : Int → Bool) (h : RdS 1 (RI .i64) w a n xs) (hf : ∀ x ∈ xs, ∀ w1, Ext w w1 → CallV Pg f [.int .i64 x] w1 fun v w2 => v = .bool (p x) ∧ Ext w1 w2) :
    CallP Pg 41 [.slice a n c, f] w fun v w' => v = .bool (xs.any p) ∧ Ext w w' := by
  refine F41_ok _ _ _ _ ?_
  refine Calls.mono (idxInt_w p h hf) ?_
  rintro e w' ⟨v, rfl, i, rfl, hi, hx⟩
  exact ⟨_, rfl, _, rfl, by rw [hi], hx⟩
theorem idxI64_w {a : Option Addr} {n c : Nat} {xs : List Int} {w : World} {f : Value} (p : Int → Bool) (h : RdS 1 (RI .i64) w a n xs) (hf : ∀ x ∈ xs, ∀ w1, Ext w w1 → CallV Pg f [.int .i64 x] w1 fun v w2 => v = .bool (p x) ∧ Ext w1 w2) :
    CallP Pg 81 [.slice a n c, f] w fun v w' => ∃ i, v = .int .i64 i ∧ decide (0 ≤ i) = xs.any p ∧ Ext w w' := by
  refine F81_ok _ _ _ _ ?_
  have hl := h.len
  have hle := h.le
  refine ⟨fun i w5 m => ∃ j : Nat, i = j ∧ j ≤ n ∧ m = n - j ∧ Ext w w5 ∧ (xs.take j).any p = false, ⟨n, 0, rfl, by omega, by omega, Ext.refl _, by simp⟩, ?_⟩
  rintro i w5 m ⟨j, rfl, hj, rfl, hw, hany⟩
  refine sp_dec (fun hlt => ?_) (fun hge => ?_)
  · have hjn : j < n := by omega
    obtain ⟨x, hx⟩ : ∃ x, xs[j]? = some x := ⟨_, List.getElem?_eq_getElem (by omega)⟩
    have hxm := List.mem_of_getElem? hx
    have hstep := any_take_step (p := p) hx hany
    obtain ⟨b, o, ha, hc⟩ := RdI.at h hx
    refine ⟨by omega, by omega, ptAt_of ha ⟨_, hw.cel hc, ?_⟩⟩
    refine (hf x hxm w5 hw).mono ?_
    rintro v w6 ⟨rfl, hw6⟩
    refine ⟨_, rfl, ?_⟩
    cases hp : p x with
    | true => exact ⟨_, rfl, by rw [hp] at hstep; rw [any_of_take hstep]; simp, hw.trans hw6⟩
    | false => exact ⟨n - (j + 1), by omega, j + 1, wrap_succ (by omega), by omega, rfl, hw.trans hw6, by rw [hstep, hp]⟩
  · have : j = n := by omega
    subst this
    rw [List.take_of_length_le (by omega)] at hany
    exact ⟨_, rfl, by rw [hany]; decide, hw⟩
theorem hasI64_w {a : Option Addr} {n c : Nat} {xs : List Int} {w : World} {f : Value} (p : Int → Bool) (h : RdS 1 (RI .i64) w a n xs) (hf : ∀ x ∈ xs, ∀ w1, Ext w w1 → CallV Pg f [.int .i64 x] w1 fun v w2 => v = .bool (p x) ∧ Ext w1 w2) :
    CallP Pg 66 [.slice a n c, f] w fun v w' => v = .bool (xs.any p) ∧ Ext w w' := by
  refine F66_ok _ _ _ _ ?_
  refine Calls.mono (idxI64_w p h hf) ?_
  rintro e w' ⟨v, rfl, i, rfl, hi, hx⟩
  exact ⟨_, rfl, _, rfl, by rw [hi], hx⟩
theorem idxTwo_w {a : Option Addr} {n c : Nat} {xs : List (Int × Int)} {w : World} {f : Value} (p : (Int × Int) → Bool) (h : RdS 2 RTwo w a n xs) (hf : ∀ x ∈ xs, ∀ vs w1, RTwo w1 vs x → Ext w w1 → CallV Pg f [.agg ⟨vs⟩] w1 fun v w2 => v = .bool (p x) ∧ Ext w1 w2) :
    CallP Pg 82 [.slice a n c, f] w fun v w' => ∃ i, v = .int .i64 i ∧ decide (0 ≤ i) = xs.any p ∧ Ext w w' := by
  refine F82_ok _ _ _ _ ?_
  have hl := h.len
  have hle := h.le
  refine ⟨fun i w5 m => ∃ j : Nat, i = j ∧ j ≤ n ∧ m = n - j ∧ Ext w w5 ∧ (xs.take j).any p = false, ⟨n, 0, rfl, by omega, by omega, Ext.refl _, by simp⟩, ?_⟩
  rintro i w5 m ⟨j, rfl, hj, rfl, hw, hany⟩
  refine sp_dec (fun hlt => ?_) (fun hge => ?_)
  · have hjn : j < n := by omega
    obtain ⟨x, hx⟩ : ∃ x, xs[j]? = some x := ⟨_, List.getElem?_eq_getElem (by omega)⟩
    have hxm := List.mem_of_getElem? hx
    have hstep := any_take_step (p := p) hx hany
    obtain ⟨b, o, vs, ha, hrow, hvl, rfl⟩ := h.at_ _ _ hx
    refine ⟨by omega, by omega, ptAt_of ha ⟨_, _, hw.row hrow, ?_⟩⟩
    refine (hf x hxm _ w5 rfl hw).mono ?_
    rintro v w6 ⟨rfl, hw6⟩
    refine ⟨_, rfl, ?_⟩
    cases hp : p x with
    | true => exact ⟨_, rfl, by rw [hp] at hstep; rw [any_of_take hstep]; simp, hw.trans hw6⟩
    | false => exact ⟨n - (j + 1), by omega, j + 1, wrap_succ (by omega), by omega, rfl, hw.trans hw6, by rw [hstep, hp]⟩
  · have : j = n := by omega
    subst this
    rw [List.take_of_length_le (by omega)] at hany
    exact ⟨_, rfl, by rw [hany]; decide, hw⟩
theorem hasTwo_w {a : Option Addr} {n c : Nat} {xs : List (Int × Int)} {w : World} {f : Value} (p : (Int × Int) → Bool) (h : RdS 2 RTwo w a n xs) (hf : ∀ x ∈ xs, ∀ vs w1, RTwo w1 vs x → Ext w w1 → CallV Pg f [.agg ⟨vs⟩] w1 fun v w2 => v = .bool (p x) ∧ Ext w1 w2) :
    CallP Pg 68 [.slice a n c, f] w fun v w' => v = .bool (xs.any p) ∧ Ext w w' := by
  refine F68_ok _ _ _ _ ?_
  refine Calls.mono (idxTwo_w p h hf) ?_
  rintro e w' ⟨v, rfl, i, rfl, hi, hx⟩
  exact ⟨_, rfl, _, rfl, by rw [hi], hx⟩
theorem srcI {w : World} {a : Option Addr} {n : Nat} {xs : List Int} (h : RdI w a n xs) : Src w 1 a n (xs.map (Value.int .i64)) := by
  refine ⟨by simp [h.len], ?_⟩
  by_cases h0 : n = 0
  · exact .inl h0
  · right
    have hx : 0 < xs.length := by rw [h.len]; omega
    obtain ⟨b, o, ha, hc⟩ := RdI.at h (i := 0) (List.getElem?_eq_getElem hx)
    refine ⟨b, o, ha, fun j v hj => ?_⟩
    rw [List.getElem?_map] at hj
    obtain ⟨x, hx, rfl⟩ := Option.map_eq_some_iff.1 hj
    obtain ⟨b', o', ha', hc'⟩ := RdI.at h hx
    rw [ha] at ha'
    cases ha'
    have := hc'
    simp only [Nat.mul_one] at this
    exact this
theorem one_ints (xs : List Int) : (xs.map (Value.int .i64)).all (·.oneCell') = true := by simp [Value.oneCell']
theorem cloneI_w {a : Option Addr} {n c : Nat} {xs : List Int} {w : World} (h : RdI w a n xs) (hn : n ≤ 4294967296) :
    CallP Pg 52 [.slice a n c] w fun v w' => ∃ a' c' r, v = .slice a' n c' ∧ Sls 1 a' n c' (xs.map (Value.int .i64)) r ∧ Hp w w' (r.L 3 (xs.map (Value.int .i64))) := by
  refine F52_ok _ _ _ ?_
  refine ⟨a.isNone, ?_, ?_⟩
  · exact eql_slice_nil (e := 3) (by kernel_rfl) _ _ _ _ _ _
  · refine sp_of (fun hnil => ?_) (fun hnil => ?_)
    · have ha : a = none := by cases a with | none => rfl | some _ => cases hnil
      subst ha
      have hn0 : n = 0 := by
        rcases Nat.eq_zero_or_pos n with h0 | h0
        · exact h0
        · obtain ⟨b, o, ha, _⟩ := RdI.at h (i := 0) (List.getElem?_eq_getElem (by rw [h.len]; exact h0))
          cases ha
      subst hn0
      have : xs = [] := List.eq_nil_of_length_eq_zero h.len
      subst this
      exact ⟨none, 0, .emp, rfl, Sls.nil _ _, Hp.refl w⟩
    · refine alp (Hp.refl w) fun b3 w4 h4 => ?_
      obtain ⟨a', c', w', r', h1, h2, h3⟩ := app2 (ty := 34) slInts (by omega) (Sls.nil 1 (some ⟨b3, 0, none⟩)) [] (L := [(b3, Cl 3 [])]) h4 (srcI (RdI.ext h h4.ext)) (one_ints xs) (by simp only [maxLen]; omega) (by omega) (cx := c)
      refine ⟨_, _, _, w', by simpa using h1, a', c', r', rfl, ?_, ?_⟩
      · simpa using h2
      · have := h3.sub (L' := r'.L 3 (xs.map (Value.int .i64))) (by simp)
        exact this
end Go.Pl.Try

/- Maps with integer keys by what they hold, in whatever order. -/
namespace Go.Pl
set_option linter.unusedVariables false
theorem mget_mem {m : List (Int × Value)} {k : Int} {v : Value} (hn : (m.map Prod.fst).Nodup) (h : (k, v) ∈ m) : mget m k = some v := by
  induction m with
  | nil => cases h
  | cons p m ih =>
    simp only [List.map_cons, List.nodup_cons] at hn
    rcases List.mem_cons.1 h with rfl | h
    · simp [mget]
    · have hne : p.1 ≠ k := fun e => hn.1 (List.mem_map.2 ⟨(k, v), h, e.symm⟩)
      have h1 : (p.1 == k) = false := by simp [hne]
      have := ih hn.2 h
      unfold mget at this ⊢
      rw [List.find?_cons, h1]
      exact this
theorem mem_of_mget {m : List (Int × Value)} {k : Int} {v : Value} (h : mget m k = some v) : (k, v) ∈ m := by
  unfold mget at h
  obtain ⟨p, hp, rfl⟩ := Option.map_eq_some_iff.1 h
  have h1 := List.find?_some hp
  have h2 := List.mem_of_find?_eq_some hp
  have : p.1 = k := by simpa using h1
  subst this
  exact h2
theorem mget_none {m : List (Int × Value)} {k : Int} : mget m k = none ↔ ∀ p ∈ m, p.1 ≠ k := by
  unfold mget
  rw [Option.map_eq_none_iff, List.find?_eq_none]
  simp
theorem mget_mput (m : List (Int × Value)) (k x : Int) (v : Value) : mget (mput m k v) x = if x = k then some v else mget m x := by
  unfold mput
  split
  · rename_i h
    induction m with
    | nil => simp at h
    | cons p m ih =>
      by_cases hp : p.1 = k
      · by_cases hx : x = k
        · subst hx; simp [mget, hp]
        · have h1 : (k == x) = false := by simp; exact fun e => hx e.symm
          have h2 : (p.1 == x) = false := by simp [hp]; exact fun e => hx e.symm
          simp only [List.map_cons, hp, if_true, mget, List.find?_cons, h1, hx, if_false]
          -- the rest
          have hrest : ∀ m : List (Int × Value), List.find? (fun p => p.1 == x) (m.map fun p => if p.1 = k then (k, v) else p) = List.find? (fun p => p.1 == x) m := by
            intro m
            induction m with
            | nil => rfl
            | cons q m ih2 =>
              simp only [List.map_cons, List.find?_cons]
              by_cases hq : q.1 = k
              · simp [hq, h1, ih2]
              · simp only [hq, if_false, ih2]
          rw [hrest]
      · have h' : m.any (fun p => p.1 == k) = true := by
          simp only [List.any_cons] at h
          have : (p.1 == k) = false := by simp [hp]
          simpa [this] using h
        have := ih h'
        simp only [List.map_cons, hp, if_false, mget, List.find?_cons] at this ⊢
        by_cases hx : p.1 = x
        · subst hx
          simp [hp]
        · have h1 : (p.1 == x) = false := by simp [hx]
          simp only [h1]
          exact this
  · rename_i h
    by_cases hx : x = k
    · subst hx
      have : m.find? (fun p => p.1 == x) = none := by
        rw [List.find?_eq_none]
        intro p hp hpx
        exact h (List.any_eq_true.2 ⟨p, hp, hpx⟩)
      simp [mget, List.find?_append, this]
    · have : (k == x) = false := by simp; exact fun e => hx e.symm
      simp [mget, List.find?_append, this, hx]
theorem mget_mdel (m : List (Int × Value)) (k x : Int) : mget (mdel m k) x = if x = k then none else mget m x := by
  unfold mdel mget
  by_cases hx : x = k
  · subst hx
    have : (m.filter fun p => !(p.1 == x)).find? (fun p => p.1 == x) = none := by
      rw [List.find?_eq_none]
      intro p hp
      have := (List.mem_filter.1 hp).2
      simpa using this
    simp [this]
  · have : (m.filter fun p => !(p.1 == k)).find? (fun p => p.1 == x) = m.find? (fun p => p.1 == x) := by
      rw [List.find?_filter]
      congr 1
      funext p
      by_cases hp : p.1 = x
      · simp [hp, hx]
      · simp [hp]
    rw [this, if_neg hx]
/-- A map that holds what 'f' says. -/
def MapO (f : Int → Option Value) (o : Obj) : Prop := ∃ m, MpO m o ∧ ∀ k, mget m k = f k
theorem MapO.empty : MapO (fun _ => none) (.map #[] 0) := ⟨[], MpO.empty, fun _ => rfl⟩
theorem MapO.congr {f g : Int → Option Value} {o : Obj} (h : MapO f o) (e : ∀ k, f k = g k) : MapO g o := let ⟨m, h1, h2⟩ := h; ⟨m, h1, fun k => (h2 k).trans (e k)⟩
/-- A map value as an argument. -/
def RMap (w : World) (p : Option Nat) (f : Int → Option Value) : Prop := match p with | none => ∀ k, f k = none | some b => ∃ o, w.heap[b]? = some o ∧ MapO f o
theorem RMap.ext {w w' : World} {p : Option Nat} {f : Int → Option Value} (h : RMap w p f) (hx : Ext w w') : RMap w' p f := by
  cases p with
  | none => exact h
  | some b =>
    obtain ⟨o, h1, h2⟩ := h
    exact ⟨o, by rw [hx.blk b (Array.getElem?_eq_some_iff.1 h1).1]; exact h1, h2⟩
section
variable {P : Program} {w0 w : World} {L : List (Nat × Obj)}
theorem Hp.rmap (h : Hp w0 w L) (i : Nat) {b : Nat} {o : Obj} (hi : L[i]? = some (b, o)) {f : Int → Option Value} (hf : MapO f o) : RMap w (some b) f := ⟨o, h.at i hi, hf⟩
theorem look_map {t e : Nat} (hT : mpT P t e = true) {z : Value} (hz : zeroOf P e = some z) {p : Option Nat} {f : Int → Option Value} (hp : RMap w p f) (k : Int) :
    (Instr.lookup t (.map p) (.int .i64 k) false).run P w = .ok ((f k).getD z) w := by
  cases p with
  | none => rw [look_nil hT hz k false w]; simp [hp k]
  | some b =>
    obtain ⟨o, h1, m, h2, h3⟩ := hp
    rw [look_run hT hz h2 h1 k false, ← h3]; simp
theorem look_map2 {t e : Nat} (hT : mpT P t e = true) {z : Value} (hz : zeroOf P e = some z) {p : Option Nat} {f : Int → Option Value} (hp : RMap w p f) (k : Int) :
    (Instr.lookup t (.map p) (.int .i64 k) true).run P w = .ok (.tuple ⟨[(f k).getD z, .bool (f k).isSome]⟩) w := by
  cases p with
  | none => rw [look_nil hT hz k true w]; simp [hp k]
  | some b =>
    obtain ⟨o, h1, m, h2, h3⟩ := hp
    rw [look_run hT hz h2 h1 k true, ← h3]; simp
theorem upd_map {t e : Nat} (hT : mpT P t e = true) (h : Hp w0 w L) (i : Nat) {b : Nat} {o : Obj} {f : Int → Option Value} (hi : L[i]? = some (b, o)) (hm : MapO f o) (k : Int) (v : Value) :
    ∃ w' o', (Instr.mapUpdate t (.map (some b)) (.int .i64 k) v).run P w = .ok () w' ∧ MapO (fun x => if x = k then some v else f x) o' ∧ Hp w0 w' (L.set i (b, o')) := by
  obtain ⟨m, h1, h2⟩ := hm
  obtain ⟨w', o', h3, h4, h5⟩ := upd_run hT h i hi h1 k v
  exact ⟨w', o', h3, ⟨_, h4, fun x => by rw [mget_mput, h2]⟩, h5⟩
theorem erase_map {α β : Type} (f : α → β) : ∀ (l : List α) (j : Nat), (l.eraseIdx j).map f = (l.map f).eraseIdx j
  | [], j => by simp
  | a :: l, 0 => by simp
  | a :: l, j + 1 => by simp [erase_map f l j]
theorem mpo_del {es : Array MapEntry} {c : Nat} {m : List (Int × Value)} {j : Nat} {k : Int} (hm : MpO m (.map es c)) (hj : m.findIdx? (fun p => p.1 == k) = some j) :
    MpO (mdel m k) (.map (es.eraseIdxIfInBounds j) c) ∧ ∃ e, es.toList[j]? = some e ∧ e.key = .int .i64 k ∧ (es.eraseIdxIfInBounds j).toList = es.toList.filter fun x => !(x.born == e.born) := by
  obtain ⟨es', c', he', he, hnd, hbn, hcl⟩ := hm
  cases he'
  obtain ⟨hjm, hjk, hjf⟩ := List.findIdx?_eq_some_iff_getElem.1 hj
  have hlen : es.toList.length = m.length := by simpa using congrArg List.length he
  have hje : j < es.toList.length := by omega
  have hjs : j < es.size := by simpa using hje
  have herase : (es.eraseIdxIfInBounds j).toList = es.toList.eraseIdx j := by
    simp [Array.eraseIdxIfInBounds, hjs]
  have hmerase : mdel m k = m.eraseIdx j := by
    unfold mdel
    have hk : m[j].1 = k := by simpa using hjk
    clear he hlen hje hj hjs herase hjk
    induction m generalizing j with
    | nil => simp at hjm
    | cons p m ih =>
      simp only [List.map_cons, List.nodup_cons] at hnd
      cases j with
      | zero =>
        simp only [List.getElem_cons_zero] at hk
        have : m.filter (fun p => !(p.1 == k)) = m := by
          apply List.filter_eq_self.2
          intro q hq
          simp only [Bool.not_eq_true', beq_eq_false_iff_ne]
          intro e
          exact hnd.1 (by rw [hk, ← e]; exact List.mem_map_of_mem hq)
        simp [List.filter_cons, hk, this]
      | succ j =>
        simp only [List.getElem_cons_succ] at hk
        have hp : p.1 ≠ k := fun e => hnd.1 (by rw [e, ← hk]; exact List.mem_map_of_mem (List.getElem_mem _))
        simp only [List.filter_cons, hp, beq_iff_eq, Bool.not_eq_true', beq_eq_false_iff_ne, ne_eq, not_false_eq_true, if_true, List.eraseIdx_cons_succ]
        congr 1
        refine ih hnd.2 (by simpa using hjm) ?_ hk
        intro j' hlt
        have := hjf (j' + 1) (by omega)
        simpa using this
  have hkv : (es.toList[j]'hje).key = .int .i64 k := by
    have := congrArg (fun l => l[j]?) he
    simp only [List.getElem?_map, List.getElem?_eq_getElem hje, List.getElem?_eq_getElem hjm, Option.map_some, Option.some.injEq, Prod.mk.injEq] at this
    rw [this.1]
    have : m[j].1 = k := by simpa using hjk
    rw [this]
  have hfil : es.toList.eraseIdx j = es.toList.filter fun x => !(x.born == (es.toList[j]'hje).born) := by
    clear hcl he hlen hjs herase hkv
    generalize es.toList = l at hbn hje
    clear hjm hjf hjk hj hmerase
    induction l generalizing j with
    | nil => simp at hje
    | cons p l ih =>
      simp only [List.map_cons, List.nodup_cons] at hbn
      cases j with
      | zero =>
        have : l.filter (fun x => !(x.born == p.born)) = l := by
          apply List.filter_eq_self.2
          intro q hq
          simp only [Bool.not_eq_true', beq_eq_false_iff_ne]
          intro e
          exact hbn.1 (by rw [← e]; exact List.mem_map_of_mem hq)
        simp [List.filter_cons, this]
      | succ j =>
        have hlt : j < l.length := by simpa using hje
        have hp : p.born ≠ l[j].born := fun e => hbn.1 (by rw [e]; exact List.mem_map_of_mem (List.getElem_mem _))
        simp only [List.getElem_cons_succ, List.eraseIdx_cons_succ]
        rw [List.filter_cons_of_pos (by simp [hp])]
        congr 1
        exact ih hbn.2 hlt
  refine ⟨⟨_, c, rfl, ?_, ?_, ?_, ?_⟩, es.toList[j]'hje, List.getElem?_eq_getElem hje, hkv, by rw [herase, hfil]⟩
  · rw [herase, hmerase, erase_map, erase_map, he]
  · exact hnd.sublist (by unfold mdel; exact List.Sublist.map _ List.filter_sublist)
  · rw [herase, hfil]; exact hbn.sublist (List.Sublist.map _ List.filter_sublist)
  · intro x hx
    rw [herase, hfil] at hx
    exact hcl x (List.mem_filter.1 hx).1
/-- A key goes from a map that is gone through; it has been come to already, or there is none. -/
theorem del_rg {t e kt2 ty : Nat} (hT : mpT P t e = true) (h : Hp w0 w L) (i : Nat) {b : Nat} {om oi : Obj} {m left : List (Int × Value)} (hi : L[i]? = some (b, om)) (hr : Rg b m left om oi) (k : Int) (hk : ∀ p ∈ left, p.1 ≠ k) :
    ∃ w' om', (Builtin.delete_ #[t, kt2] ty ⟨[.map (some b), .int .i64 k]⟩).run P w = .ok (.tuple #[]) w' ∧ Rg b (mdel m k) left om' oi ∧ Hp w0 w' (L.set i (b, om')) := by
  obtain ⟨kt, ht, hkk⟩ := mpT_inv hT
  obtain ⟨es, c, seen, rfl, hm, rfl, hperm⟩ := hr
  have hb := h.at i hi
  have he : es.toList.map (fun e => (e.key, e.val)) = m.map (fun p => (Value.int .i64 p.1, p.2)) := by
    obtain ⟨_, _, e1, e2, _⟩ := hm; cases e1; exact e2
  rcases idx_cases k m with ⟨j, v, h1, h2, h3⟩ | ⟨h1, h2, h3⟩
  · obtain ⟨hm', x, hx, hxk, hes⟩ := mpo_del hm h1
    obtain ⟨w', hrn, hs, hb', ho⟩ := setObj_run (P := P) hb (.map (es.eraseIdxIfInBounds j) c)
    refine ⟨w', _, ?_, ⟨_, c, seen, rfl, hm', rfl, ?_⟩, h.turn i hi hs hb' ho⟩
    · simp [Builtin.delete_, run_und w ht, getObj_run hb, checkKey_run hkk, findKey_run hkk he, h1, h2, hrn]
    · have : (es.eraseIdxIfInBounds j).toList.filter (fun e => !seen.contains e.born) = es.toList.filter fun e => !seen.contains e.born := by
        rw [hes, List.filter_filter]
        apply List.filter_congr
        intro y hy
        by_cases hyb : y.born = x.born
        · -- it is the one
          have hbn : (es.toList.map MapEntry.born).Nodup := by obtain ⟨_, _, e1, _, _, e2, _⟩ := hm; cases e1; exact e2
          have hf1 := born_find hbn (e := x) (List.mem_of_getElem? hx)
          have hf2 := born_find hbn (e := y) hy
          rw [hyb, hf1] at hf2
          cases hf2
          have : seen.contains x.born = true := by
            cases hc : seen.contains x.born with
            | true => rfl
            | false =>
              exfalso
              have hmem : x ∈ es.toList.filter fun e => !seen.contains e.born := List.mem_filter.2 ⟨hy, by rw [hc]; rfl⟩
              have := hperm.subset (List.mem_map.2 ⟨x, hmem, rfl⟩)
              obtain ⟨q, hq, hqe⟩ := List.mem_map.1 this
              simp only [Prod.mk.injEq] at hqe
              have hqk := hqe.1
              rw [hxk] at hqk
              cases hqk
              exact hk q hq rfl
          have h2' : x.born ∈ seen := by simpa using this
          simp [h2']
        · simp [hyb]
      rw [this]; exact hperm
  · obtain ⟨w', hrn, hs, hb', ho⟩ := setObj_run (P := P) hb (.map es c)
    have hmd : mdel m k = m := by
      unfold mdel
      apply List.filter_eq_self.2
      intro q hq
      simpa using h3 q hq
    refine ⟨w', _, ?_, ⟨es, c, seen, rfl, by rw [hmd]; exact hm, rfl, hperm⟩, h.turn i hi hs hb' ho⟩
    simp [Builtin.delete_, run_und w ht, getObj_run hb, checkKey_run hkk, findKey_run hkk he, h1, hrn]
/-- Going through a map that stays: 'left' is what is still to come of 'm'. -/
def Going (w : World) (p : Option Nat) (m left : List (Int × Value)) (oi : Obj) : Prop :=
  match p with
  | none => m = [] ∧ left = [] ∧ oi = .mapIter none 0 #[] 0
  | some b => ∃ om, w.heap[b]? = some om ∧ Rg b m left om oi
theorem go_range {t e : Nat} (hT : mpT P t e = true) (h : Hp w0 w L) {p : Option Nat} {f : Int → Option Value} (hp : RMap w p f) :
    ∃ r w' oi m, (Instr.range t (.map p)).run P w = .ok (.pointer (some ⟨r, 0, none⟩)) w' ∧ Hp w0 w' ((r, oi) :: L) ∧ Going w' p m m oi ∧ (∀ k, mget m k = f k) ∧ (m.map Prod.fst).Nodup ∧ Ext w w' ∧ ∀ b, p = some b → r ≠ b := by
  cases p with
  | none =>
    obtain ⟨kt, ht, hk⟩ := mpT_inv hT
    refine ⟨w.heap.size, w.alloc (.mapIter none 0 #[] 0), .mapIter none 0 #[] 0, [], ?_, h.al _, ⟨rfl, rfl, rfl⟩, fun k => by rw [hp k]; rfl, by simp, ext_alloc w _, fun b hb => by cases hb⟩
    unfold Instr.range
    simp only [Sem.run_bind, run_und w ht, Result.andThen_ok, Sem.run_pure]
    rfl
  | some b =>
    obtain ⟨o, h1, m, h2, h3⟩ := hp
    obtain ⟨r, w', oi, h4, h5, h6, h7⟩ := range_run hT h h1 h2
    have hlt := (Array.getElem?_eq_some_iff.1 h1).1
    refine ⟨r, w', oi, m, h4, h5, ⟨o, by rw [h7.blk b hlt]; exact h1, h6⟩, h3, ?_, h7, ?_⟩
    · obtain ⟨_, _, _, _, e2, _⟩ := h2; exact e2
    · intro b' hb' e2
      cases hb'
      subst e2
      have h8 := h5.at 0 rfl
      rw [h7.blk r hlt, h1] at h8
      obtain ⟨es, cl, seen, e3, _, e4, _⟩ := h6
      cases h8
      rw [e3] at e4
      cases e4
theorem go_next {ty : Nat} (h : Hp w0 w L) (i : Nat) {r : Nat} {oi : Obj} (hi : L[i]? = some (r, oi)) {p : Option Nat} {m left : List (Int × Value)} (hrb : ∀ b, p = some b → r ≠ b) (hg : Going w p m left oi) :
    (left = [] ∧ (Instr.next (.pointer (some ⟨r, 0, none⟩)) false ty).run P w = .ok (.tuple ⟨[.bool false]⟩) w) ∨
    ∃ k v left' w' oi', left.Perm ((k, v) :: left') ∧ (Instr.next (.pointer (some ⟨r, 0, none⟩)) false ty).run P w = .ok (.tuple ⟨[.bool true, .int .i64 k, v]⟩) w' ∧ Hp w0 w' (L.set i (r, oi')) ∧ Going w' p m left' oi' ∧ (k, v) ∈ m ∧
      (Instr.entry (.pointer (some ⟨r, 0, none⟩))).run P w' = .ok (.tuple ⟨[.int .i64 k, v]⟩) w' ∧ w'.heap.size = w.heap.size ∧ ∀ b, b ≠ r → w'.heap[b]? = w.heap[b]? := by
  cases p with
  | none =>
    obtain ⟨rfl, rfl, rfl⟩ := hg
    left
    refine ⟨rfl, ?_⟩
    have g1 : (getObj r).run P w = .ok (.mapIter none 0 #[] 0) w := by simp [getObj, Sem.run, h.at i hi]
    unfold Instr.next
    simp only [Sem.run_bind, Sem.run_pure, g1, Result.andThen_ok]
  | some b =>
    obtain ⟨om, hb, hr⟩ := hg
    have hrb' := hrb b rfl
    rcases next_run (P := P) (ty := ty) h i hi hb hrb' hr with ⟨h1, h2⟩ | ⟨k, v, left', w', oi', h1, h2, h3, h4, h5, h6, h7, h8⟩
    · exact .inl ⟨h1, h2⟩
    · exact .inr ⟨k, v, left', w', oi', h1, h2, h3, ⟨om, by rw [h8 b (Ne.symm hrb')]; exact hb, h4⟩, h5, h6, h7, h8⟩
end
end Go.Pl

/- What 'Check' says, as plain Lean. -/
namespace Go.Pl.M
def dsts (is : List Ins) : List Int := (is.map (·.dst)).filter (fun d => !decide (d = 0))
def Blk.made (b : Blk) : List Int := b.params ++ dsts b.ins
def Fnc.made (f : Fnc) : List Int := f.blocks.flatMap Blk.made
def once (f : Fnc) : Bool := decide ((∀ v ∈ f.made, 0 < v) ∧ f.made.Nodup)
/-- A way is there, and has as many arguments as its block has parameters. -/
def wayOk (bs : List Blk) (w : Edg) : Bool := decide (1 ≤ w.to) && decide (w.to < bs.length) && (match bs[w.to.toNat]? with | some b => decide (w.args.length = b.params.length) | none => false)
def endsOk (bs : List Blk) (e : Fin) : Bool :=
  decide (1 ≤ e.kind) && decide (e.kind ≤ 4) && decide ((e.ways.length : Int) = if e.kind = 1 then 1 else if e.kind = 2 then 2 else 0) &&
  (decide (e.kind = 4) == (decide (e.trap = 1) || decide (e.trap = 2))) && ((decide (e.kind = 2) || decide (e.kind = 3)) == decide (0 < e.val)) && !decide (e.val < 0) && e.ways.all (wayOk bs)
def rightOk (p : Prg) (i : Ins) : Bool :=
  let s := shapeOf i.op
  !decide (s.1 = -2) && !(decide (0 ≤ s.1) && !decide ((i.args.length : Int) = s.1)) && (s.2 == decide (0 < i.dst)) && !decide (i.dst < 0) &&
  (if i.op = 2 then opKnown i.bin
   else if i.op = 3 ∨ i.op = 4 then decide (0 ≤ i.arr) && (match p.arrs[i.arr.toNat]? with | some a => decide (a.size = 0) | none => false)
   else if i.op = 5 ∨ i.op = 6 then decide (0 ≤ i.arr) && (match p.arrs[i.arr.toNat]? with | some a => decide (0 < a.size) | none => false)
   else if i.op = 7 then decide (0 ≤ i.fn) && (match p.funcs[i.fn.toNat]? with | some f => (match f.blocks with | b :: _ => decide (i.args.length = b.params.length) | [] => false) | none => false)
   else true)
/-- What is known behind a block. -/
def after (s : List Int) (b : Blk) : List Int := s ++ b.made
def usedIns : List Int → List Ins → Bool
  | _, [] => true
  | now, i :: is => i.args.all (fun v => decide (v ∈ now)) && usedIns (if i.dst = 0 then now else i.dst :: now) is
def used (s : List Int) (b : Blk) : Bool :=
  usedIns (s ++ b.params) b.ins && b.fin.ways.all (fun w => w.args.all fun v => decide (v ∈ after s b)) && (decide (b.fin.val = 0) || decide (b.fin.val ∈ after s b))
/-- What is known ahead of each block; sets may be one and the same. -/
structure Kn where
  ins : List (Option Nat)
  sets : List (List Int)
def Kn.set? (st : Kn) (n : Nat) : Option (List Int) := match st.ins[n]? with | some (some i) => st.sets[i]? | _ => none
def Kn.meet (st : Kn) (n o : Nat) : Kn × Bool :=
  match st.ins[n]? with
  | some (some i) =>
    let s := st.sets.getD i []
    let s' := s.filter fun v => decide (v ∈ st.sets.getD o [])
    ({ st with sets := st.sets.set i s' }, !decide (s'.length = s.length))
  | _ => ({ st with ins := st.ins.set n (some o) }, true)
def knWays (o : Nat) : List Edg → Kn → Bool → Kn × Bool
  | [], st, t => (st, t)
  | w :: ws, st, t => let r := st.meet w.to.toNat o; knWays o ws r.1 (r.2 || t)
def knBlk (n : Nat) (b : Blk) (st : Kn) (t : Bool) : Kn × Bool :=
  let r := match st.ins[n]? with
    | some (some i) => (st, t, i)
    | _ => ({ ins := st.ins.set n (some st.sets.length), sets := st.sets ++ [[]] }, true, st.sets.length)
  let st1 := r.1
  knWays st1.sets.length b.fin.ways { st1 with sets := st1.sets ++ [after (st1.sets.getD r.2.2 []) b] } r.2.1
def knPass (reach : List Bool) : Nat → List Blk → Kn → Bool → Kn × Bool
  | _, [], st, t => (st, t)
  | n, b :: bs, st, t =>
    if reach.getD n false = false ∨ (0 < n ∧ st.set? n = none) then knPass reach (n + 1) bs st t
    else let r := knBlk n b st t; knPass reach (n + 1) bs r.1 r.2
def knGo (reach : List Bool) (bs : List Blk) : Nat → Kn → Option Kn
  | 0, _ => none
  | k + 1, st => let r := knPass reach 0 bs st false; if r.2 then knGo reach bs k r.1 else some r.1
/-- No part is too long. -/
def lim : Nat := 1024
structure Blk.Lim (b : Blk) : Prop where
  params : b.params.length ≤ lim
  ins : b.ins.length ≤ lim
  ways : b.fin.ways.length ≤ lim
  iargs : ∀ i ∈ b.ins, i.args.length ≤ lim
  wargs : ∀ w ∈ b.fin.ways, w.args.length ≤ lim
structure Fnc.Lim (f : Fnc) : Prop where
  blocks : f.blocks.length ≤ lim
  each : ∀ b ∈ f.blocks, b.Lim
structure Prg.Lim (p : Prg) : Prop where
  arrs : p.arrs.length ≤ lim
  funcs : p.funcs.length ≤ lim
  each : ∀ f ∈ p.funcs, f.Lim
theorem dsts_length (is : List Ins) : (dsts is).length ≤ is.length := by
  unfold dsts
  exact Nat.le_trans (List.length_filter_le _ _) (by simp)
end Go.Pl.M

/- What 'palings/ssa.after' does, read off its translation by gen.py. -/
namespace Go.Pl.Try
set_option linter.unusedVariables false
set_option maxRecDepth 100000
def F56 (in1 : Option Nat) (ab2 : Option Addr) (nb2 cb2 : Nat) (ab3 : Option Addr) (nb3 cb3 : Nat) (b4 : Int) (b5 : Int) (ab6 : Option Addr) (nb6 cb6 : Nat) (b7 : Int) (w : World) (R : Value → World → Prop) : Prop :=
  AlP 47 [.slice ab2 nb2 cb2, .slice ab3 nb3 cb3, .int .i64 b4, .int .i64 b5, .slice ab6 nb6 cb6, .int .i64 b7] w fun b8 w9 =>
  AlM w9 fun b10 w11 =>
  ∃ (x12 : Option Addr), ∃ w13 : World, Sem.run Pg (Instr.range 56 (.map in1)) w11 = .ok (.pointer x12) w13 ∧
  ∃ J14 : World → Nat → Prop, (∃ m16, J14 w13 m16) ∧
  ∀ w15 m16, J14 w15 m16 →
  (∃ w18 : World, Sem.run Pg (Instr.next (.pointer x12) false 0) w15 = .ok (.tuple ⟨[.bool false]⟩) w18 ∧
  ∃ (ax25 : Option Addr) (nx25 cx25 : Nat), cel w18 b8 0 = some (.slice ax25 nx25 cx25) ∧
  ∃ J26 : Int → World → Nat → Prop, (∃ m29, J26 0 w18 m29) ∧
  ∀ (x27 : Int), ∀ w28 m29, J26 x27 w28 m29 →
  sp (decide ((x27 : Int) < (nx25 : Nat)))
  (0 ≤ (x27 : Int) ∧ (x27 : Int) < (nx25 : Nat) ∧
  ptAt ax25 fun b31 o32 =>
  ∃ (x33 : Int), cel w28 b31 (o32 + x27.toNat * 1) = some (.int .i64 x33) ∧
  ∃ w34 : World, Sem.run Pg (Instr.mapUpdate 56 (.map (some b10)) (.int .i64 x33) (.bool true)) w28 = .ok () w34 ∧
  ∃ m30, m30 < m29 ∧ J26 (IntKind.wrap .i64 (x27 + 1)) w34 m30)
  (∃ (ax35 : Option Addr) (nx35 cx35 : Nat), cel w28 b8 1 = some (.slice ax35 nx35 cx35) ∧
  ∃ J36 : Int → World → Nat → Prop, (∃ m39, J36 0 w28 m39) ∧
  ∀ (x37 : Int), ∀ w38 m39, J36 x37 w38 m39 →
  sp (decide ((x37 : Int) < (nx35 : Nat)))
  (∀ K41 : World → Prop, (∀ w42, (
  ∃ m40, m40 < m39 ∧ J36 (IntKind.wrap .i64 (x37 + 1)) w42 m40) → K41 w42) →
  0 ≤ (x37 : Int) ∧ (x37 : Int) < (nx35 : Nat) ∧
  ptAt ax35 fun b43 o44 =>
  ∃ (x45 : Int) (x46 : Int) (ax47 : Option Addr) (nx47 cx47 : Nat) (x48 : Int) (x49 : Int) (x50 : Int) (x51 : Int), Row w38 b43 (o44 + x37.toNat * 7) [.int .i64 x45, .int .i64 x46, .slice ax47 nx47 cx47, .int .i64 x48, .int .i64 x49, .int .i64 x50, .int .i64 x51] ∧
  AlP 37 [.int .i64 0, .int .i64 0, .slice none 0 0, .int .i64 0, .int .i64 0, .int .i64 0, .int .i64 0] w38 fun b52 w53 =>
  StP b52 0 [.int .i64 x45, .int .i64 x46, .slice ax47 nx47 cx47, .int .i64 x48, .int .i64 x49, .int .i64 x50, .int .i64 x51] w53 fun w54 =>
  ∃ (x55 : Int), cel w54 b52 1 = some (.int .i64 x55) ∧
  sp (!decide ((x55 : Int) = 0))
  (∃ (x56 : Int), cel w54 b52 1 = some (.int .i64 x56) ∧
  ∃ w57 : World, Sem.run Pg (Instr.mapUpdate 56 (.map (some b10)) (.int .i64 x56) (.bool true)) w54 = .ok () w57 ∧
  K41 w57)
  (K41 w54))
  (R (.map (some b10)) w38))) ∨
  (∃ (k20 v21 : Value) (w19 : World), Sem.run Pg (Instr.next (.pointer x12) false 0) w15 = .ok (.tuple ⟨[.bool true, k20, v21]⟩) w19 ∧
  ∃ (x58 : Int) (x59 : Bool), Sem.run Pg (Instr.entry (.pointer x12)) w19 = .ok (.tuple ⟨[.int .i64 x58, .bool x59]⟩) w19 ∧
  ∃ w60 : World, Sem.run Pg (Instr.mapUpdate 56 (.map (some b10)) (.int .i64 x58) (.bool true)) w19 = .ok () w60 ∧
  ∃ m17, m17 < m16 ∧ J14 w60 m17)
def T56 : List Sh := [.v (.one .map), .v (.agg [.sl, .sl, (.int .i64), (.int .i64), .sl, (.int .i64)]), .v (.one .any), .v (.one .ptr), .v (.one .map), .v (.one .map), .v (.one (.int .i64)), .v (.one .any), .v (.one (.int .i64)), .v (.one .any), .v (.one .ptr), .v (.one .map), .v (.one .map), .v (.one .ptr), .v (.one .any), .v (.one .bool), .t [(.one (.int .i64)), (.one .bool)], .v (.one (.int .i64)), .v (.one .map), .v (.one (.int .i64)), .v (.one .ptr), .v (.one .sl), .v (.one (.int .i64)), .v (.one (.int .i64)), .v (.one .bool), .v (.one .ptr), .v (.one (.int .i64)), .v (.one .map), .v (.one (.int .i64)), .v (.one (.int .i64)), .v (.one .ptr), .v (.one .sl), .v (.one (.int .i64)), .v (.one (.int .i64)), .v (.one .bool), .v (.one .ptr), .v (.agg [(.int .i64), (.int .i64), .sl, (.int .i64), (.int .i64), (.int .i64), (.int .i64)]), .v (.one .ptr), .v (.one (.int .i64)), .v (.one .bool), .v (.one .map), .v (.one .ptr), .v (.one (.int .i64)), .v (.one (.int .i64)), .v (.one .map)]
def A56 : Ann := (.seq none .z (.seq none .z (.seq none (.seq none .z (.block none (.loop [] (.seq none .z (.seq none (.cond .z .z) (.block none (.seq none .z .z))))))) (.seq none (.seq none .z (.block none (.loop [23] (.seq none .z (.seq none (.cond .z .z) (.seq none (.block none (.seq none .z .z)) .z)))))) (.seq none (.seq none .z (.block none (.loop [33] (.seq none .z (.seq none (.cond .z .z) (.seq none (.block (some []) (.seq none .z (.seq none .z (.cond .z .z)))) .z)))))) (.seq none .z .z))))))
theorem F56_eq (in1 : Option Nat) (ab2 : Option Addr) (nb2 cb2 : Nat) (ab3 : Option Addr) (nb3 cb3 : Nat) (b4 : Int) (b5 : Int) (ab6 : Option Addr) (nb6 cb6 : Nat) (b7 : Int) (w : World) (R : Value → World → Prop) : F56 in1 ab2 nb2 cb2 ab3 nb3 cb3 b4 b5 ab6 nb6 cb6 b7 w R = denF Go.Proofs.Try.prog T56 Go.Proofs.Try.f56 A56 [.map in1, .agg ⟨[.slice ab2 nb2 cb2, .slice ab3 nb3 cb3, .int .i64 b4, .int .i64 b5, .slice ab6 nb6 cb6, .int .i64 b7]⟩] w R := by kernel_rfl
theorem F56_ok (in1 : Option Nat) (ab2 : Option Addr) (nb2 cb2 : Nat) (ab3 : Option Addr) (nb3 cb3 : Nat) (b4 : Int) (b5 : Int) (ab6 : Option Addr) (nb6 cb6 : Nat) (b7 : Int) {w : World} {R : Value → World → Prop} (h : F56 in1 ab2 nb2 cb2 ab3 nb3 cb3 b4 b5 ab6 nb6 cb6 b7 w R) : CallP Go.Proofs.Try.prog 56 [.map in1, .agg ⟨[.slice ab2 nb2 cb2, .slice ab3 nb3 cb3, .int .i64 b4, .int .i64 b5, .slice ab6 nb6 cb6, .int .i64 b7]⟩] w R :=
  calls_den (fun _ => drawn (by kernel_rfl)) Go.Proofs.Try.func56 (Nat.le_of_ble_eq_true (by kernel_rfl)) ((F56_eq in1 ab2 nb2 cb2 ab3 nb3 cb3 b4 b5 ab6 nb6 cb6 b7 w R).mp h)
end Go.Pl.Try
