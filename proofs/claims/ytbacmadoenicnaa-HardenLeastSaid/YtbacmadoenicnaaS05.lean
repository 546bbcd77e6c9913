/- Joined texts of the proof, part 5: Mem2, Rd, Pg, K, Mem3, F53, F28, F72, F41, F81, F66, F82, F68, F52. -/
import Derived.Test.YtbacmadoenicnaaS04
import Derived.Laws.MakeOwn
import Derived.Laws.OwnMore
import Derived.Test.YtbacmadoenicnaaProg
set_option maxRecDepth 2000
set_option linter.unusedVariables false
set_option linter.unusedSimpArgs false
set_option linter.unusedSectionVars false
/- Slices of the call's own: make, append, cut; what is read of a slice. -/
namespace Go.Pl
set_option linter.unusedVariables false

/-- A slice type by the table: its element type, in cells and bytes. -/
def slT (P : Program) (t e size bytes : Nat) : Bool :=
  match P.underlying t with
  | some (.slice e') => Nat.beq e e' && (match P.info? e' with
    | some i => Nat.beq i.size size && Nat.beq i.bytes bytes && (match i.zero with | some z => Nat.beq z.cells.size size | none => false)
    | none => false)
  | _ => false
theorem slT_inv {P : Program} {t e size bytes : Nat} (h : slT P t e size bytes = true) :
    P.underlying t = some (.slice e) ∧ ∃ i z, P.info? e = some i ∧ i.size = size ∧ i.bytes = bytes ∧ i.zero = some z ∧ z.cells.size = size := by
  unfold slT at h
  split at h
  · rename_i e' hu
    simp only [Bool.and_eq_true] at h
    have he := Nat.eq_of_beq_eq_true h.1
    subst he
    refine ⟨hu, ?_⟩
    have h2 := h.2
    split at h2
    · rename_i i hi
      simp only [Bool.and_eq_true] at h2
      have h3 := h2.2
      split at h3
      · rename_i z hz
        exact ⟨i, z, hi, Nat.eq_of_beq_eq_true h2.1.1, Nat.eq_of_beq_eq_true h2.1.2, hz, Nat.eq_of_beq_eq_true h3⟩
      · cases h3
    · cases h2
  · cases h
/-- Where a slice of the call's own lies: nowhere, or in a block behind 'pre' and ahead of 'sp'. -/
inductive Rw where
  | emp
  | at (b : Nat) (pre sp : List Value)
def Rw.L (r : Rw) (e : TypeId) (vs : List Value) : List (Nat × Obj) :=
  match r with
  | .emp => []
  | .at b pre sp => [(b, Cl e (pre ++ vs ++ sp))]
def Sls (size : Nat) (a : Option Addr) (n c : Nat) (vs : List Value) (r : Rw) : Prop :=
  vs.length = n * size ∧
  match r with
  | .emp => n = 0 ∧ c = 0
  | .at b pre sp => a = some ⟨b, pre.length, none⟩ ∧ (vs ++ sp).length = c * size ∧ c ≤ maxLen ∧ n ≤ c
theorem Sls.nil (size : Nat) (a : Option Addr) : Sls size a 0 0 [] .emp := ⟨by simp, rfl, rfl⟩
theorem Sls.c_le {size : Nat} {a : Option Addr} {n c : Nat} {vs : List Value} {r : Rw} (h : Sls size a n c vs r) : c ≤ maxLen := by
  cases r with
  | emp => have : c = 0 := h.2.2; omega
  | «at» b pre sp => exact h.2.2.2.1
theorem Sls.n_eq {a : Option Addr} {n c : Nat} {vs : List Value} {r : Rw} (h : Sls 1 a n c vs r) : n = vs.length := by have := h.1; omega
/-- What is appended. -/
def Src (w : World) (size : Nat) (a : Option Addr) (m : Nat) (vs : List Value) : Prop :=
  vs.length = m * size ∧ (m = 0 ∨ ∃ b o, a = some ⟨b, o, none⟩ ∧ Row w b o vs)
theorem Src.run {P : Program} {w : World} {size : Nat} {a : Option Addr} {m c : Nat} {vs : List Value} (h : Src w size a m vs) : (Builtin.firstCells size m (.slice a m c)).run P w = .ok vs.toArray w := by
  obtain ⟨hl, rfl | ⟨b, o, rfl, hr⟩⟩ := h
  · have : vs = [] := List.eq_nil_of_length_eq_zero (by simpa using hl)
    subst this
    cases a with
    | none => simp [Builtin.firstCells]
    | some a => simp [Builtin.firstCells, loadCells, loadCellsFrom]
  · exact run_firstCells_some (P := P) w size m ⟨b, o, none⟩ m c vs hl (fun j v hv => by rw [Addr.add_mid]; exact hr j v hv)
theorem Src.one {w0 w : World} {L : List (Nat × Obj)} (h : Hp w0 w L) (i : Nat) {b : Nat} {e : TypeId} {vs : List Value} (hi : L[i]? = some (b, Cl e vs)) : Src w vs.length (some ⟨b, 0, none⟩) 1 vs :=
  ⟨by simp, .inr ⟨b, 0, rfl, fun j v hj => by
    have := h.cl i hi (o := j) hj
    simpa [cel] using this⟩⟩
theorem setRow_facts {w : World} {b : Nat} {cur : Array Value} {e : TypeId} {fr : Nat × Nat} (h : w.heap[b]? = some (.cells cur e fr)) (cs : Array Value) :
    (w.setRow b cs).heap[b]? = some (.cells cs e fr) ∧ (w.setRow b cs).heap.size = w.heap.size ∧ (∀ k, k ≠ b → (w.setRow b cs).heap[k]? = w.heap[k]?) ∧ (w.setRow b cs).os = w.os ∧ (w.setRow b cs).output = w.output :=
  ⟨setRow_heap w b cur cs e fr h, by simp, fun k hk => setRow_other w b k cs hk, rfl, rfl⟩
section
variable {P : Program} {w0 w : World} {L : List (Nat × Obj)}
theorem app_run {t ty e size bytes : Nat} (hT : slT P t e size bytes = true) (hs0 : 0 < size) {a : Option Addr} {n c : Nat} {vs : List Value} {r : Rw} (hsl : Sls size a n c vs r) (h : Hp w0 w (r.L e vs ++ L))
    {ax : Option Addr} {m cx : Nat} {news : List Value} (hx : Src w size ax m news) (h1 : news.all (·.oneCell') = true) (h63 : n + m ≤ maxLen) (hby : (n + m) * bytes ≤ 140737488355328) :
    ∃ a' c' w' r', (Builtin.append_ #[t, t] ty ⟨[.slice a n c, .slice ax m cx]⟩).run P w = .ok (.slice a' (n + m) c') w' ∧ Sls size a' (n + m) c' (vs ++ news) r' ∧ Hp w0 w' (r'.L e (vs ++ news) ++ L) := by
  obtain ⟨ht, i, z, hi, rfl, rfl, hz, hzs⟩ := slT_inv hT
  have hnew : ∀ cc, (Builtin.firstCells i.size m (.slice ax m cc)).run P w = .ok news.toArray w := fun cc => hx.run (c := cc)
  have hlen : (vs ++ news).length = (n + m) * i.size := by rw [List.length_append, hsl.1, hx.1, Nat.add_mul]
  by_cases hc : n + m ≤ c
  · -- there is room
    cases r with
    | emp =>
      obtain ⟨hvl, hn0, hc0⟩ := hsl
      have hn : n = 0 := by omega
      have hm : m = 0 := by omega
      have hc0' : c = 0 := hc0
      subst hn hm hc0'
      have hv : vs = [] := List.eq_nil_of_length_eq_zero (by simpa using hvl)
      have hnn : news = [] := List.eq_nil_of_length_eq_zero (by simpa using hx.1)
      subst hv hnn
      refine ⟨a, 0, w, .emp, ?_, Sls.nil _ _, h⟩
      have h0 := hnew cx
      cases a with
      | none => simp [Builtin.append_, run_underlying ht, sizeOf, typeInfo, hi, Builtin.lenOf, h0]
      | some a => simp [Builtin.append_, run_underlying ht, sizeOf, typeInfo, hi, Builtin.lenOf, h0, storeCells]
    | «at» b pre sp =>
      obtain ⟨hvl, rfl, hcl, hcm, hnc⟩ := hsl
      have hb := h.at 0 (b := b) (o := Cl e (pre ++ vs ++ sp)) rfl
      have hspl : news.length ≤ sp.length := by
        rw [List.length_append] at hcl
        have : (n + m) * i.size ≤ c * i.size := Nat.mul_le_mul_right _ hc
        rw [Nat.add_mul] at this
        have := hx.1
        omega
      have hfit : pre.length + n * i.size + 0 + news.length ≤ (⟨pre ++ vs ++ sp⟩ : Array Value).size := by
        simp only [List.size_toArray, List.length_append]
        omega
      have hst := run_storeCells_at P b (pre.length + n * i.size) e news 0 ⟨pre ++ vs ++ sp⟩ w hb hfit (fun v hv => (List.all_eq_true.1 h1) v hv)
      have hadd : (⟨b, pre.length, none⟩ : Addr).add (n * i.size) = ⟨b, pre.length + n * i.size, none⟩ := Addr.add_mid _ _ _
      have hcells : ((pre ++ vs ++ sp).take (pre.length + n * i.size) ++ news ++ (pre ++ vs ++ sp).drop (pre.length + n * i.size + news.length)) = pre ++ (vs ++ news) ++ sp.drop news.length := by
        have h2 : pre.length + n * i.size = (pre ++ vs).length := by simp [hvl]
        rw [h2, List.take_left, ← List.drop_drop, List.drop_left]
        simp
      simp only [Nat.add_zero, hcells] at hst
      refine ⟨some ⟨b, pre.length, none⟩, c, w.setRow b (pre ++ (vs ++ news) ++ sp.drop news.length).toArray, .at b pre (sp.drop news.length), ?_, ⟨hlen, rfl, ?_, hcm, hc⟩, ?_⟩
      · simp [Builtin.append_, run_underlying ht, sizeOf, typeInfo, hi, Builtin.lenOf, hc, hnew cx, hadd, hst]
      · simp only [List.length_append, List.length_drop] at hcl ⊢
        omega
      · obtain ⟨q1, q2, q3⟩ := setRow_facts hb (pre ++ (vs ++ news) ++ sp.drop news.length).toArray
        have := h.turn 0 (b := b) rfl q2 q1 q3
        simpa [Rw.L] using this
  · -- a new array
    have hgrow : ∃ w', (Builtin.append_ #[t, t] ty ⟨[.slice a n c, .slice ax m cx]⟩).run P w = .ok (.slice (some ⟨w.heap.size, 0, none⟩) (n + m) (grownCap w (n + m) c e)) w' ∧
        w' = w.drew.alloc (.cells (vs.toArray ++ news.toArray ++ Builtin.zeroCells z.cells (grownCap w (n + m) c e - (n + m))) e) := by
      refine ⟨_, ?_, rfl⟩
      have hold : (Builtin.firstCells i.size n (.slice a n c)).run P w.drew = .ok vs.toArray w.drew := by
        refine Src.run (c := c) ⟨hsl.1, ?_⟩
        cases r with
        | emp => exact .inl hsl.2.1
        | «at» b pre sp =>
          right
          obtain ⟨hvl, rfl, hcl, hcm, hnc⟩ := hsl
          refine ⟨b, pre.length, rfl, fun j v hj => ?_⟩
          have hjl := (List.getElem?_eq_some_iff.1 hj).1
          have := h.drew.cl 0 (b := b) (e := e) (vs := pre ++ vs ++ sp) rfl (o := pre.length + j) (v := v) (by rw [List.append_assoc, List.getElem?_append_right (by omega), Nat.add_sub_cancel_left, List.getElem?_append_left hjl]; exact hj)
          exact this
      have hnew' : (Builtin.firstCells i.size m (.slice ax m cx)).run P w.drew = .ok news.toArray w.drew := Src.run (c := cx) ⟨hx.1, hx.2⟩
      have hc' : ¬ (n + m ≤ c) := hc
      have h63' : ¬ (9223372036854775807 < ((n : Int) + (m : Int))) := by simp only [maxLen] at h63; omega
      have hfit : ¬ (281474976710656 < Builtin.nextslicecap (n + m) c * i.bytes) := Nat.not_lt.2 (growslice_fits (by omega) hby)
      simp [Builtin.append_, run_underlying ht, sizeOf, typeInfo, zeroValue, hi, hz, Builtin.lenOf, hc', h63', hfit, Question.forced, hold, hnew', newRow, grownCap]
      congr 2
      apply Array.ext'
      simp [List.append_assoc]
    obtain ⟨w', hrun, rfl⟩ := hgrow
    have hge := grownCap_ge w (n + m) c e
    have hle := grownCap_le_maxLen w (n + m) c e h63
    refine ⟨_, _, _, .at w.heap.size [] (Builtin.zeroCells z.cells (grownCap w (n + m) c e - (n + m))).toList, hrun, ⟨hlen, rfl, ?_, hle, hge⟩, ?_⟩
    · rw [List.length_append, hlen, Array.length_toList, size_zeroCells, hzs, ← Nat.add_mul]
      congr 1; omega
    · have h2 : Hp w0 w L := by
        refine h.sub ?_
        exact List.sublist_append_right _ _
      have h3 := (h2.drew).al (.cells (vs.toArray ++ news.toArray ++ Builtin.zeroCells z.cells (grownCap w (n + m) c e - (n + m))) e)
      have hcs : (vs.toArray ++ news.toArray ++ Builtin.zeroCells z.cells (grownCap w (n + m) c e - (n + m))) = ⟨[] ++ (vs ++ news) ++ (Builtin.zeroCells z.cells (grownCap w (n + m) c e - (n + m))).toList⟩ := by
        apply Array.ext'
        simp
      rw [hcs] at h3
      rw [hcs]
      exact h3
theorem Hp.front {A B C : List (Nat × Obj)} (h : Hp w0 w (A ++ (B ++ C))) : Hp w0 w (B ++ (A ++ C)) := h.perm (by
  rw [← List.append_assoc, ← List.append_assoc]
  exact List.Perm.append_right C List.perm_append_comm)
theorem Hp.drop (h : Hp w0 w L) (k : Nat) : Hp w0 w (L.drop k) := h.sub (List.drop_sublist k L)
theorem app2 {t ty e size bytes : Nat} (hT : slT P t e size bytes = true) (hs0 : 0 < size) {a : Option Addr} {n c : Nat} {vs : List Value} {r : Rw} (hsl : Sls size a n c vs r) (L1 : List (Nat × Obj)) (h : Hp w0 w (L1 ++ (r.L e vs ++ L)))
    {ax : Option Addr} {m cx : Nat} {news : List Value} (hx : Src w size ax m news) (h1 : news.all (·.oneCell') = true) (h63 : n + m ≤ maxLen) (hby : (n + m) * bytes ≤ 140737488355328) :
    ∃ a' c' w' r', (Builtin.append_ #[t, t] ty ⟨[.slice a n c, .slice ax m cx]⟩).run P w = .ok (.slice a' (n + m) c') w' ∧ Sls size a' (n + m) c' (vs ++ news) r' ∧ Hp w0 w' (L1 ++ (r'.L e (vs ++ news) ++ L)) := by
  obtain ⟨a', c', w', r', h1, h2, h3⟩ := app_run (ty := ty) hT hs0 hsl h.front hx h1 h63 hby (cx := cx)
  exact ⟨a', c', w', r', h1, h2, h3.front⟩
/-- One element, laid in a block of its own first ('L1' has it at place 'i'). -/
theorem app1 {t ty e size bytes : Nat} (hT : slT P t e size bytes = true) (hs0 : 0 < size) {a : Option Addr} {n c : Nat} {vs : List Value} {r : Rw} (hsl : Sls size a n c vs r) (L1 : List (Nat × Obj)) {b : Nat} {news : List Value}
    (h : Hp w0 w (L1 ++ (r.L e vs ++ L))) (i : Nat) (hi : L1[i]? = some (b, Cl e news)) (hl : news.length = size) (h1 : news.all (·.oneCell') = true) (h63 : n + 1 ≤ maxLen) (hby : (n + 1) * bytes ≤ 140737488355328) :
    ∃ a' c' w' r', (Builtin.append_ #[t, t] ty ⟨[.slice a n c, .slice (some ⟨b, 0, none⟩) 1 1]⟩).run P w = .ok (.slice a' (n + 1) c') w' ∧ Sls size a' (n + 1) c' (vs ++ news) r' ∧ Hp w0 w' (L1 ++ (r'.L e (vs ++ news) ++ L)) := by
  have hsrc := Src.one h i (by rw [List.getElem?_append_left (List.getElem?_eq_some_iff.1 hi).1]; exact hi)
  rw [hl] at hsrc
  exact app2 hT hs0 hsl L1 h hsrc h1 h63 hby
theorem madeCells_list (z : Array Value) (k : Nat) (hz : z.size = 1) : (madeCells z k).toList = List.replicate k z[0]! := by
  apply List.ext_getElem
  · simp [madeCells]
  · intro i h1 h2
    have : i % 1 = 0 := Nat.mod_one i
    simp [madeCells, hz, this]
/-- make, of elements of one cell. -/
theorem make_run {t e bytes : Nat} (hT : slT P t e 1 bytes = true) {z : Value} (hz : (zeroOf P e).map (·.cells) = some #[z]) (h : Hp w0 w L) (n : Nat) (hby : n * bytes ≤ 140737488355328) (hm : n ≤ maxLen) :
    ∃ b w', (Instr.makeSlice t (.int .i64 (n : Int)) (.int .i64 (n : Int))).run P w = .ok (.slice (some ⟨b, 0, none⟩) n n) w' ∧ Hp w0 w' ((b, Cl e (List.replicate n z)) :: L) := by
  obtain ⟨ht, i, z', hi, h1, rfl, hz', hzs⟩ := slT_inv hT
  have hzc : z'.cells = #[z] := by
    simp only [zeroOf, hi, hz', Option.map_some, Option.some.injEq] at hz
    exact hz
  have hr := run_make (P := P) w t e i z' ht hi hz' .i64 .i64 (n : Int) (n : Int) (by omega) (by omega) (by rw [← Int.natCast_mul]; have := Nat.mul_comm i.bytes n; omega) (by simp only [maxLen] at hm; omega)
  simp only [Int.toNat_natCast, h1, Nat.mul_one] at hr
  refine ⟨_, _, hr, ?_⟩
  have hc : madeCells z'.cells n = ⟨List.replicate n z⟩ := by
    apply Array.ext'
    rw [madeCells_list _ _ hzs, hzc]
    rfl
  rw [hc]
  exact h.al _
/-- What lies behind the first 'k' elements. -/
theorem cut_run0 {t e size bytes : Nat} (hT : slT P t e size bytes = true) {a : Option Addr} {n c k : Nat} {vs : List Value} {r : Rw} (hsl : Sls size a n c vs r) (h : Hp w0 w (r.L e vs ++ L)) (hk : k ≤ n) (h63 : c ≤ maxLen) :
    ∃ a' c' r', (Instr.sliceAt t (.slice a n c) (some (.int .i64 (k : Int))) none none).run P w = .ok (.slice a' (n - k) c') w ∧ Sls size a' (n - k) c' (vs.drop (k * size)) r' ∧ Hp w0 w (r'.L e (vs.drop (k * size)) ++ L) := by
  obtain ⟨ht, i, z, hi, rfl, rfl, hz, hzs⟩ := slT_inv hT
  have hrun : (Instr.sliceAt t (.slice a n c) (some (.int .i64 (k : Int))) none none).run P w = .ok (.slice (if c = k then a else a.map (·.add (k * i.size))) (n - k) (c - k)) w := by
    simp [Instr.sliceAt, Instr.slice, run_und w ht, Instr.sliceBounds, Instr.sliceBound, asIntOf, hk, info_of_size hi w]
  rw [hrun]
  cases r with
  | emp =>
    obtain ⟨hvl, hn0, hc0⟩ := hsl
    have hn : n = 0 := by omega
    have hcc : c = 0 := hc0
    have hv : vs = [] := List.eq_nil_of_length_eq_zero (by simpa [hn] using hvl)
    subst hv hn hcc
    have hk0 : k = 0 := by omega
    subst hk0
    exact ⟨_, _, .emp, rfl, by simpa using Sls.nil _ _, by simpa [Rw.L] using h⟩
  | «at» b pre sp =>
    obtain ⟨hvl, rfl, hcl, hcm, hnc⟩ := hsl
    by_cases hck : c = k
    · have hkn : k = n := by omega
      subst hck
      refine ⟨_, _, .emp, rfl, ⟨?_, by omega, by omega⟩, h.sub (List.sublist_append_right _ _)⟩
      rw [List.length_drop, hvl, Nat.sub_mul]
    · refine ⟨_, _, .at b (pre ++ vs.take (k * i.size)) sp, rfl, ⟨?_, ?_, ?_, by omega, by omega⟩, ?_⟩
      · rw [List.length_drop, hvl, Nat.sub_mul]
      · rw [if_neg hck]
        have : k * i.size ≤ vs.length := by rw [hvl]; exact Nat.mul_le_mul_right _ hk
        simp [Addr.add_mid, List.length_take, Nat.min_eq_left this]
      · rw [List.length_append, List.length_drop, Nat.sub_mul, ← hcl, List.length_append]
        have : k * i.size ≤ vs.length := by rw [hvl]; exact Nat.mul_le_mul_right _ hk
        omega
      · have : pre ++ vs.take (k * i.size) ++ vs.drop (k * i.size) ++ sp = pre ++ vs ++ sp := by
          rw [List.append_assoc pre, List.take_append_drop]
        simpa [Rw.L, this] using h
theorem cut_run {t e size bytes : Nat} (hT : slT P t e size bytes = true) {a : Option Addr} {n c k : Nat} {vs : List Value} {r : Rw} (hsl : Sls size a n c vs r) (L1 : List (Nat × Obj)) (h : Hp w0 w (L1 ++ (r.L e vs ++ L))) (hk : k ≤ n) (h63 : c ≤ maxLen) :
    ∃ a' c' r', (Instr.sliceAt t (.slice a n c) (some (.int .i64 (k : Int))) none none).run P w = .ok (.slice a' (n - k) c') w ∧ Sls size a' (n - k) c' (vs.drop (k * size)) r' ∧ Hp w0 w (L1 ++ (r'.L e (vs.drop (k * size)) ++ L)) := by
  obtain ⟨a', c', r', h1, h2, h3⟩ := cut_run0 hT hsl h.front hk h63
  exact ⟨a', c', r', h1, h2, h3.front⟩
/-- The first 'k' elements. -/
theorem head_run0 {t e size bytes : Nat} (hT : slT P t e size bytes = true) {a : Option Addr} {n c k : Nat} {vs : List Value} {r : Rw} (hsl : Sls size a n c vs r) (h : Hp w0 w (r.L e vs ++ L)) (hk : k ≤ n) :
    ∃ r', (Instr.sliceAt t (.slice a n c) none (some (.int .i64 (k : Int))) none).run P w = .ok (.slice a k c) w ∧ Sls size a k c (vs.take (k * size)) r' ∧ Hp w0 w (r'.L e (vs.take (k * size)) ++ L) := by
  obtain ⟨ht, i, z, hi, rfl, rfl, hz, hzs⟩ := slT_inv hT
  have hkc : k ≤ c := by
    cases r with
    | emp => have := hsl.2.1; omega
    | «at» b pre sp => have := hsl.2.2.2.2; omega
  have hrun : (Instr.sliceAt t (.slice a n c) none (some (.int .i64 (k : Int))) none).run P w = .ok (.slice a k c) w := by
    simp [Instr.sliceAt, Instr.slice, run_und w ht, Instr.sliceBounds, Instr.sliceBound, asIntOf, hkc, info_of_size hi w]
    intro _
    cases a with
    | none => rfl
    | some a => simp [Addr.add]
  rw [hrun]
  cases r with
  | emp =>
    obtain ⟨hvl, hn0, hc0⟩ := hsl
    have hn : n = 0 := by omega
    have hcc : c = 0 := hc0
    have hv : vs = [] := List.eq_nil_of_length_eq_zero (by simpa [hn] using hvl)
    have hk0 : k = 0 := by omega
    subst hv hn hcc hk0
    exact ⟨.emp, rfl, by simpa using Sls.nil _ _, by simpa [Rw.L] using h⟩
  | «at» b pre sp =>
    obtain ⟨hvl, rfl, hcl, hcm, hnc⟩ := hsl
    have hkv : k * i.size ≤ vs.length := by rw [hvl]; exact Nat.mul_le_mul_right _ hk
    refine ⟨.at b pre (vs.drop (k * i.size) ++ sp), rfl, ⟨?_, rfl, ?_, hcm, hkc⟩, ?_⟩
    · rw [List.length_take, Nat.min_eq_left hkv]
    · rw [← List.append_assoc, List.take_append_drop]; exact hcl
    · have : pre ++ vs.take (k * i.size) ++ (vs.drop (k * i.size) ++ sp) = pre ++ vs ++ sp := by
        simp [← List.append_assoc]
        rw [List.append_assoc pre, List.take_append_drop]
      simpa [Rw.L, this] using h
theorem head_run {t e size bytes : Nat} (hT : slT P t e size bytes = true) {a : Option Addr} {n c k : Nat} {vs : List Value} {r : Rw} (hsl : Sls size a n c vs r) (L1 : List (Nat × Obj)) (h : Hp w0 w (L1 ++ (r.L e vs ++ L))) (hk : k ≤ n) :
    ∃ r', (Instr.sliceAt t (.slice a n c) none (some (.int .i64 (k : Int))) none).run P w = .ok (.slice a k c) w ∧ Sls size a k c (vs.take (k * size)) r' ∧ Hp w0 w (L1 ++ (r'.L e (vs.take (k * size)) ++ L)) := by
  obtain ⟨r', h1, h2, h3⟩ := head_run0 hT hsl h.front hk
  exact ⟨r', h1, h2, h3.front⟩
theorem set_splice {α : Type} (f : α → Value) (xs : List α) (i : Nat) (x : α) (h : i < xs.length) : splice (xs.map f) i [f x] = (xs.set i x).map f := by
  unfold splice
  apply List.ext_getElem?
  intro j
  simp only [List.length_singleton, List.getElem?_map, List.getElem?_set]
  rw [List.append_assoc, List.getElem?_append]
  simp only [List.length_take, List.length_map, Nat.min_eq_left (Nat.le_of_lt h)]
  by_cases h1 : j < i
  · rw [if_pos h1, List.getElem?_take, if_pos h1, if_neg (by omega)]
    simp
  · rw [if_neg h1]
    by_cases h2 : i = j
    · subst h2
      simp [h]
    · rw [if_neg h2, List.getElem?_append_right (by simp; omega)]
      simp only [List.length_singleton, List.getElem?_drop, List.getElem?_map]
      rw [show i + 1 + (j - i - 1) = j from by omega]
/-! ### reading -/
/-- A slice in memory that reads as 'xs': element by element, 'size' cells each, by 'R'. -/
structure RdS {α : Type} (size : Nat) (R : World → List Value → α → Prop) (w : World) (a : Option Addr) (n : Nat) (xs : List α) : Prop where
  len : xs.length = n
  le : n ≤ maxLen
  at_ : ∀ i x, xs[i]? = some x → ∃ b o vs, a = some ⟨b, o, none⟩ ∧ Row w b (o + i * size) vs ∧ vs.length = size ∧ R w vs x
theorem RdS.ext {α : Type} {size : Nat} {R : World → List Value → α → Prop} {w w' : World} {a : Option Addr} {n : Nat} {xs : List α} (hR : ∀ vs x, R w vs x → R w' vs x) (hx : Ext w w') (h : RdS size R w a n xs) : RdS size R w' a n xs :=
  ⟨h.len, h.le, fun i x hi => let ⟨b, o, vs, h1, h2, h3, h4⟩ := h.at_ i x hi; ⟨b, o, vs, h1, hx.row h2, h3, hR _ _ h4⟩⟩
theorem RdS.nil {α : Type} (size : Nat) (R : World → List Value → α → Prop) (w : World) (a : Option Addr) : RdS size R w a 0 [] := ⟨rfl, Nat.zero_le _, fun i x hi => by simp at hi⟩
def RI (k : IntKind) (_ : World) (vs : List Value) (x : Int) : Prop := vs = [.int k x]
def RB (_ : World) (vs : List Value) (x : Bool) : Prop := vs = [.bool x]
abbrev RdI (w : World) (a : Option Addr) (n : Nat) (xs : List Int) : Prop := RdS 1 (RI .i64) w a n xs
theorem RdI.ext {w w' : World} {a : Option Addr} {n : Nat} {xs : List Int} (h : RdI w a n xs) (hx : Ext w w') : RdI w' a n xs := RdS.ext (w := w) (R := RI .i64) (fun _ _ h => h) hx h
theorem RdI.at {w : World} {a : Option Addr} {n : Nat} {xs : List Int} (h : RdI w a n xs) {i : Nat} {x : Int} (hi : xs[i]? = some x) : ∃ b o, a = some ⟨b, o, none⟩ ∧ cel w b (o + i * 1) = some (.int .i64 x) := by
  obtain ⟨b, o, vs, h1, h2, h3, h4⟩ := h.at_ i x hi
  subst h4
  exact ⟨b, o, h1, h2 0 _ rfl⟩
/-- A cell of a slice of the call's own. -/
theorem Sls.cel_at {size : Nat} {e : TypeId} {a : Option Addr} {n c : Nat} {vs : List Value} {r : Rw} (hsl : Sls size a n c vs r) (L1 : List (Nat × Obj)) (h : Hp w0 w (L1 ++ (r.L e vs ++ L))) {j : Nat} {v : Value} (hj : vs[j]? = some v) :
    ∃ b o, a = some ⟨b, o, none⟩ ∧ cel w b (o + j) = some v := by
  replace h := h.front
  have hjl := (List.getElem?_eq_some_iff.1 hj).1
  cases r with
  | emp =>
    have := hsl.1
    have h0 : n = 0 := hsl.2.1
    rw [h0] at this
    omega
  | «at» b pre sp =>
    obtain ⟨hvl, rfl, hcl, hcm, hnc⟩ := hsl
    refine ⟨b, pre.length, rfl, h.cl 0 (b := b) (e := e) (vs := pre ++ vs ++ sp) rfl ?_⟩
    rw [List.append_assoc, List.getElem?_append_right (by omega), List.getElem?_append_left (by omega)]
    rw [show pre.length + j - pre.length = j from by omega]
    exact hj
/-- What a slice of the call's own reads as. -/
theorem Sls.rd {α : Type} {size : Nat} {R : World → List Value → α → Prop} {e : TypeId} {a : Option Addr} {n c : Nat} {vs : List Value} {r : Rw} (hsl : Sls size a n c vs r) (L1 : List (Nat × Obj)) (h : Hp w0 w (L1 ++ (r.L e vs ++ L))) {xs : List α}
    (hlen : xs.length = n) (hR : ∀ i x, xs[i]? = some x → R w ((vs.drop (i * size)).take size) x) : RdS size R w a n xs := by
  replace h := h.front
  refine ⟨hlen, ?_, fun i x hi => ?_⟩
  · cases r with
    | emp => have := hsl.2.1; omega
    | «at» b pre sp => exact Nat.le_trans hsl.2.2.2.2 hsl.2.2.2.1
  have hin : i < n := by rw [← hlen]; exact (List.getElem?_eq_some_iff.1 hi).1
  cases r with
  | emp => have := hsl.2.1; omega
  | «at» b pre sp =>
    obtain ⟨hvl, rfl, hcl, hcm, hnc⟩ := hsl
    have hfit : i * size + size ≤ vs.length := by
      rw [hvl]
      have : (i + 1) * size ≤ n * size := Nat.mul_le_mul_right _ hin
      rw [Nat.add_mul, Nat.one_mul] at this
      exact this
    refine ⟨b, pre.length, _, rfl, fun j v hj => ?_, ?_, hR i x hi⟩
    · rw [List.getElem?_take] at hj
      split at hj
      · rename_i hjs
        rw [List.getElem?_drop] at hj
        refine h.cl 0 (b := b) (e := e) (vs := pre ++ vs ++ sp) rfl ?_
        rw [List.append_assoc, List.getElem?_append_right (by omega), List.getElem?_append_left (by omega)]
        rw [show pre.length + i * size + j - pre.length = i * size + j from by omega]
        exact hj
      · cases hj
    · rw [List.length_take, List.length_drop]; omega
/-- A store into a slice of the call's own. -/
theorem Sls.st {size : Nat} {e : TypeId} {a : Option Addr} {n c : Nat} {vs : List Value} {r : Rw} (hsl : Sls size a n c vs r) (L1 : List (Nat × Obj)) (h : Hp w0 w (L1 ++ (r.L e vs ++ L))) {j : Nat} {us : List Value}
    (hj : j + us.length ≤ vs.length) (h0 : 0 < us.length) (h1 : us.all (·.oneCell') = true) {K : Nat → Nat → World → Prop} (k : ∀ b o w1, a = some ⟨b, o, none⟩ → Sls size a n c (splice vs j us) r → Hp w0 w1 (L1 ++ (r.L e (splice vs j us) ++ L)) → K b o w1) :
    ptAt a fun b o => StP b (o + j) us w fun w1 => K b o w1 := by
  cases r with
  | emp =>
    have := hsl.1
    have hn : n = 0 := hsl.2.1
    rw [hn] at this
    omega
  | «at» b pre sp =>
    obtain ⟨hvl, rfl, hcl, hcm, hnc⟩ := hsl
    refine ptAt_of rfl ?_
    refine stp h.front 0 (b := b) (e := e) (old := pre ++ vs ++ sp) rfl (by simp; omega) h1 fun w1 h2 => ?_
    have hs : splice (pre ++ vs ++ sp) (pre.length + j) us = pre ++ splice vs j us ++ sp := by
      unfold splice
      rw [List.append_assoc pre vs sp, List.take_length_add_append, show pre.length + j + us.length = pre.length + (j + us.length) from by omega, List.drop_length_add_append]
      rw [List.take_append_of_le_length (by omega), List.drop_append_of_le_length (by omega)]
      simp
    have h3 : Hp w0 w1 ((Rw.at b pre sp).L e (splice vs j us) ++ (L1 ++ L)) := by
      have := h2
      simp only [Rw.L, List.cons_append, List.nil_append, List.set, hs] at this
      exact this
    refine k b pre.length w1 rfl ⟨?_, rfl, ?_, hcm, hnc⟩ h3.front
    · rw [splice_length hj]; exact hvl
    · rw [List.length_append, splice_length hj, ← List.length_append]; exact hcl
end
/-! ### comparisons with nil -/
theorem ptr_nil {P : Program} {t e : TypeId} (hu : P.underlying t = some (.pointer e)) (p : Option Addr) (w : World) : (Op.equal t (.pointer p) (.pointer none)).run P w = .ok p.isNone w := by
  unfold Op.equal
  have e : Op.maxDepth = Nat.succ 9999 := rfl
  rw [e, Op.equalIn]
  simp only [Sem.run_bind, run_und w hu, Result.andThen_ok]
  cases p <;> rfl
theorem map_nil {P : Program} {t k e : TypeId} (hu : P.underlying t = some (.map k e)) (p : Option Nat) (w : World) : (Op.equal t (.map p) (.map none)).run P w = .ok p.isNone w := by
  unfold Op.equal
  have e : Op.maxDepth = Nat.succ 9999 := rfl
  rw [e, Op.equalIn]
  simp only [Sem.run_bind, run_und w hu, Result.andThen_ok]
  cases p <;> rfl
theorem eql_ptr_nil {P : Program} {t e : TypeId} (hu : P.underlying t = some (.pointer e)) (x y : Operand) (p : Option Addr) (w : World) :
    (do eqGuard .eql t x y (.pointer p) (.pointer none); binOp .eql t (.pointer p) (.pointer none) : Sem Value).run P w = .ok (.bool p.isNone) w := by
  have hg : (eqGuard .eql t x y (.pointer p) (.pointer none)).run P w = .ok () w := by unfold eqGuard; simp
  have hb : binOp .eql t (.pointer p) (.pointer none) = (do pure (.bool (← Op.equal t (.pointer p) (.pointer none)))) := rfl
  rw [hb]
  simp only [Sem.run_bind, hg, Result.andThen_ok, ptr_nil hu, Sem.run_pure]
theorem eql_map_nil {P : Program} {t k e : TypeId} (hu : P.underlying t = some (.map k e)) (x y : Operand) (p : Option Nat) (w : World) :
    (do eqGuard .eql t x y (.map p) (.map none); binOp .eql t (.map p) (.map none) : Sem Value).run P w = .ok (.bool p.isNone) w := by
  have hg : (eqGuard .eql t x y (.map p) (.map none)).run P w = .ok () w := by unfold eqGuard; simp
  have hb : binOp .eql t (.map p) (.map none) = (do pure (.bool (← Op.equal t (.map p) (.map none)))) := rfl
  rw [hb]
  simp only [Sem.run_bind, hg, Result.andThen_ok, map_nil hu, Sem.run_pure]
theorem neq_map_nil {P : Program} {t k e : TypeId} (hu : P.underlying t = some (.map k e)) (x y : Operand) (p : Option Nat) (w : World) :
    (do eqGuard .neq t x y (.map p) (.map none); binOp .neq t (.map p) (.map none) : Sem Value).run P w = .ok (.bool (!p.isNone)) w := by
  have hg : (eqGuard .neq t x y (.map p) (.map none)).run P w = .ok () w := by unfold eqGuard; simp
  have hb : binOp .neq t (.map p) (.map none) = (do pure (.bool (!(← Op.equal t (.map p) (.map none))))) := rfl
  rw [hb]
  simp only [Sem.run_bind, hg, Result.andThen_ok, map_nil hu, Sem.run_pure]
end Go.Pl

/- How the program's data lie in memory. -/
namespace Go.Pl
open M
set_option linter.unusedVariables false
def REdge (w : World) (vs : List Value) (x : Edg) : Prop := ∃ a n c, vs = [.int .i64 x.to, .slice a n c] ∧ RdI w a n x.args
structure RdIC (w : World) (a : Option Addr) (n c : Nat) (xs : List Int) : Prop where
  rd : RdI w a n xs
  cap : n ≤ c
theorem RdIC.len {w : World} {a : Option Addr} {n c : Nat} {xs : List Int} (h : RdIC w a n c xs) : xs.length = n := h.rd.len
theorem RdIC.le {w : World} {a : Option Addr} {n c : Nat} {xs : List Int} (h : RdIC w a n c xs) : n ≤ maxLen := h.rd.le
theorem RdIC.ext {w w' : World} {a : Option Addr} {n c : Nat} {xs : List Int} (h : RdIC w a n c xs) (hx : Ext w w') : RdIC w' a n c xs := ⟨RdI.ext h.rd hx, h.cap⟩
def RIns (w : World) (vs : List Value) (i : Ins) : Prop := ∃ a n c, vs = [.int .i64 i.op, .int .i64 i.dst, .slice a n c, .int .i64 i.num, .int .i64 i.bin, .int .i64 i.arr, .int .i64 i.fn] ∧ RdIC w a n c i.args
def RBlock (w : World) (vs : List Value) (b : Blk) : Prop := ∃ ap np cp ai ni ci ae ne ce, vs = [.slice ap np cp, .slice ai ni ci, .int .i64 b.fin.kind, .int .i64 b.fin.val, .slice ae ne ce, .int .i64 b.fin.trap] ∧
  RdI w ap np b.params ∧ RdS 7 RIns w ai ni b.ins ∧ RdS 2 REdge w ae ne b.fin.ways
abbrev RdBlocks (w : World) (a : Option Addr) (n : Nat) (bs : List Blk) : Prop := RdS 6 RBlock w a n bs
def RFunc (w : World) (vs : List Value) (f : Fnc) : Prop := ∃ a n c, vs = [.string f.name, .slice a n c] ∧ RdBlocks w a n f.blocks
def RArr (w : World) (vs : List Value) (x : Arr) : Prop := vs = [.string x.name, .int .i64 x.hold, .int .i64 x.size]
theorem REdge.ext {w w' : World} (hx : Ext w w') {vs : List Value} {x : Edg} : REdge w vs x → REdge w' vs x := fun ⟨a, n, c, h1, h2⟩ => ⟨a, n, c, h1, h2.ext hx⟩
theorem RIns.ext {w w' : World} (hx : Ext w w') {vs : List Value} {x : Ins} : RIns w vs x → RIns w' vs x := fun ⟨a, n, c, h1, h2⟩ => ⟨a, n, c, h1, h2.ext hx⟩
theorem RBlock.ext {w w' : World} (hx : Ext w w') {vs : List Value} {x : Blk} : RBlock w vs x → RBlock w' vs x := fun ⟨ap, np, cp, ai, ni, ci, ae, ne, ce, h1, h2, h3, h4⟩ =>
  ⟨ap, np, cp, ai, ni, ci, ae, ne, ce, h1, h2.ext hx, h3.ext (fun _ _ => RIns.ext hx) hx, h4.ext (fun _ _ => REdge.ext hx) hx⟩
theorem RdBlocks.ext {w w' : World} (hx : Ext w w') {a : Option Addr} {n : Nat} {bs : List Blk} (h : RdBlocks w a n bs) : RdBlocks w' a n bs := RdS.ext (w := w) (R := RBlock) (fun _ _ => RBlock.ext hx) hx h
theorem RFunc.ext {w w' : World} (hx : Ext w w') {vs : List Value} {x : Fnc} : RFunc w vs x → RFunc w' vs x := fun ⟨a, n, c, h1, h2⟩ => ⟨a, n, c, h1, h2.ext hx⟩
def RInts (w : World) (vs : List Value) (xs : List Int) : Prop := ∃ a n c, vs = [.slice a n c] ∧ RdI w a n xs
theorem RInts.ext {w w' : World} (hx : Ext w w') {vs : List Value} {xs : List Int} : RInts w vs xs → RInts w' vs xs := fun ⟨a, n, c, h1, h2⟩ => ⟨a, n, c, h1, h2.ext hx⟩
abbrev RdBs (w : World) (a : Option Addr) (n : Nat) (xs : List Bool) : Prop := RdS 1 RB w a n xs
theorem RdBs.ext {w w' : World} {a : Option Addr} {n : Nat} {xs : List Bool} (h : RdBs w a n xs) (hx : Ext w w') : RdBs w' a n xs := RdS.ext (w := w) (R := RB) (fun _ _ h => h) hx h
theorem RdBs.at {w : World} {a : Option Addr} {n : Nat} {xs : List Bool} (h : RdBs w a n xs) {i : Nat} {x : Bool} (hi : xs[i]? = some x) : ∃ b o, a = some ⟨b, o, none⟩ ∧ cel w b (o + i * 1) = some (.bool x) := by
  obtain ⟨b, o, vs, h1, h2, h3, h4⟩ := h.at_ i x hi
  subst h4
  exact ⟨b, o, h1, h2 0 _ rfl⟩
abbrev RdII (w : World) (a : Option Addr) (n : Nat) (xs : List (List Int)) : Prop := RdS 1 RInts w a n xs
theorem RdII.ext {w w' : World} {a : Option Addr} {n : Nat} {xs : List (List Int)} (h : RdII w a n xs) (hx : Ext w w') : RdII w' a n xs := RdS.ext (w := w) (R := RInts) (fun _ _ => RInts.ext hx) hx h
theorem RdII.at {w : World} {a : Option Addr} {n : Nat} {xs : List (List Int)} (h : RdII w a n xs) {i : Nat} {x : List Int} (hi : xs[i]? = some x) : ∃ b o a' n' c', a = some ⟨b, o, none⟩ ∧ cel w b (o + i * 1) = some (.slice a' n' c') ∧ RdI w a' n' x := by
  obtain ⟨b, o, vs, h1, h2, h3, a', n', c', rfl, h4⟩ := h.at_ i x hi
  exact ⟨b, o, a', n', c', h1, h2 0 _ rfl, h4⟩
/-- A graph behind its pointer. -/
def RdG (w : World) (p : Option Addr) (g : Gr) : Prop := ∃ b o ao no co ai ni ci ar nr cr, p = some ⟨b, o, none⟩ ∧ cel w b o = some (.slice ao no co) ∧ cel w b (o + 1) = some (.slice ai ni ci) ∧ cel w b (o + 2) = some (.slice ar nr cr) ∧
  RdII w ao no g.outs ∧ RdII w ai ni g.ins ∧ RdBs w ar nr g.reach
theorem RdG.ext {w w' : World} {p : Option Addr} {g : Gr} (hx : Ext w w') : RdG w p g → RdG w' p g := fun ⟨b, o, ao, no, co, ai, ni, ci, ar, nr, cr, h0, h1, h2, h3, h4, h5, h6⟩ =>
  ⟨b, o, ao, no, co, ai, ni, ci, ar, nr, cr, h0, hx.cel h1, hx.cel h2, hx.cel h3, h4.ext hx, h5.ext hx, h6.ext hx⟩
theorem RdWays.ext {w w' : World} {a : Option Addr} {n : Nat} {xs : List Edg} (h : RdS 2 REdge w a n xs) (hx : Ext w w') : RdS 2 REdge w' a n xs := RdS.ext (w := w) (R := REdge) (fun _ _ => REdge.ext hx) hx h
theorem RdInss.ext {w w' : World} {a : Option Addr} {n : Nat} {xs : List Ins} (h : RdS 7 RIns w a n xs) (hx : Ext w w') : RdS 7 RIns w' a n xs := RdS.ext (w := w) (R := RIns) (fun _ _ => RIns.ext hx) hx h
theorem wrap_in {x : Int} (h0 : -9223372036854775808 ≤ x) (h1 : x ≤ 9223372036854775807) : IntKind.wrap .i64 x = x := by rw [IntKind.wrap_i64]; omega
theorem wrap_nat {x : Nat} (h1 : x ≤ maxLen) : IntKind.wrap .i64 (x : Int) = x := by rw [IntKind.wrap_i64]; simp only [maxLen] at h1; omega
theorem wrap_succ {x : Nat} (h1 : x + 1 ≤ maxLen) : IntKind.wrap .i64 ((x : Int) + 1) = ((x + 1 : Nat) : Int) := by rw [IntKind.wrap_i64]; simp only [maxLen] at h1; omega
def RProg (w : World) (vs : List Value) (p : Prg) : Prop := ∃ aa na ca af nf cf, vs = [.slice aa na ca, .slice af nf cf, .int .i64 p.main] ∧ RdS 3 RArr w aa na p.arrs ∧ RdS 2 RFunc w af nf p.funcs
theorem RProg.ext {w w' : World} {vs : List Value} {p : Prg} (h : RProg w vs p) (hx : Ext w w') : RProg w' vs p := by
  obtain ⟨aa, na, ca, af, nf, cf, e, h1, h2⟩ := h
  exact ⟨aa, na, ca, af, nf, cf, e, RdS.ext (w := w) (R := RArr) (fun _ _ h => h) hx h1, RdS.ext (w := w) (R := RFunc) (fun _ _ => RFunc.ext hx) hx h2⟩
theorem RIns.ext' {w w' : World} {vs : List Value} {x : Ins} (h : RIns w vs x) (hx : Ext w w') : RIns w' vs x := RIns.ext hx h
theorem RBlock.ext' {w w' : World} {vs : List Value} {x : Blk} (h : RBlock w vs x) (hx : Ext w w') : RBlock w' vs x := RBlock.ext hx h
theorem RFunc.ext' {w w' : World} {vs : List Value} {x : Fnc} (h : RFunc w vs x) (hx : Ext w w') : RFunc w' vs x := RFunc.ext hx h
theorem Hp.row {w0 w : World} {L : List (Nat × Obj)} (h : Hp w0 w L) (i : Nat) {b : Nat} {e : TypeId} {vs : List Value} (hi : L[i]? = some (b, Cl e vs)) : Row w b 0 vs := by
  intro j v hj
  rw [Nat.zero_add]
  exact h.cl i hi hj
end Go.Pl

/- The program. -/
namespace Go.Pl.Try
noncomputable abbrev Pg : Program := Go.Proofs.Try.prog
end Go.Pl.Try

/- Facts of this translation's table of types. -/
namespace Go.Pl.Try
theorem slBools : slT Pg 75 4 1 1 = true := by kernel_rfl
theorem slInts : slT Pg 34 3 1 8 = true := by kernel_rfl
theorem zBool : (zeroOf Pg 4).map (·.cells) = some #[.bool false] := by kernel_rfl
theorem zInt : (zeroOf Pg 3).map (·.cells) = some #[.int .i64 0] := by kernel_rfl
end Go.Pl.Try

/- Maps with integer keys of the call's own. -/
namespace Go.Pl
set_option linter.unusedVariables false
/-- An object that is a map with these entries, in this order of their making. -/
def MpO (m : List (Int × Value)) (o : Obj) : Prop := ∃ es clock, o = .map es clock ∧ es.toList.map (fun e => (e.key, e.val)) = m.map (fun p => (Value.int .i64 p.1, p.2)) ∧ (m.map Prod.fst).Nodup ∧
  (es.toList.map MapEntry.born).Nodup ∧ ∀ e ∈ es.toList, e.born < clock
theorem MpO.empty : MpO [] (.map #[] 0) := ⟨#[], 0, rfl, by simp, by simp, by simp, by simp⟩
def mget (m : List (Int × Value)) (k : Int) : Option Value := (m.find? (fun p => p.1 == k)).map Prod.snd
def mput (m : List (Int × Value)) (k : Int) (v : Value) : List (Int × Value) := if m.any (fun p => p.1 == k) then m.map (fun p => if p.1 = k then (k, v) else p) else m ++ [(k, v)]
def mdel (m : List (Int × Value)) (k : Int) : List (Int × Value) := m.filter (fun p => !(p.1 == k))
theorem findNow_spec (q : IntKind) (k : Int) : ∀ (m : List (Int × Value)) (es : List MapEntry) (i : Nat), es.map (fun e => (e.key, e.val)) = m.map (fun p => (Value.int .i64 p.1, p.2)) →
    Instr.findNow (.int q) (.int .i64 k) es i = some ((m.findIdx? (fun p => p.1 == k)).bind fun j => (m[j]?).map fun p => (i + j, p.2))
  | [], [], i, _ => by simp [Instr.findNow]
  | [], e :: es, i, h => by simp at h
  | p :: m, [], i, h => by simp at h
  | p :: m, e :: es, i, h => by
    simp only [List.map_cons, List.cons.injEq, Prod.mk.injEq] at h
    obtain ⟨⟨hk, hv⟩, ht⟩ := h
    simp only [Instr.findNow, hk, Instr.sameNow, if_true]
    by_cases e0 : p.1 = k
    · have h1 : (k == p.1) = true := by simp [e0]
      have h2 : (p.1 == k) = true := by simp [e0]
      simp [h1, List.findIdx?_cons, h2, hv]
    · have h1 : (k == p.1) = false := by simp; exact fun e => e0 e.symm
      have h2 : (p.1 == k) = false := by simp [e0]
      simp only [h1]
      rw [findNow_spec q k m es (i + 1) ht]
      simp only [List.findIdx?_cons, h2]
      cases m.findIdx? (fun p => p.1 == k) with
      | none => simp
      | some j => simp [Nat.add_assoc, Nat.add_comm 1 j]
theorem checkKey_run {P : Program} {t : TypeId} {q : IntKind} (ht : P.underlying t = some (.int q)) (b : Bool) (k : Int) (w : World) : (Instr.checkKey b 10000 t (.int .i64 k)).run P w = .ok () w := by
  have e : (10000 : Nat) = Nat.succ 9999 := rfl
  rw [e, Instr.checkKey]
  simp only [Sem.run_bind, run_und w ht, Result.andThen_ok]
  rfl
theorem findKey_run {P : Program} {t : TypeId} {q : IntKind} (ht : P.underlying t = some (.int q)) {m : List (Int × Value)} {es : List MapEntry} (h : es.map (fun e => (e.key, e.val)) = m.map (fun p => (Value.int .i64 p.1, p.2))) (k : Int) (w : World) :
    (Instr.findKey t (.int .i64 k) es).run P w = .ok ((m.findIdx? (fun p => p.1 == k)).bind fun j => (m[j]?).map fun p => (j, p.2)) w := by
  unfold Instr.findKey
  simp only [Sem.run_bind, run_und w ht, Result.andThen_ok]
  rw [findNow_spec q k m es 0 h]
  simp
theorem idx_cases (k : Int) : ∀ (m : List (Int × Value)), (∃ j v, m.findIdx? (fun p => p.1 == k) = some j ∧ m[j]? = some (k, v) ∧ mget m k = some v) ∨
    (m.findIdx? (fun p => p.1 == k) = none ∧ mget m k = none ∧ ∀ p ∈ m, p.1 ≠ k)
  | [] => .inr ⟨by simp, by simp [mget], by simp⟩
  | (a, u) :: m => by
    by_cases e : a = k
    · subst e
      exact .inl ⟨0, u, by simp [List.findIdx?_cons], by simp, by simp [mget]⟩
    · have e1 : (a == k) = false := by simp [e]
      rcases idx_cases k m with ⟨j, v, h1, h2, h3⟩ | ⟨h1, h2, h3⟩
      · refine .inl ⟨j + 1, v, ?_, by simpa using h2, ?_⟩
        · simp [List.findIdx?_cons, e1, h1]
        · simpa [mget, List.find?_cons, e1] using h3
      · refine .inr ⟨?_, ?_, ?_⟩
        · simp [List.findIdx?_cons, e1, h1]
        · simpa [mget, List.find?_cons, e1] using h2
        · intro p hp
          rcases List.mem_cons.1 hp with rfl | hp
          · exact e
          · exact h3 p hp
/-- A map type by the table: integer keys. -/
def mpT (P : Program) (t e : Nat) : Bool :=
  match P.underlying t with
  | some (.map k e') => Nat.beq e e' && (match P.underlying k with | some (.int .i64) => true | _ => false)
  | _ => false
theorem mpT_inv {P : Program} {t e : Nat} (h : mpT P t e = true) : ∃ k, P.underlying t = some (.map k e) ∧ P.underlying k = some (.int .i64) := by
  unfold mpT at h
  split at h
  · rename_i k e' hu
    simp only [Bool.and_eq_true] at h
    obtain ⟨h1, h2⟩ := h
    have he := Nat.eq_of_beq_eq_true h1
    subst he
    split at h2
    · rename_i hk; exact ⟨k, hu, hk⟩
    · cases h2
  · cases h
theorem getObj_run {P : Program} {w : World} {b : Nat} {es : Array MapEntry} {c : Nat} (h : w.heap[b]? = some (.map es c)) : (getObj b).run P w = .ok (.map es c) w := by
  simp [getObj, Sem.run, h]
theorem zero_run {P : Program} {e : TypeId} {z : Value} (h : zeroOf P e = some z) (w : World) : (zeroValue e).run P w = .ok z w := by
  unfold zeroOf at h
  split at h
  · rename_i i hi; simp [zeroValue, typeInfo, hi, h]
  · cases h
section
variable {P : Program} {w0 w : World} {L : List (Nat × Obj)}
theorem look_run {t e : Nat} (hT : mpT P t e = true) {z : Value} (hz : zeroOf P e = some z) {b : Nat} {o : Obj} {m : List (Int × Value)} (hm : MpO m o) (hb : w.heap[b]? = some o) (k : Int) (ok : Bool) :
    (Instr.lookup t (.map (some b)) (.int .i64 k) ok).run P w = .ok (if ok then .tuple ⟨[(mget m k).getD z, .bool (mget m k).isSome]⟩ else (mget m k).getD z) w := by
  obtain ⟨kt, ht, hk⟩ := mpT_inv hT
  obtain ⟨es, c, rfl, he, hnd, hbn, hcl⟩ := hm
  unfold Instr.lookup
  simp only [Sem.run_bind, run_und w ht, Result.andThen_ok, getObj_run hb, Sem.run_pure, checkKey_run hk, findKey_run hk he]
  rcases idx_cases k m with ⟨j, v, h1, h2, h3⟩ | ⟨h1, h2, h3⟩
  · simp only [h1, h2, h3, Option.bind_some, Option.map_some]
    cases ok <;> simp
  · simp only [h1, h2, Option.bind_none, Sem.run_bind, zero_run hz, Result.andThen_ok, Sem.run_pure]
    cases ok <;> simp
theorem look_nil {t e : Nat} (hT : mpT P t e = true) {z : Value} (hz : zeroOf P e = some z) (k : Int) (ok : Bool) (w : World) :
    (Instr.lookup t (.map none) (.int .i64 k) ok).run P w = .ok (if ok then .tuple ⟨[z, .bool false]⟩ else z) w := by
  obtain ⟨kt, ht, hk⟩ := mpT_inv hT
  unfold Instr.lookup
  simp only [Sem.run_bind, run_und w ht, Result.andThen_ok, Sem.run_pure, checkKey_run hk, findKey_run hk (m := []) (es := (#[] : Array MapEntry).toList) (by simp)]
  simp only [List.findIdx?_nil, Option.bind_none, Sem.run_bind, zero_run hz, Result.andThen_ok, Sem.run_pure]
theorem setObj_run {b : Nat} {es : Array MapEntry} {c : Nat} (h : w.heap[b]? = some (.map es c)) (o' : Obj) :
    ∃ w', (setObj b o').run P w = .ok () w' ∧ w'.heap.size = w.heap.size ∧ w'.heap[b]? = some o' ∧ (∀ k, k ≠ b → w'.heap[k]? = w.heap[k]?) ∧ w'.os = w.os ∧ w'.output = w.output := by
  have hlt := (Array.getElem?_eq_some_iff.1 h).1
  refine ⟨{ w with heap := w.heap.setIfInBounds b o' }, by simp [setObj, Sem.run, h], by simp, by simp [hlt], fun k hk => ?_, rfl, rfl⟩
  simp [Array.getElem?_setIfInBounds_ne (Ne.symm hk)]
theorem sameBits_int (k : Int) : Instr.sameBits 10000 (.int .i64 k) (.int .i64 k) = true := by
  have e : (10000 : Nat) = Nat.succ 9999 := rfl
  rw [e, Instr.sameBits]
  simp
theorem mput_keys (m : List (Int × Value)) (k : Int) (v : Value) (h : m.any (fun p => p.1 == k) = true) : (mput m k v).map Prod.fst = m.map Prod.fst := by
  unfold mput
  rw [if_pos h, List.map_map]
  apply List.map_congr_left
  intro p _
  simp only [Function.comp]
  split <;> simp_all
/-- A store into a map of the call's own. -/
theorem upd_run {t e : Nat} (hT : mpT P t e = true) (h : Hp w0 w L) (i : Nat) {b : Nat} {o : Obj} {m : List (Int × Value)} (hi : L[i]? = some (b, o)) (hm : MpO m o) (k : Int) (v : Value) :
    ∃ w' o', (Instr.mapUpdate t (.map (some b)) (.int .i64 k) v).run P w = .ok () w' ∧ MpO (mput m k v) o' ∧ Hp w0 w' (L.set i (b, o')) := by
  obtain ⟨kt, ht, hk⟩ := mpT_inv hT
  have hb := h.at i hi
  obtain ⟨es, c, rfl, he, hnd, hbn, hcl⟩ := hm
  unfold Instr.mapUpdate
  rcases idx_cases k m with ⟨j, u, h1, h2, h3⟩ | ⟨h1, h2, h3⟩
  · have hany : m.any (fun p => p.1 == k) = true := List.any_eq_true.2 ⟨_, List.mem_of_getElem? h2, by simp⟩
    obtain ⟨w', hr, hs, hb', ho⟩ := setObj_run (P := P) hb (.map (es.modify j fun e => { e with key := .int .i64 k, val := v }) c)
    have hlen : es.toList.length = m.length := by simpa using congrArg List.length he
    have hjm := (List.getElem?_eq_some_iff.1 h2).1
    have hje : j < es.toList.length := by omega
    have hkey : (((es[j]?).map (·.key)).getD (.int .i64 k)) = .int .i64 k := by
      have := congrArg (fun l => l[j]?) he
      simp only [List.getElem?_map, h2, Option.map_some] at this
      rw [← Array.getElem?_toList]
      cases hx : es.toList[j]? with
      | none => rw [hx] at this; cases this
      | some x => rw [hx] at this; simp only [Option.map_some, Option.some.injEq, Prod.mk.injEq] at this; simp [this.1]
    refine ⟨w', _, ?_, ⟨_, c, rfl, ?_, ?_, ?_, ?_⟩, h.turn i hi hs hb' ho⟩
    · simp only [Sem.run_bind, run_und w ht, Result.andThen_ok, getObj_run hb, checkKey_run hk, findKey_run hk he, h1, h2, Option.bind_some, Option.map_some, Instr.keyThatStays, hkey, sameBits_int, if_true, Sem.run_pure]
      exact hr
    · apply List.ext_getElem?
      intro x
      have hx := congrArg (fun l => l[x]?) he
      simp only [List.getElem?_map] at hx ⊢
      rw [mput, if_pos hany, List.getElem?_map, Array.getElem?_toList, Array.getElem?_modify, ← Array.getElem?_toList]
      by_cases hxj : j = x
      · subst hxj
        rw [if_pos rfl, h2]
        have : es.toList[j]? = some es.toList[j] := List.getElem?_eq_getElem hje
        rw [this]
        simp
      · rw [if_neg hxj, hx]
        cases hmx : m[x]? with
        | none => rfl
        | some p =>
          have hpk : p.1 ≠ k := by
            intro e
            have hpw := List.pairwise_iff_getElem.1 hnd
            have hxl := (List.getElem?_eq_some_iff.1 hmx).1
            have e1 : (m.map Prod.fst)[j]'(by simpa using hjm) = k := by rw [List.getElem_map, (List.getElem?_eq_some_iff.1 h2).2]
            have e2 : (m.map Prod.fst)[x]'(by simpa using hxl) = k := by rw [List.getElem_map, (List.getElem?_eq_some_iff.1 hmx).2, e]
            rcases Nat.lt_or_gt_of_ne hxj with hlt | hgt
            · exact hpw j x (by simpa using hjm) (by simpa using hxl) hlt (by rw [e1, e2])
            · exact hpw x j (by simpa using hxl) (by simpa using hjm) hgt (by rw [e1, e2])
          simp [hpk]
    · rw [mput_keys m k v hany]; exact hnd
    · have : (es.modify j fun e => { e with key := Value.int .i64 k, val := v }).toList.map MapEntry.born = es.toList.map MapEntry.born := by
        apply List.ext_getElem?
        intro x
        simp only [List.getElem?_map, Array.getElem?_toList, Array.getElem?_modify]
        split
        · cases es[x]? <;> simp
        · rfl
      rw [this]; exact hbn
    · intro x hx
      obtain ⟨y, hy⟩ := List.mem_iff_getElem?.1 hx
      rw [Array.getElem?_toList, Array.getElem?_modify] at hy
      split at hy
      · cases hz : es[y]? with
        | none => rw [hz] at hy; cases hy
        | some z =>
          rw [hz] at hy
          simp only [Option.map_some, Option.some.injEq] at hy
          subst hy
          exact hcl z (List.mem_of_getElem? (by rw [Array.getElem?_toList]; exact hz))
      · exact hcl x (List.mem_of_getElem? (by rw [Array.getElem?_toList]; exact hy))
  · have hany : ¬ m.any (fun p => p.1 == k) = true := by
      intro ha
      obtain ⟨p, hp, hpk⟩ := List.any_eq_true.1 ha
      exact h3 p hp (by simpa using hpk)
    obtain ⟨w', hr, hs, hb', ho⟩ := setObj_run (P := P) hb (.map (es.push { key := .int .i64 k, val := v, born := c }) (c + 1))
    refine ⟨w', _, ?_, ⟨_, c + 1, rfl, ?_, ?_, ?_, ?_⟩, h.turn i hi hs hb' ho⟩
    · simp only [Sem.run_bind, run_und w ht, Result.andThen_ok, getObj_run hb, checkKey_run hk, findKey_run hk he, h1, Option.bind_none]
      exact hr
    · simp [mput, hany, he]
    · rw [mput, if_neg hany, List.map_append, List.nodup_append]
      refine ⟨hnd, by simp, ?_⟩
      intro x hx y hy e
      obtain ⟨p, hp, rfl⟩ := List.mem_map.1 hx
      simp at hy
      exact h3 p hp (by rw [e, hy])
    · rw [Array.toList_push, List.map_append, List.nodup_append]
      refine ⟨hbn, by simp, ?_⟩
      intro x hx y hy e
      obtain ⟨p, hp, rfl⟩ := List.mem_map.1 hx
      simp at hy
      have := hcl p hp
      omega
    · intro x hx
      rw [Array.toList_push] at hx
      rcases List.mem_append.1 hx with hx | hx
      · have := hcl x hx; omega
      · simp at hx; subst hx; simp
theorem mlen_run {t e ty : Nat} (hT : mpT P t e = true) {b : Nat} {o : Obj} {m : List (Int × Value)} (hm : MpO m o) (hb : w.heap[b]? = some o) :
    (Builtin.len_ #[t] ty ⟨[.map (some b)]⟩).run P w = .ok (.int .i64 (m.length : Nat)) w := by
  obtain ⟨kt, ht, hk⟩ := mpT_inv hT
  obtain ⟨es, c, rfl, he, hnd, hbn, hcl⟩ := hm
  have hl : es.size = m.length := by simpa using congrArg List.length he
  simp [Builtin.len_, run_und w ht, getObj_run hb, goInt, hl]
/-! ### going through a map -/
/-- Of a map that is gone through, what is still to come. -/
def Rg (b : Nat) (m left : List (Int × Value)) (om oi : Obj) : Prop := ∃ es clock seen, om = .map es clock ∧ MpO m om ∧ oi = .mapIter (some b) clock seen clock ∧
  ((es.toList.filter fun e => !seen.contains e.born).map fun e => (e.key, e.val)).Perm (left.map fun p => (Value.int .i64 p.1, p.2))
theorem Rg.mp {b : Nat} {m left : List (Int × Value)} {om oi : Obj} (h : Rg b m left om oi) : MpO m om := let ⟨_, _, _, _, h, _⟩ := h; h
theorem range_run {t e : Nat} (hT : mpT P t e = true) (h : Hp w0 w L) {b : Nat} {o : Obj} {m : List (Int × Value)} (hb : w.heap[b]? = some o) (hm : MpO m o) :
    ∃ r w' oi, (Instr.range t (.map (some b))).run P w = .ok (.pointer (some ⟨r, 0, none⟩)) w' ∧ Hp w0 w' ((r, oi) :: L) ∧ Rg b m m o oi ∧ Ext w w' := by
  obtain ⟨kt, ht, hk⟩ := mpT_inv hT
  have hm' := hm
  obtain ⟨es, c, rfl, he, hnd, hbn, hcl⟩ := hm
  refine ⟨w.heap.size, w.alloc (.mapIter (some b) c #[] c), .mapIter (some b) c #[] c, ?_, h.al _, ⟨es, c, #[], rfl, hm', rfl, ?_⟩, ext_alloc w _⟩
  · unfold Instr.range
    simp only [Sem.run_bind, run_und w ht, Result.andThen_ok, getObj_run hb, Sem.run_pure]
    rfl
  · have : (es.toList.filter fun e => !(#[] : Array Nat).contains e.born) = es.toList := by simp
    rw [this, he]
theorem perm_map_inv {α β : Type} (f : α → β) (hf : ∀ x y, f x = f y → x = y) : ∀ {l1 l2 : List α}, (l1.map f).Perm (l2.map f) → l1.Perm l2 := by
  intro l1
  induction l1 with
  | nil => intro l2 h; have := h.length_eq; simp at this; rw [List.length_eq_zero_iff.1 this.symm]
  | cons x l1 ih =>
    intro l2 h
    have hx : f x ∈ l2.map f := h.subset (by simp)
    obtain ⟨y, hy, e⟩ := List.mem_map.1 hx
    have := hf _ _ e
    subst this
    obtain ⟨a, b, rfl⟩ := List.append_of_mem hy
    have h2 : (l1.map f).Perm ((a ++ b).map f) := by
      have : ((a ++ y :: b).map f).Perm (f y :: (a ++ b).map f) := by simp
      have h3 := h.trans this
      simp only [List.map_cons] at h3
      exact (List.perm_cons _).1 h3
    exact ((ih h2).cons y).trans List.perm_middle.symm
theorem choose_next {P : Program} (n : Nat) (h : 1 ≤ n) (w : World) : ∃ i w1, i < n ∧ w1.heap = w.heap ∧ (w1.os = w.os ∧ w1.output = w.output) ∧ (n = 1 → w1 = w) ∧ (choose (.mapNext n)).run P w = .ok i w1 := by
  by_cases h1 : n ≤ 1
  · have : n = 1 := by omega
    subst this
    exact ⟨0, w, by omega, rfl, ⟨rfl, rfl⟩, fun _ => rfl, by simp [choose, Sem.run, Question.forced]⟩
  · refine ⟨(w.tape w.drawn (.mapNext n)) % n, { w with drawn := w.drawn + 1 }, Nat.mod_lt _ (by omega), rfl, ⟨rfl, rfl⟩, fun e => absurd e (by omega), ?_⟩
    simp [choose, Sem.run, Question.forced, h1, Question.cut]
theorem born_filter {l : List MapEntry} (hn : (l.map MapEntry.born).Nodup) {e : MapEntry} (he : e ∈ l) : l.Perm (e :: l.filter fun x => !(x.born == e.born)) := by
  induction l with
  | nil => cases he
  | cons a l ih =>
    simp only [List.map_cons, List.nodup_cons] at hn
    rcases List.mem_cons.1 he with rfl | he
    · have : (l.filter fun x => !(x.born == e.born)) = l := by
        apply List.filter_eq_self.2
        intro x hx
        simp only [Bool.not_eq_true', beq_eq_false_iff_ne]
        intro e1
        exact hn.1 (by rw [← e1]; exact List.mem_map_of_mem hx)
      simp [List.filter_cons, this]
    · have hne : a.born ≠ e.born := fun e1 => hn.1 (by rw [e1]; exact List.mem_map_of_mem he)
      have h1 : (!(a.born == e.born)) = true := by simp [hne]
      rw [List.filter_cons_of_pos (by simpa using h1)]
      exact ((ih hn.2 he).cons a).trans (List.Perm.swap _ _ _)
theorem born_find {l : List MapEntry} (hn : (l.map MapEntry.born).Nodup) {e : MapEntry} (he : e ∈ l) : l.find? (fun x => x.born == e.born) = some e := by
  induction l with
  | nil => cases he
  | cons a l ih =>
    simp only [List.map_cons, List.nodup_cons] at hn
    rcases List.mem_cons.1 he with rfl | he
    · simp
    · have hne : a.born ≠ e.born := fun e1 => hn.1 (by rw [e1]; exact List.mem_map_of_mem he)
      have h1 : (a.born == e.born) = false := by simp [hne]
      rw [List.find?_cons, h1]
      exact ih hn.2 he
theorem kv_inj (x y : Int × Value) (h : ((Value.int .i64 x.1, x.2) : Value × Value) = (Value.int .i64 y.1, y.2)) : x = y := by
  obtain ⟨a, b⟩ := x
  obtain ⟨c, d⟩ := y
  simp only [Prod.mk.injEq, Value.int.injEq, true_and] at h
  simp [h.1, h.2]
/-- A step: nothing is left, or something comes. -/
theorem next_run {ty : Nat} (h : Hp w0 w L) (i : Nat) {r b : Nat} {om oi : Obj} (hi : L[i]? = some (r, oi)) (hb : w.heap[b]? = some om) (hrb : r ≠ b) {m left : List (Int × Value)} (hr : Rg b m left om oi) :
    (left = [] ∧ (Instr.next (.pointer (some ⟨r, 0, none⟩)) false ty).run P w = .ok (.tuple ⟨[.bool false]⟩) w) ∨
    ∃ k v left' w' oi', left.Perm ((k, v) :: left') ∧ (Instr.next (.pointer (some ⟨r, 0, none⟩)) false ty).run P w = .ok (.tuple ⟨[.bool true, .int .i64 k, v]⟩) w' ∧ Hp w0 w' (L.set i (r, oi')) ∧ Rg b m left' om oi' ∧ (k, v) ∈ m ∧
      (Instr.entry (.pointer (some ⟨r, 0, none⟩))).run P w' = .ok (.tuple ⟨[.int .i64 k, v]⟩) w' ∧ w'.heap.size = w.heap.size ∧ ∀ b, b ≠ r → w'.heap[b]? = w.heap[b]? := by
  have hm := hr.mp
  obtain ⟨es, c, seen, rfl, -, rfl, hperm⟩ := hr
  have hm' := hm
  obtain ⟨es', c', he', he, hnd, hbn, hcl⟩ := hm
  cases he'
  have hit := h.at i hi
  have hget : (getObj r).run P w = .ok (.mapIter (some b) c seen c) w := by simp [getObj, Sem.run, hit]
  have hgm := getObj_run (P := P) hb
  have hchk : (!seen.isEmpty && !es.isEmpty && es.all (fun x => decide (x.born ≥ c))) = false := by
    cases hes : es.isEmpty with
    | true => simp
    | false =>
      have : es.all (fun x => decide (x.born ≥ c)) = false := by
        rw [Array.all_eq_false]
        have hp : 0 < es.size := by
          rcases Nat.eq_zero_or_pos es.size with h0 | h0
          · rw [Array.isEmpty_iff_size_eq_zero.2 h0] at hes; cases hes
          · exact h0
        refine ⟨0, hp, ?_⟩
        have := hcl es[0] (by simp)
        simp only [decide_eq_true_eq, ge_iff_le]
        omega
      simp [this]
  have hold : (es.filter fun e => !seen.contains e.born).filter (fun e => decide (e.born < c)) = es.filter fun e => !seen.contains e.born := by
    rw [Array.filter_eq_self]
    intro x hx
    have := hcl x (by simpa using (Array.mem_filter.1 hx).1)
    simpa using this
  have hnew : (es.filter fun e => !seen.contains e.born).filter (fun e => decide (e.born ≥ c)) = #[] := by
    rw [Array.filter_eq_empty_iff]
    intro x hx
    have := hcl x (by simpa using (Array.mem_filter.1 hx).1)
    simp only [decide_eq_true_eq, ge_iff_le]
    omega
  unfold Instr.next
  simp only [Sem.run_bind, Sem.run_pure, hget, Result.andThen_ok, hgm, hchk, Bool.false_eq_true, if_false]
  simp only [hold, hnew, Array.append_empty]
  generalize hl : (es.filter fun e => !seen.contains e.born) = l
  have hlt : l.toList = es.toList.filter fun e => !seen.contains e.born := by rw [← hl, Array.toList_filter]
  by_cases hle : l = #[]
  · subst hle
    left
    have h0 : left = [] := by
      rw [← hlt] at hperm
      have := hperm.length_eq
      simpa using this.symm
    refine ⟨h0, ?_⟩
    obtain ⟨i', w1, hi', -, -, hw1, hc⟩ := choose_next (P := P) 1 (Nat.le_refl _) w
    have : i' = 0 := by omega
    subst this
    rw [hw1 rfl] at hc
    simp [hc]
  · right
    have hsz : 1 ≤ l.size := by
      rcases Nat.eq_zero_or_pos l.size with h0 | h0
      · exact absurd (Array.eq_empty_of_size_eq_zero h0) hle
      · exact h0
    have hemp : l.isEmpty = false := by
      cases hq : l.isEmpty with
      | false => rfl
      | true => exact absurd (Array.isEmpty_iff.1 hq) hle
    obtain ⟨j, w1, hj, hw1, hw1q, -, hc⟩ := choose_next (P := P) l.size hsz w
    have hle' : l[j]? = some l[j] := Array.getElem?_eq_getElem hj
    generalize l[j] = e at hle'
    have heL : e ∈ l.toList := List.mem_of_getElem? (by rw [Array.getElem?_toList]; exact hle')
    have heE : e ∈ es.toList := by rw [hlt] at heL; exact (List.mem_filter.1 heL).1
    have hndL : (l.toList.map MapEntry.born).Nodup := by rw [hlt]; exact hbn.sublist (List.Sublist.map _ List.filter_sublist)
    have hmem : ((e.key, e.val) : Value × Value) ∈ left.map fun p => (Value.int .i64 p.1, p.2) := hperm.subset (by rw [← hlt]; exact List.mem_map.2 ⟨e, heL, rfl⟩)
    obtain ⟨⟨k, v⟩, hkv, hkve⟩ := List.mem_map.1 hmem
    simp only [Prod.mk.injEq] at hkve
    obtain ⟨hk, hv⟩ := hkve
    obtain ⟨A, B, hAB⟩ := List.append_of_mem hkv
    have hit1 : w1.heap[r]? = some (.mapIter (some b) c seen c) := by rw [hw1]; exact hit
    have hlt1 := (Array.getElem?_eq_some_iff.1 hit1).1
    let w2 : World := { w1 with heap := w1.heap.setIfInBounds r (.mapIter (some b) c (seen.push e.born) c) }
    have hset : (setObj r (.mapIter (some b) c (seen.push e.born) c)).run P w1 = .ok () w2 := by simp [setObj, Sem.run, hit1, w2]
    have h2r : w2.heap[r]? = some (.mapIter (some b) c (seen.push e.born) c) := by simp [w2, hlt1]
    have h2b : w2.heap[b]? = some (.map es c) := by simp only [w2]; rw [Array.getElem?_setIfInBounds_ne hrb, hw1]; exact hb
    have hkvm : (k, v) ∈ m := by
      have : ((e.key, e.val) : Value × Value) ∈ m.map fun p => (Value.int .i64 p.1, p.2) := by rw [← he]; exact List.mem_map.2 ⟨e, heE, rfl⟩
      obtain ⟨q, hq, hqe⟩ := List.mem_map.1 this
      rw [← hk, ← hv] at hqe
      rw [kv_inj q (k, v) hqe] at hq
      exact hq
    refine ⟨k, v, A ++ B, w2, .mapIter (some b) c (seen.push e.born) c, by rw [hAB]; exact List.perm_middle, ?_, ?_, ⟨es, c, seen.push e.born, rfl, hm', rfl, ?_⟩, hkvm, ?_, by simp [w2, hw1], fun k' hk' => by simp only [w2]; rw [Array.getElem?_setIfInBounds_ne (Ne.symm hk'), hw1]⟩
    · simp only [hemp, Bool.false_eq_true, if_false, Array.empty_append, Array.size_map, hc, Result.andThen_ok, Array.getElem?_map, hle', Option.map_some, Sem.run_bind, hset, Sem.run_pure, hk, hv]
    · exact h.turn i hi (by simp [w2, hw1]) h2r ⟨fun k' hk' => by simp only [w2]; rw [Array.getElem?_setIfInBounds_ne (Ne.symm hk'), hw1], hw1q⟩
    · have e1 : (es.toList.filter fun x => !(seen.push e.born).contains x.born) = l.toList.filter fun x => !(x.born == e.born) := by
        rw [hlt, List.filter_filter]
        apply List.filter_congr
        intro x _
        simp only [Array.contains_push, Bool.not_or]
        rw [Bool.and_comm, Bool.beq_comm]
      rw [e1]
      have p1 := (born_filter hndL heL).map fun e => (e.key, e.val)
      rw [← hlt] at hperm
      have p2 := p1.symm.trans hperm
      rw [hAB] at p2
      have p3 : (((k, v) :: (A ++ B)).map fun p : Int × Value => ((Value.int .i64 p.1, p.2) : Value × Value)).Perm ((A ++ (k, v) :: B).map fun p => (Value.int .i64 p.1, p.2)) := (List.perm_middle.symm).map _
      have p4 := p2.trans p3.symm
      simp only [List.map_cons, hk, hv] at p4
      exact (List.perm_cons _).1 p4
    · unfold Instr.entry
      have g1 : (getObj r).run P w2 = .ok (.mapIter (some b) c (seen.push e.born) c) w2 := by simp [getObj, Sem.run, h2r]
      have g2 := getObj_run (P := P) h2b
      have g3 : es.find? (fun x => x.born == e.born) = some e := by rw [← Array.find?_toList]; exact born_find hbn heE
      simp only [Sem.run_bind, Sem.run_pure, g1, Result.andThen_ok, Array.back?_push, g2, bne_self_eq_false, Bool.false_eq_true, if_false, g3, hk, hv]
/-- A nil map is gone through. -/
theorem range_nil {t e : Nat} (hT : mpT P t e = true) (h : Hp w0 w L) :
    ∃ r w' oi, (Instr.range t (.map none)).run P w = .ok (.pointer (some ⟨r, 0, none⟩)) w' ∧ Hp w0 w' ((r, oi) :: L) ∧ Ext w w' ∧ ∀ ty w'', w''.heap[r]? = some oi → (Instr.next (.pointer (some ⟨r, 0, none⟩)) false ty).run P w'' = .ok (.tuple ⟨[.bool false]⟩) w'' := by
  obtain ⟨kt, ht, hk⟩ := mpT_inv hT
  refine ⟨w.heap.size, w.alloc (.mapIter none 0 #[] 0), .mapIter none 0 #[] 0, ?_, h.al _, ext_alloc w _, ?_⟩
  · unfold Instr.range
    simp only [Sem.run_bind, run_und w ht, Result.andThen_ok, Sem.run_pure]
    rfl
  · intro ty w'' hw
    have g1 : (getObj w.heap.size).run P w'' = .ok (.mapIter none 0 #[] 0) w'' := by simp [getObj, Sem.run, hw]
    unfold Instr.next
    simp only [Sem.run_bind, Sem.run_pure, g1, Result.andThen_ok]
end
theorem CallP.mono {P : Program} {f : FuncId} {vs : List Value} {w : World} {K K' : Value → World → Prop} (h : CallP P f vs w K) (hk : ∀ v w', K v w' → K' v w') : CallP P f vs w K' :=
  Calls.mono h fun _ _ ⟨v, e, hv⟩ => ⟨v, e, hk v _ hv⟩
theorem CallV.mono {P : Program} {g : Value} {vs : List Value} {w : World} {K K' : Value → World → Prop} (h : CallV P g vs w K) (hk : ∀ v w', K v w' → K' v w') : CallV P g vs w K' := by
  unfold CallV at h ⊢
  split at h
  · exact ⟨h.1, h.2.mono hk⟩
  · exact h
theorem slice_nil {P : Program} {t e : TypeId} (hu : P.underlying t = some (.slice e)) (a : Option Addr) (n c : Nat) (w : World) : (Op.equal t (.slice a n c) (.slice none 0 0)).run P w = .ok a.isNone w := by
  unfold Op.equal
  have e : Op.maxDepth = Nat.succ 9999 := rfl
  rw [e, Op.equalIn]
  simp only [Sem.run_bind, run_und w hu, Result.andThen_ok]
  cases a <;> rfl
theorem eql_slice_nil {P : Program} {t e : TypeId} (hu : P.underlying t = some (.slice e)) (x y : Operand) (a : Option Addr) (n c : Nat) (w : World) :
    (do eqGuard .eql t x y (.slice a n c) (.slice none 0 0); binOp .eql t (.slice a n c) (.slice none 0 0) : Sem Value).run P w = .ok (.bool a.isNone) w := by
  have hg : (eqGuard .eql t x y (.slice a n c) (.slice none 0 0)).run P w = .ok () w := by unfold eqGuard; simp
  have hb : binOp .eql t (.slice a n c) (.slice none 0 0) = (do pure (.bool (← Op.equal t (.slice a n c) (.slice none 0 0)))) := rfl
  rw [hb]
  simp only [Sem.run_bind, hg, Result.andThen_ok, slice_nil hu, Sem.run_pure]
end Go.Pl

/- What 'slices.IndexFunc[[]palings/ssa.Ins,palings/ssa.Ins]' does, read off its translation by gen.py. -/
namespace Go.Pl.Try
set_option linter.unusedVariables false
set_option maxRecDepth 100000
def F53 (as1 : Option Addr) (ns1 cs1 : Nat) (f2 : Value) (w : World) (R : Value → World → Prop) : Prop :=
  ∃ J3 : Int → World → Nat → Prop, (∃ m6, J3 0 w m6) ∧
  ∀ (x4 : Int), ∀ w5 m6, J3 x4 w5 m6 →
  sp (decide ((x4 : Int) < (ns1 : Nat)))
  (0 ≤ (x4 : Int) ∧ (x4 : Int) < (ns1 : Nat) ∧
  ptAt as1 fun b8 o9 =>
  ∃ (x10 : Int) (x11 : Int) (ax12 : Option Addr) (nx12 cx12 : Nat) (x13 : Int) (x14 : Int) (x15 : Int) (x16 : Int), Row w5 b8 (o9 + x4.toNat * 7) [.int .i64 x10, .int .i64 x11, .slice ax12 nx12 cx12, .int .i64 x13, .int .i64 x14, .int .i64 x15, .int .i64 x16] ∧
  CallV Pg (f2) [.agg ⟨[.int .i64 x10, .int .i64 x11, .slice ax12 nx12 cx12, .int .i64 x13, .int .i64 x14, .int .i64 x15, .int .i64 x16]⟩] w5 fun v17 w18 => ∃ (x19 : Bool), v17 = .bool x19 ∧
  sp x19
  (R (.int .i64 x4) w18)
  (∃ m7, m7 < m6 ∧ J3 (IntKind.wrap .i64 (x4 + 1)) w18 m7))
  (R (.int .i64 (-1)) w5)
def T53 : List Sh := [.v (.one .sl), .v (.one .any), .v (.one .any), .v (.one .any), .v (.one (.int .i64)), .v (.one (.int .i64)), .v (.one .sl), .v (.one (.int .i64)), .v (.one (.int .i64)), .v (.one .bool), .v (.one (.int .i64)), .v (.one .any), .v (.one .sl), .v (.one (.int .i64)), .v (.one .ptr), .v (.agg [(.int .i64), (.int .i64), .sl, (.int .i64), (.int .i64), (.int .i64), (.int .i64)]), .v (.one .bool), .v (.one (.int .i64)), .v (.one (.int .i64))]
def A53 : Ann := (.seq none .z (.seq none (.seq none .z (.block none (.loop [8] (.seq none .z (.seq none (.cond .z .z) (.seq none (.block none (.seq none .z (.seq none .z (.cond (.seq none .z .z) .z)))) .z)))))) (.seq none .z .z)))
theorem F53_eq (as1 : Option Addr) (ns1 cs1 : Nat) (f2 : Value) (w : World) (R : Value → World → Prop) : F53 as1 ns1 cs1 f2 w R = denF Go.Proofs.Try.prog T53 Go.Proofs.Try.f53 A53 [.slice as1 ns1 cs1, f2] w R := by kernel_rfl
theorem F53_ok (as1 : Option Addr) (ns1 cs1 : Nat) (f2 : Value) {w : World} {R : Value → World → Prop} (h : F53 as1 ns1 cs1 f2 w R) : CallP Go.Proofs.Try.prog 53 [.slice as1 ns1 cs1, f2] w R :=
  calls_den (fun _ => drawn (by kernel_rfl)) Go.Proofs.Try.func53 (Nat.le_of_ble_eq_true (by kernel_rfl)) ((F53_eq as1 ns1 cs1 f2 w R).mp h)
end Go.Pl.Try

/- What 'slices.ContainsFunc[[]palings/ssa.Ins,palings/ssa.Ins]' does, read off its translation by gen.py. -/
namespace Go.Pl.Try
set_option linter.unusedVariables false
set_option maxRecDepth 100000
def F28 (as1 : Option Addr) (ns1 cs1 : Nat) (f2 : Value) (w : World) (R : Value → World → Prop) : Prop :=
  CallP Pg 53 [.slice as1 ns1 cs1, f2] w fun v3 w4 => ∃ (x5 : Int), v3 = .int .i64 x5 ∧
  R (.bool (decide ((0 : Int) ≤ x5))) w4
def T28 : List Sh := [.v (.one .sl), .v (.one .any), .v (.one .any), .v (.one .any), .v (.one .bool), .v (.one .sl), .v (.one .any), .v (.one (.int .i64)), .v (.one .bool)]
def A28 : Ann := (.seq none .z (.seq none .z .z))
theorem F28_eq (as1 : Option Addr) (ns1 cs1 : Nat) (f2 : Value) (w : World) (R : Value → World → Prop) : F28 as1 ns1 cs1 f2 w R = denF Go.Proofs.Try.prog T28 Go.Proofs.Try.f28 A28 [.slice as1 ns1 cs1, f2] w R := by kernel_rfl
theorem F28_ok (as1 : Option Addr) (ns1 cs1 : Nat) (f2 : Value) {w : World} {R : Value → World → Prop} (h : F28 as1 ns1 cs1 f2 w R) : CallP Go.Proofs.Try.prog 28 [.slice as1 ns1 cs1, f2] w R :=
  calls_den (fun _ => drawn (by kernel_rfl)) Go.Proofs.Try.func28 (Nat.le_of_ble_eq_true (by kernel_rfl)) ((F28_eq as1 ns1 cs1 f2 w R).mp h)
end Go.Pl.Try

/- What 'slices.IndexFunc[[]int,int]' does, read off its translation by gen.py. -/
namespace Go.Pl.Try
set_option linter.unusedVariables false
set_option maxRecDepth 100000
def F72 (as1 : Option Addr) (ns1 cs1 : Nat) (f2 : Value) (w : World) (R : Value → World → Prop) : Prop :=
  ∃ J3 : Int → World → Nat → Prop, (∃ m6, J3 0 w m6) ∧
  ∀ (x4 : Int), ∀ w5 m6, J3 x4 w5 m6 →
  sp (decide ((x4 : Int) < (ns1 : Nat)))
  (0 ≤ (x4 : Int) ∧ (x4 : Int) < (ns1 : Nat) ∧
  ptAt as1 fun b8 o9 =>
  ∃ (x10 : Int), cel w5 b8 (o9 + x4.toNat * 1) = some (.int .i64 x10) ∧
  CallV Pg (f2) [.int .i64 x10] w5 fun v11 w12 => ∃ (x13 : Bool), v11 = .bool x13 ∧
  sp x13
  (R (.int .i64 x4) w12)
  (∃ m7, m7 < m6 ∧ J3 (IntKind.wrap .i64 (x4 + 1)) w12 m7))
  (R (.int .i64 (-1)) w5)
def T72 : List Sh := [.v (.one .sl), .v (.one .any), .v (.one .any), .v (.one .any), .v (.one (.int .i64)), .v (.one (.int .i64)), .v (.one .sl), .v (.one (.int .i64)), .v (.one (.int .i64)), .v (.one .bool), .v (.one (.int .i64)), .v (.one .any), .v (.one .sl), .v (.one (.int .i64)), .v (.one .ptr), .v (.one (.int .i64)), .v (.one .bool), .v (.one (.int .i64)), .v (.one (.int .i64))]
def A72 : Ann := (.seq none .z (.seq none (.seq none .z (.block none (.loop [8] (.seq none .z (.seq none (.cond .z .z) (.seq none (.block none (.seq none .z (.seq none .z (.cond (.seq none .z .z) .z)))) .z)))))) (.seq none .z .z)))
theorem F72_eq (as1 : Option Addr) (ns1 cs1 : Nat) (f2 : Value) (w : World) (R : Value → World → Prop) : F72 as1 ns1 cs1 f2 w R = denF Go.Proofs.Try.prog T72 Go.Proofs.Try.f72 A72 [.slice as1 ns1 cs1, f2] w R := by kernel_rfl
theorem F72_ok (as1 : Option Addr) (ns1 cs1 : Nat) (f2 : Value) {w : World} {R : Value → World → Prop} (h : F72 as1 ns1 cs1 f2 w R) : CallP Go.Proofs.Try.prog 72 [.slice as1 ns1 cs1, f2] w R :=
  calls_den (fun _ => drawn (by kernel_rfl)) Go.Proofs.Try.func72 (Nat.le_of_ble_eq_true (by kernel_rfl)) ((F72_eq as1 ns1 cs1 f2 w R).mp h)
end Go.Pl.Try

/- What 'slices.ContainsFunc[[]int,int]' does, read off its translation by gen.py. -/
namespace Go.Pl.Try
set_option linter.unusedVariables false
set_option maxRecDepth 100000
def F41 (as1 : Option Addr) (ns1 cs1 : Nat) (f2 : Value) (w : World) (R : Value → World → Prop) : Prop :=
  CallP Pg 72 [.slice as1 ns1 cs1, f2] w fun v3 w4 => ∃ (x5 : Int), v3 = .int .i64 x5 ∧
  R (.bool (decide ((0 : Int) ≤ x5))) w4
def T41 : List Sh := [.v (.one .sl), .v (.one .any), .v (.one .any), .v (.one .any), .v (.one .bool), .v (.one .sl), .v (.one .any), .v (.one (.int .i64)), .v (.one .bool)]
def A41 : Ann := (.seq none .z (.seq none .z .z))
theorem F41_eq (as1 : Option Addr) (ns1 cs1 : Nat) (f2 : Value) (w : World) (R : Value → World → Prop) : F41 as1 ns1 cs1 f2 w R = denF Go.Proofs.Try.prog T41 Go.Proofs.Try.f41 A41 [.slice as1 ns1 cs1, f2] w R := by kernel_rfl
theorem F41_ok (as1 : Option Addr) (ns1 cs1 : Nat) (f2 : Value) {w : World} {R : Value → World → Prop} (h : F41 as1 ns1 cs1 f2 w R) : CallP Go.Proofs.Try.prog 41 [.slice as1 ns1 cs1, f2] w R :=
  calls_den (fun _ => drawn (by kernel_rfl)) Go.Proofs.Try.func41 (Nat.le_of_ble_eq_true (by kernel_rfl)) ((F41_eq as1 ns1 cs1 f2 w R).mp h)
end Go.Pl.Try

/- What 'slices.IndexFunc[[]int64,int64]' does, read off its translation by gen.py. -/
namespace Go.Pl.Try
set_option linter.unusedVariables false
set_option maxRecDepth 100000
def F81 (as1 : Option Addr) (ns1 cs1 : Nat) (f2 : Value) (w : World) (R : Value → World → Prop) : Prop :=
  ∃ J3 : Int → World → Nat → Prop, (∃ m6, J3 0 w m6) ∧
  ∀ (x4 : Int), ∀ w5 m6, J3 x4 w5 m6 →
  sp (decide ((x4 : Int) < (ns1 : Nat)))
  (0 ≤ (x4 : Int) ∧ (x4 : Int) < (ns1 : Nat) ∧
  ptAt as1 fun b8 o9 =>
  ∃ (x10 : Int), cel w5 b8 (o9 + x4.toNat * 1) = some (.int .i64 x10) ∧
  CallV Pg (f2) [.int .i64 x10] w5 fun v11 w12 => ∃ (x13 : Bool), v11 = .bool x13 ∧
  sp x13
  (R (.int .i64 x4) w12)
  (∃ m7, m7 < m6 ∧ J3 (IntKind.wrap .i64 (x4 + 1)) w12 m7))
  (R (.int .i64 (-1)) w5)
def T81 : List Sh := [.v (.one .sl), .v (.one .any), .v (.one .any), .v (.one .any), .v (.one (.int .i64)), .v (.one (.int .i64)), .v (.one .sl), .v (.one (.int .i64)), .v (.one (.int .i64)), .v (.one .bool), .v (.one (.int .i64)), .v (.one .any), .v (.one .sl), .v (.one (.int .i64)), .v (.one .ptr), .v (.one (.int .i64)), .v (.one .bool), .v (.one (.int .i64)), .v (.one (.int .i64))]
def A81 : Ann := (.seq none .z (.seq none (.seq none .z (.block none (.loop [8] (.seq none .z (.seq none (.cond .z .z) (.seq none (.block none (.seq none .z (.seq none .z (.cond (.seq none .z .z) .z)))) .z)))))) (.seq none .z .z)))
theorem F81_eq (as1 : Option Addr) (ns1 cs1 : Nat) (f2 : Value) (w : World) (R : Value → World → Prop) : F81 as1 ns1 cs1 f2 w R = denF Go.Proofs.Try.prog T81 Go.Proofs.Try.f81 A81 [.slice as1 ns1 cs1, f2] w R := by kernel_rfl
theorem F81_ok (as1 : Option Addr) (ns1 cs1 : Nat) (f2 : Value) {w : World} {R : Value → World → Prop} (h : F81 as1 ns1 cs1 f2 w R) : CallP Go.Proofs.Try.prog 81 [.slice as1 ns1 cs1, f2] w R :=
  calls_den (fun _ => drawn (by kernel_rfl)) Go.Proofs.Try.func81 (Nat.le_of_ble_eq_true (by kernel_rfl)) ((F81_eq as1 ns1 cs1 f2 w R).mp h)
end Go.Pl.Try

/- What 'slices.ContainsFunc[[]int64,int64]' does, read off its translation by gen.py. -/
namespace Go.Pl.Try
set_option linter.unusedVariables false
set_option maxRecDepth 100000
def F66 (as1 : Option Addr) (ns1 cs1 : Nat) (f2 : Value) (w : World) (R : Value → World → Prop) : Prop :=
  CallP Pg 81 [.slice as1 ns1 cs1, f2] w fun v3 w4 => ∃ (x5 : Int), v3 = .int .i64 x5 ∧
  R (.bool (decide ((0 : Int) ≤ x5))) w4
def T66 : List Sh := [.v (.one .sl), .v (.one .any), .v (.one .any), .v (.one .any), .v (.one .bool), .v (.one .sl), .v (.one .any), .v (.one (.int .i64)), .v (.one .bool)]
def A66 : Ann := (.seq none .z (.seq none .z .z))
theorem F66_eq (as1 : Option Addr) (ns1 cs1 : Nat) (f2 : Value) (w : World) (R : Value → World → Prop) : F66 as1 ns1 cs1 f2 w R = denF Go.Proofs.Try.prog T66 Go.Proofs.Try.f66 A66 [.slice as1 ns1 cs1, f2] w R := by kernel_rfl
theorem F66_ok (as1 : Option Addr) (ns1 cs1 : Nat) (f2 : Value) {w : World} {R : Value → World → Prop} (h : F66 as1 ns1 cs1 f2 w R) : CallP Go.Proofs.Try.prog 66 [.slice as1 ns1 cs1, f2] w R :=
  calls_den (fun _ => drawn (by kernel_rfl)) Go.Proofs.Try.func66 (Nat.le_of_ble_eq_true (by kernel_rfl)) ((F66_eq as1 ns1 cs1 f2 w R).mp h)
end Go.Pl.Try

/- What 'slices.IndexFunc[[][2]int,[2]int]' does, read off its translation by gen.py. -/
namespace Go.Pl.Try
set_option linter.unusedVariables false
set_option maxRecDepth 100000
def F82 (as1 : Option Addr) (ns1 cs1 : Nat) (f2 : Value) (w : World) (R : Value → World → Prop) : Prop :=
  ∃ J3 : Int → World → Nat → Prop, (∃ m6, J3 0 w m6) ∧
  ∀ (x4 : Int), ∀ w5 m6, J3 x4 w5 m6 →
  sp (decide ((x4 : Int) < (ns1 : Nat)))
  (0 ≤ (x4 : Int) ∧ (x4 : Int) < (ns1 : Nat) ∧
  ptAt as1 fun b8 o9 =>
  ∃ (x10 : Int) (x11 : Int), Row w5 b8 (o9 + x4.toNat * 2) [.int .i64 x10, .int .i64 x11] ∧
  CallV Pg (f2) [.agg ⟨[.int .i64 x10, .int .i64 x11]⟩] w5 fun v12 w13 => ∃ (x14 : Bool), v12 = .bool x14 ∧
  sp x14
  (R (.int .i64 x4) w13)
  (∃ m7, m7 < m6 ∧ J3 (IntKind.wrap .i64 (x4 + 1)) w13 m7))
  (R (.int .i64 (-1)) w5)
def T82 : List Sh := [.v (.one .sl), .v (.one .any), .v (.one .any), .v (.one .any), .v (.one (.int .i64)), .v (.one (.int .i64)), .v (.one .sl), .v (.one (.int .i64)), .v (.one (.int .i64)), .v (.one .bool), .v (.one (.int .i64)), .v (.one .any), .v (.one .sl), .v (.one (.int .i64)), .v (.one .ptr), .v (.agg [(.int .i64), (.int .i64)]), .v (.one .bool), .v (.one (.int .i64)), .v (.one (.int .i64))]
def A82 : Ann := (.seq none .z (.seq none (.seq none .z (.block none (.loop [8] (.seq none .z (.seq none (.cond .z .z) (.seq none (.block none (.seq none .z (.seq none .z (.cond (.seq none .z .z) .z)))) .z)))))) (.seq none .z .z)))
theorem F82_eq (as1 : Option Addr) (ns1 cs1 : Nat) (f2 : Value) (w : World) (R : Value → World → Prop) : F82 as1 ns1 cs1 f2 w R = denF Go.Proofs.Try.prog T82 Go.Proofs.Try.f82 A82 [.slice as1 ns1 cs1, f2] w R := by kernel_rfl
theorem F82_ok (as1 : Option Addr) (ns1 cs1 : Nat) (f2 : Value) {w : World} {R : Value → World → Prop} (h : F82 as1 ns1 cs1 f2 w R) : CallP Go.Proofs.Try.prog 82 [.slice as1 ns1 cs1, f2] w R :=
  calls_den (fun _ => drawn (by kernel_rfl)) Go.Proofs.Try.func82 (Nat.le_of_ble_eq_true (by kernel_rfl)) ((F82_eq as1 ns1 cs1 f2 w R).mp h)
end Go.Pl.Try

/- What 'slices.ContainsFunc[[][2]int,[2]int]' does, read off its translation by gen.py. -/
namespace Go.Pl.Try
set_option linter.unusedVariables false
set_option maxRecDepth 100000
def F68 (as1 : Option Addr) (ns1 cs1 : Nat) (f2 : Value) (w : World) (R : Value → World → Prop) : Prop :=
  CallP Pg 82 [.slice as1 ns1 cs1, f2] w fun v3 w4 => ∃ (x5 : Int), v3 = .int .i64 x5 ∧
  R (.bool (decide ((0 : Int) ≤ x5))) w4
def T68 : List Sh := [.v (.one .sl), .v (.one .any), .v (.one .any), .v (.one .any), .v (.one .bool), .v (.one .sl), .v (.one .any), .v (.one (.int .i64)), .v (.one .bool)]
def A68 : Ann := (.seq none .z (.seq none .z .z))
theorem F68_eq (as1 : Option Addr) (ns1 cs1 : Nat) (f2 : Value) (w : World) (R : Value → World → Prop) : F68 as1 ns1 cs1 f2 w R = denF Go.Proofs.Try.prog T68 Go.Proofs.Try.f68 A68 [.slice as1 ns1 cs1, f2] w R := by kernel_rfl
theorem F68_ok (as1 : Option Addr) (ns1 cs1 : Nat) (f2 : Value) {w : World} {R : Value → World → Prop} (h : F68 as1 ns1 cs1 f2 w R) : CallP Go.Proofs.Try.prog 68 [.slice as1 ns1 cs1, f2] w R :=
  calls_den (fun _ => drawn (by kernel_rfl)) Go.Proofs.Try.func68 (Nat.le_of_ble_eq_true (by kernel_rfl)) ((F68_eq as1 ns1 cs1 f2 w R).mp h)
end Go.Pl.Try

/- What 'slices.Clone[[]int,int]' does, read off its translation by gen.py. -/
namespace Go.Pl.Try
set_option linter.unusedVariables false
set_option maxRecDepth 100000
def F52 (as1 : Option Addr) (ns1 cs1 : Nat) (w : World) (R : Value → World → Prop) : Prop :=
  ∃ (x2 : Bool), Sem.run Pg (do eqGuard .eql 34 (.tmp 3) (.const (.slice none 0 0)) (.slice as1 ns1 cs1) (.slice none 0 0); binOp .eql 34 (.slice as1 ns1 cs1) (.slice none 0 0)) w = .ok (.bool x2) w ∧
  sp x2
  (R (.slice none 0 0) w)
  (AlP 3 [] w fun b3 w4 =>
  ∃ (ax5 : Option Addr) (nx5 cx5 : Nat), ∃ w6 : World, Sem.run Pg (Builtin.append_ #[34, 34] 34 ⟨[.slice (some ⟨b3, 0, none⟩) 0 0, .slice as1 ns1 cs1]⟩) w4 = .ok (.slice ax5 nx5 cx5) w6 ∧
  R (.slice ax5 nx5 cx5) w6)
def T52 : List Sh := [.v (.one .sl), .v (.one .any), .v (.one .sl), .v (.one .sl), .v (.one .bool), .v (.one .sl), .v (.one .sl), .v (.one .sl)]
def A52 : Ann := (.seq none .z (.seq none (.seq none .z (.cond (.seq none .z .z) .z)) (.seq none .z .z)))
theorem F52_eq (as1 : Option Addr) (ns1 cs1 : Nat) (w : World) (R : Value → World → Prop) : F52 as1 ns1 cs1 w R = denF Go.Proofs.Try.prog T52 Go.Proofs.Try.f52 A52 [.slice as1 ns1 cs1] w R := by kernel_rfl
theorem F52_ok (as1 : Option Addr) (ns1 cs1 : Nat) {w : World} {R : Value → World → Prop} (h : F52 as1 ns1 cs1 w R) : CallP Go.Proofs.Try.prog 52 [.slice as1 ns1 cs1] w R :=
  calls_den (fun _ => drawn (by kernel_rfl)) Go.Proofs.Try.func52 (Nat.le_of_ble_eq_true (by kernel_rfl)) ((F52_eq as1 ns1 cs1 w R).mp h)
end Go.Pl.Try
