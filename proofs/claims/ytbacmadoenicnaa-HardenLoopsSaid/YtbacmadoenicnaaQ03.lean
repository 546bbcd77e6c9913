/- Joined texts of the proof, part 3: Mem2, Model, Rd, Pg, K, F17, F25, F35, F37, F36, F45, F54, F55, F63, F76, F77, WSmall. -/
import Derived.Test.YtbacmadoenicnaaQ02
import Derived.Laws.MakeOwn
import Derived.Laws.OwnMore
import Derived.Test.YtbacmadoenicnaaProg
set_option maxRecDepth 2000
set_option linter.unusedVariables false
set_option linter.unusedSimpArgs false
set_option linter.unusedSectionVars false
/- Slices of the call's own: make, append, cut; what is read of a slice. -/
namespace Go.Pl
set_option linter.unusedVariables false

/-- A slice type by the table: its element type, in cells and bytes. -/
def slT (P : Program) (t e size bytes : Nat) : Bool :=
  match P.underlying t with
  | some (.slice e') => Nat.beq e e' && (match P.info? e' with
    | some i => Nat.beq i.size size && Nat.beq i.bytes bytes && (match i.zero with | some z => Nat.beq z.cells.size size | none => false)
    | none => false)
  | _ => false
theorem slT_inv {P : Program} {t e size bytes : Nat} (h : slT P t e size bytes = true) :
    P.underlying t = some (.slice e) ∧ ∃ i z, P.info? e = some i ∧ i.size = size ∧ i.bytes = bytes ∧ i.zero = some z ∧ z.cells.size = size := by
  unfold slT at h
  split at h
  · rename_i e' hu
    simp only [Bool.and_eq_true] at h
    have he := Nat.eq_of_beq_eq_true h.1
    subst he
    refine ⟨hu, ?_⟩
    have h2 := h.2
    split at h2
    · rename_i i hi
      simp only [Bool.and_eq_true] at h2
      have h3 := h2.2
      split at h3
      · rename_i z hz
        exact ⟨i, z, hi, Nat.eq_of_beq_eq_true h2.1.1, Nat.eq_of_beq_eq_true h2.1.2, hz, Nat.eq_of_beq_eq_true h3⟩
      · cases h3
    · cases h2
  · cases h
/-- Where a slice of the call's own lies: nowhere, or in a block behind 'pre' and ahead of 'sp'. -/
inductive Rw where
  | emp
  | at (b : Nat) (pre sp : List Value)
def Rw.L (r : Rw) (e : TypeId) (vs : List Value) : List (Nat × Obj) :=
  match r with
  | .emp => []
  | .at b pre sp => [(b, Cl e (pre ++ vs ++ sp))]
def Sls (size : Nat) (a : Option Addr) (n c : Nat) (vs : List Value) (r : Rw) : Prop :=
  vs.length = n * size ∧
  match r with
  | .emp => n = 0 ∧ c = 0
  | .at b pre sp => a = some ⟨b, pre.length, none⟩ ∧ (vs ++ sp).length = c * size ∧ c ≤ maxLen ∧ n ≤ c
theorem Sls.nil (size : Nat) (a : Option Addr) : Sls size a 0 0 [] .emp := ⟨by simp, rfl, rfl⟩
theorem Sls.c_le {size : Nat} {a : Option Addr} {n c : Nat} {vs : List Value} {r : Rw} (h : Sls size a n c vs r) : c ≤ maxLen := by
  cases r with
  | emp => have : c = 0 := h.2.2; omega
  | «at» b pre sp => exact h.2.2.2.1
theorem Sls.n_eq {a : Option Addr} {n c : Nat} {vs : List Value} {r : Rw} (h : Sls 1 a n c vs r) : n = vs.length := by have := h.1; omega
/-- What is appended. -/
def Src (w : World) (size : Nat) (a : Option Addr) (m : Nat) (vs : List Value) : Prop :=
  vs.length = m * size ∧ (m = 0 ∨ ∃ b o, a = some ⟨b, o, none⟩ ∧ Row w b o vs)
theorem Src.run {P : Program} {w : World} {size : Nat} {a : Option Addr} {m c : Nat} {vs : List Value} (h : Src w size a m vs) : (Builtin.firstCells size m (.slice a m c)).run P w = .ok vs.toArray w := by
  obtain ⟨hl, rfl | ⟨b, o, rfl, hr⟩⟩ := h
  · have : vs = [] := List.eq_nil_of_length_eq_zero (by simpa using hl)
    subst this
    cases a with
    | none => simp [Builtin.firstCells]
    | some a => simp [Builtin.firstCells, loadCells, loadCellsFrom]
  · exact run_firstCells_some (P := P) w size m ⟨b, o, none⟩ m c vs hl (fun j v hv => by rw [Addr.add_mid]; exact hr j v hv)
theorem Src.one {w0 w : World} {L : List (Nat × Obj)} (h : Hp w0 w L) (i : Nat) {b : Nat} {e : TypeId} {vs : List Value} (hi : L[i]? = some (b, Cl e vs)) : Src w vs.length (some ⟨b, 0, none⟩) 1 vs :=
  ⟨by simp, .inr ⟨b, 0, rfl, fun j v hj => by
    have := h.cl i hi (o := j) hj
    simpa [cel] using this⟩⟩
theorem setRow_facts {w : World} {b : Nat} {cur : Array Value} {e : TypeId} {fr : Nat × Nat} (h : w.heap[b]? = some (.cells cur e fr)) (cs : Array Value) :
    (w.setRow b cs).heap[b]? = some (.cells cs e fr) ∧ (w.setRow b cs).heap.size = w.heap.size ∧ (∀ k, k ≠ b → (w.setRow b cs).heap[k]? = w.heap[k]?) ∧ (w.setRow b cs).os = w.os ∧ (w.setRow b cs).output = w.output :=
  ⟨setRow_heap w b cur cs e fr h, by simp, fun k hk => setRow_other w b k cs hk, rfl, rfl⟩
section
variable {P : Program} {w0 w : World} {L : List (Nat × Obj)}
theorem app_run {t ty e size bytes : Nat} (hT : slT P t e size bytes = true) (hs0 : 0 < size) {a : Option Addr} {n c : Nat} {vs : List Value} {r : Rw} (hsl : Sls size a n c vs r) (h : Hp w0 w (r.L e vs ++ L))
    {ax : Option Addr} {m cx : Nat} {news : List Value} (hx : Src w size ax m news) (h1 : news.all (·.oneCell') = true) (h63 : n + m ≤ maxLen) (hby : (n + m) * bytes ≤ 140737488355328) :
    ∃ a' c' w' r', (Builtin.append_ #[t, t] ty ⟨[.slice a n c, .slice ax m cx]⟩).run P w = .ok (.slice a' (n + m) c') w' ∧ Sls size a' (n + m) c' (vs ++ news) r' ∧ Hp w0 w' (r'.L e (vs ++ news) ++ L) := by
  obtain ⟨ht, i, z, hi, rfl, rfl, hz, hzs⟩ := slT_inv hT
  have hnew : ∀ cc, (Builtin.firstCells i.size m (.slice ax m cc)).run P w = .ok news.toArray w := fun cc => hx.run (c := cc)
  have hlen : (vs ++ news).length = (n + m) * i.size := by rw [List.length_append, hsl.1, hx.1, Nat.add_mul]
  by_cases hc : n + m ≤ c
  · -- there is room
    cases r with
    | emp =>
      obtain ⟨hvl, hn0, hc0⟩ := hsl
      have hn : n = 0 := by omega
      have hm : m = 0 := by omega
      have hc0' : c = 0 := hc0
      subst hn hm hc0'
      have hv : vs = [] := List.eq_nil_of_length_eq_zero (by simpa using hvl)
      have hnn : news = [] := List.eq_nil_of_length_eq_zero (by simpa using hx.1)
      subst hv hnn
      refine ⟨a, 0, w, .emp, ?_, Sls.nil _ _, h⟩
      have h0 := hnew cx
      cases a with
      | none => simp [Builtin.append_, run_underlying ht, sizeOf, typeInfo, hi, Builtin.lenOf, h0]
      | some a => simp [Builtin.append_, run_underlying ht, sizeOf, typeInfo, hi, Builtin.lenOf, h0, storeCells]
    | «at» b pre sp =>
      obtain ⟨hvl, rfl, hcl, hcm, hnc⟩ := hsl
      have hb := h.at 0 (b := b) (o := Cl e (pre ++ vs ++ sp)) rfl
      have hspl : news.length ≤ sp.length := by
        rw [List.length_append] at hcl
        have : (n + m) * i.size ≤ c * i.size := Nat.mul_le_mul_right _ hc
        rw [Nat.add_mul] at this
        have := hx.1
        omega
      have hfit : pre.length + n * i.size + 0 + news.length ≤ (⟨pre ++ vs ++ sp⟩ : Array Value).size := by
        simp only [List.size_toArray, List.length_append]
        omega
      have hst := run_storeCells_at P b (pre.length + n * i.size) e news 0 ⟨pre ++ vs ++ sp⟩ w hb hfit (fun v hv => (List.all_eq_true.1 h1) v hv)
      have hadd : (⟨b, pre.length, none⟩ : Addr).add (n * i.size) = ⟨b, pre.length + n * i.size, none⟩ := Addr.add_mid _ _ _
      have hcells : ((pre ++ vs ++ sp).take (pre.length + n * i.size) ++ news ++ (pre ++ vs ++ sp).drop (pre.length + n * i.size + news.length)) = pre ++ (vs ++ news) ++ sp.drop news.length := by
        have h2 : pre.length + n * i.size = (pre ++ vs).length := by simp [hvl]
        rw [h2, List.take_left, ← List.drop_drop, List.drop_left]
        simp
      simp only [Nat.add_zero, hcells] at hst
      refine ⟨some ⟨b, pre.length, none⟩, c, w.setRow b (pre ++ (vs ++ news) ++ sp.drop news.length).toArray, .at b pre (sp.drop news.length), ?_, ⟨hlen, rfl, ?_, hcm, hc⟩, ?_⟩
      · simp [Builtin.append_, run_underlying ht, sizeOf, typeInfo, hi, Builtin.lenOf, hc, hnew cx, hadd, hst]
      · simp only [List.length_append, List.length_drop] at hcl ⊢
        omega
      · obtain ⟨q1, q2, q3⟩ := setRow_facts hb (pre ++ (vs ++ news) ++ sp.drop news.length).toArray
        have := h.turn 0 (b := b) rfl q2 q1 q3
        simpa [Rw.L] using this
  · -- a new array
    have hgrow : ∃ w', (Builtin.append_ #[t, t] ty ⟨[.slice a n c, .slice ax m cx]⟩).run P w = .ok (.slice (some ⟨w.heap.size, 0, none⟩) (n + m) (grownCap w (n + m) c e)) w' ∧
        w' = w.drew.alloc (.cells (vs.toArray ++ news.toArray ++ Builtin.zeroCells z.cells (grownCap w (n + m) c e - (n + m))) e) := by
      refine ⟨_, ?_, rfl⟩
      have hold : (Builtin.firstCells i.size n (.slice a n c)).run P w.drew = .ok vs.toArray w.drew := by
        refine Src.run (c := c) ⟨hsl.1, ?_⟩
        cases r with
        | emp => exact .inl hsl.2.1
        | «at» b pre sp =>
          right
          obtain ⟨hvl, rfl, hcl, hcm, hnc⟩ := hsl
          refine ⟨b, pre.length, rfl, fun j v hj => ?_⟩
          have hjl := (List.getElem?_eq_some_iff.1 hj).1
          have := h.drew.cl 0 (b := b) (e := e) (vs := pre ++ vs ++ sp) rfl (o := pre.length + j) (v := v) (by rw [List.append_assoc, List.getElem?_append_right (by omega), Nat.add_sub_cancel_left, List.getElem?_append_left hjl]; exact hj)
          exact this
      have hnew' : (Builtin.firstCells i.size m (.slice ax m cx)).run P w.drew = .ok news.toArray w.drew := Src.run (c := cx) ⟨hx.1, hx.2⟩
      have hc' : ¬ (n + m ≤ c) := hc
      have h63' : ¬ (9223372036854775807 < ((n : Int) + (m : Int))) := by simp only [maxLen] at h63; omega
      have hfit : ¬ (281474976710656 < Builtin.nextslicecap (n + m) c * i.bytes) := Nat.not_lt.2 (growslice_fits (by omega) hby)
      simp [Builtin.append_, run_underlying ht, sizeOf, typeInfo, zeroValue, hi, hz, Builtin.lenOf, hc', h63', hfit, Question.forced, hold, hnew', newRow, grownCap]
      congr 2
      apply Array.ext'
      simp [List.append_assoc]
    obtain ⟨w', hrun, rfl⟩ := hgrow
    have hge := grownCap_ge w (n + m) c e
    have hle := grownCap_le_maxLen w (n + m) c e h63
    refine ⟨_, _, _, .at w.heap.size [] (Builtin.zeroCells z.cells (grownCap w (n + m) c e - (n + m))).toList, hrun, ⟨hlen, rfl, ?_, hle, hge⟩, ?_⟩
    · rw [List.length_append, hlen, Array.length_toList, size_zeroCells, hzs, ← Nat.add_mul]
      congr 1; omega
    · have h2 : Hp w0 w L := by
        refine h.sub ?_
        exact List.sublist_append_right _ _
      have h3 := (h2.drew).al (.cells (vs.toArray ++ news.toArray ++ Builtin.zeroCells z.cells (grownCap w (n + m) c e - (n + m))) e)
      have hcs : (vs.toArray ++ news.toArray ++ Builtin.zeroCells z.cells (grownCap w (n + m) c e - (n + m))) = ⟨[] ++ (vs ++ news) ++ (Builtin.zeroCells z.cells (grownCap w (n + m) c e - (n + m))).toList⟩ := by
        apply Array.ext'
        simp
      rw [hcs] at h3
      rw [hcs]
      exact h3
theorem Hp.front {A B C : List (Nat × Obj)} (h : Hp w0 w (A ++ (B ++ C))) : Hp w0 w (B ++ (A ++ C)) := h.perm (by
  rw [← List.append_assoc, ← List.append_assoc]
  exact List.Perm.append_right C List.perm_append_comm)
theorem Hp.drop (h : Hp w0 w L) (k : Nat) : Hp w0 w (L.drop k) := h.sub (List.drop_sublist k L)
theorem app2 {t ty e size bytes : Nat} (hT : slT P t e size bytes = true) (hs0 : 0 < size) {a : Option Addr} {n c : Nat} {vs : List Value} {r : Rw} (hsl : Sls size a n c vs r) (L1 : List (Nat × Obj)) (h : Hp w0 w (L1 ++ (r.L e vs ++ L)))
    {ax : Option Addr} {m cx : Nat} {news : List Value} (hx : Src w size ax m news) (h1 : news.all (·.oneCell') = true) (h63 : n + m ≤ maxLen) (hby : (n + m) * bytes ≤ 140737488355328) :
    ∃ a' c' w' r', (Builtin.append_ #[t, t] ty ⟨[.slice a n c, .slice ax m cx]⟩).run P w = .ok (.slice a' (n + m) c') w' ∧ Sls size a' (n + m) c' (vs ++ news) r' ∧ Hp w0 w' (L1 ++ (r'.L e (vs ++ news) ++ L)) := by
  obtain ⟨a', c', w', r', h1, h2, h3⟩ := app_run (ty := ty) hT hs0 hsl h.front hx h1 h63 hby (cx := cx)
  exact ⟨a', c', w', r', h1, h2, h3.front⟩
/-- One element, laid in a block of its own first ('L1' has it at place 'i'). -/
theorem app1 {t ty e size bytes : Nat} (hT : slT P t e size bytes = true) (hs0 : 0 < size) {a : Option Addr} {n c : Nat} {vs : List Value} {r : Rw} (hsl : Sls size a n c vs r) (L1 : List (Nat × Obj)) {b : Nat} {news : List Value}
    (h : Hp w0 w (L1 ++ (r.L e vs ++ L))) (i : Nat) (hi : L1[i]? = some (b, Cl e news)) (hl : news.length = size) (h1 : news.all (·.oneCell') = true) (h63 : n + 1 ≤ maxLen) (hby : (n + 1) * bytes ≤ 140737488355328) :
    ∃ a' c' w' r', (Builtin.append_ #[t, t] ty ⟨[.slice a n c, .slice (some ⟨b, 0, none⟩) 1 1]⟩).run P w = .ok (.slice a' (n + 1) c') w' ∧ Sls size a' (n + 1) c' (vs ++ news) r' ∧ Hp w0 w' (L1 ++ (r'.L e (vs ++ news) ++ L)) := by
  have hsrc := Src.one h i (by rw [List.getElem?_append_left (List.getElem?_eq_some_iff.1 hi).1]; exact hi)
  rw [hl] at hsrc
  exact app2 hT hs0 hsl L1 h hsrc h1 h63 hby
theorem madeCells_list (z : Array Value) (k : Nat) (hz : z.size = 1) : (madeCells z k).toList = List.replicate k z[0]! := by
  apply List.ext_getElem
  · simp [madeCells]
  · intro i h1 h2
    have : i % 1 = 0 := Nat.mod_one i
    simp [madeCells, hz, this]
/-- make, of elements of one cell. -/
theorem make_run {t e bytes : Nat} (hT : slT P t e 1 bytes = true) {z : Value} (hz : (zeroOf P e).map (·.cells) = some #[z]) (h : Hp w0 w L) (n : Nat) (hby : n * bytes ≤ 140737488355328) (hm : n ≤ maxLen) :
    ∃ b w', (Instr.makeSlice t (.int .i64 (n : Int)) (.int .i64 (n : Int))).run P w = .ok (.slice (some ⟨b, 0, none⟩) n n) w' ∧ Hp w0 w' ((b, Cl e (List.replicate n z)) :: L) := by
  obtain ⟨ht, i, z', hi, h1, rfl, hz', hzs⟩ := slT_inv hT
  have hzc : z'.cells = #[z] := by
    simp only [zeroOf, hi, hz', Option.map_some, Option.some.injEq] at hz
    exact hz
  have hr := run_make (P := P) w t e i z' ht hi hz' .i64 .i64 (n : Int) (n : Int) (by omega) (by omega) (by rw [← Int.natCast_mul]; have := Nat.mul_comm i.bytes n; omega) (by simp only [maxLen] at hm; omega)
  simp only [Int.toNat_natCast, h1, Nat.mul_one] at hr
  refine ⟨_, _, hr, ?_⟩
  have hc : madeCells z'.cells n = ⟨List.replicate n z⟩ := by
    apply Array.ext'
    rw [madeCells_list _ _ hzs, hzc]
    rfl
  rw [hc]
  exact h.al _
/-- What lies behind the first 'k' elements. -/
theorem cut_run0 {t e size bytes : Nat} (hT : slT P t e size bytes = true) {a : Option Addr} {n c k : Nat} {vs : List Value} {r : Rw} (hsl : Sls size a n c vs r) (h : Hp w0 w (r.L e vs ++ L)) (hk : k ≤ n) (h63 : c ≤ maxLen) :
    ∃ a' c' r', (Instr.sliceAt t (.slice a n c) (some (.int .i64 (k : Int))) none none).run P w = .ok (.slice a' (n - k) c') w ∧ Sls size a' (n - k) c' (vs.drop (k * size)) r' ∧ Hp w0 w (r'.L e (vs.drop (k * size)) ++ L) := by
  obtain ⟨ht, i, z, hi, rfl, rfl, hz, hzs⟩ := slT_inv hT
  have hrun : (Instr.sliceAt t (.slice a n c) (some (.int .i64 (k : Int))) none none).run P w = .ok (.slice (if c = k then a else a.map (·.add (k * i.size))) (n - k) (c - k)) w := by
    simp [Instr.sliceAt, Instr.slice, run_und w ht, Instr.sliceBounds, Instr.sliceBound, asIntOf, hk, info_of_size hi w]
  rw [hrun]
  cases r with
  | emp =>
    obtain ⟨hvl, hn0, hc0⟩ := hsl
    have hn : n = 0 := by omega
    have hcc : c = 0 := hc0
    have hv : vs = [] := List.eq_nil_of_length_eq_zero (by simpa [hn] using hvl)
    subst hv hn hcc
    have hk0 : k = 0 := by omega
    subst hk0
    exact ⟨_, _, .emp, rfl, by simpa using Sls.nil _ _, by simpa [Rw.L] using h⟩
  | «at» b pre sp =>
    obtain ⟨hvl, rfl, hcl, hcm, hnc⟩ := hsl
    by_cases hck : c = k
    · have hkn : k = n := by omega
      subst hck
      refine ⟨_, _, .emp, rfl, ⟨?_, by omega, by omega⟩, h.sub (List.sublist_append_right _ _)⟩
      rw [List.length_drop, hvl, Nat.sub_mul]
    · refine ⟨_, _, .at b (pre ++ vs.take (k * i.size)) sp, rfl, ⟨?_, ?_, ?_, by omega, by omega⟩, ?_⟩
      · rw [List.length_drop, hvl, Nat.sub_mul]
      · rw [if_neg hck]
        have : k * i.size ≤ vs.length := by rw [hvl]; exact Nat.mul_le_mul_right _ hk
        simp [Addr.add_mid, List.length_take, Nat.min_eq_left this]
      · rw [List.length_append, List.length_drop, Nat.sub_mul, ← hcl, List.length_append]
        have : k * i.size ≤ vs.length := by rw [hvl]; exact Nat.mul_le_mul_right _ hk
        omega
      · have : pre ++ vs.take (k * i.size) ++ vs.drop (k * i.size) ++ sp = pre ++ vs ++ sp := by
          rw [List.append_assoc pre, List.take_append_drop]
        simpa [Rw.L, this] using h
theorem cut_run {t e size bytes : Nat} (hT : slT P t e size bytes = true) {a : Option Addr} {n c k : Nat} {vs : List Value} {r : Rw} (hsl : Sls size a n c vs r) (L1 : List (Nat × Obj)) (h : Hp w0 w (L1 ++ (r.L e vs ++ L))) (hk : k ≤ n) (h63 : c ≤ maxLen) :
    ∃ a' c' r', (Instr.sliceAt t (.slice a n c) (some (.int .i64 (k : Int))) none none).run P w = .ok (.slice a' (n - k) c') w ∧ Sls size a' (n - k) c' (vs.drop (k * size)) r' ∧ Hp w0 w (L1 ++ (r'.L e (vs.drop (k * size)) ++ L)) := by
  obtain ⟨a', c', r', h1, h2, h3⟩ := cut_run0 hT hsl h.front hk h63
  exact ⟨a', c', r', h1, h2, h3.front⟩
/-- The first 'k' elements. -/
theorem head_run0 {t e size bytes : Nat} (hT : slT P t e size bytes = true) {a : Option Addr} {n c k : Nat} {vs : List Value} {r : Rw} (hsl : Sls size a n c vs r) (h : Hp w0 w (r.L e vs ++ L)) (hk : k ≤ n) :
    ∃ r', (Instr.sliceAt t (.slice a n c) none (some (.int .i64 (k : Int))) none).run P w = .ok (.slice a k c) w ∧ Sls size a k c (vs.take (k * size)) r' ∧ Hp w0 w (r'.L e (vs.take (k * size)) ++ L) := by
  obtain ⟨ht, i, z, hi, rfl, rfl, hz, hzs⟩ := slT_inv hT
  have hkc : k ≤ c := by
    cases r with
    | emp => have := hsl.2.1; omega
    | «at» b pre sp => have := hsl.2.2.2.2; omega
  have hrun : (Instr.sliceAt t (.slice a n c) none (some (.int .i64 (k : Int))) none).run P w = .ok (.slice a k c) w := by
    simp [Instr.sliceAt, Instr.slice, run_und w ht, Instr.sliceBounds, Instr.sliceBound, asIntOf, hkc, info_of_size hi w]
    intro _
    cases a with
    | none => rfl
    | some a => simp [Addr.add]
  rw [hrun]
  cases r with
  | emp =>
    obtain ⟨hvl, hn0, hc0⟩ := hsl
    have hn : n = 0 := by omega
    have hcc : c = 0 := hc0
    have hv : vs = [] := List.eq_nil_of_length_eq_zero (by simpa [hn] using hvl)
    have hk0 : k = 0 := by omega
    subst hv hn hcc hk0
    exact ⟨.emp, rfl, by simpa using Sls.nil _ _, by simpa [Rw.L] using h⟩
  | «at» b pre sp =>
    obtain ⟨hvl, rfl, hcl, hcm, hnc⟩ := hsl
    have hkv : k * i.size ≤ vs.length := by rw [hvl]; exact Nat.mul_le_mul_right _ hk
    refine ⟨.at b pre (vs.drop (k * i.size) ++ sp), rfl, ⟨?_, rfl, ?_, hcm, hkc⟩, ?_⟩
    · rw [List.length_take, Nat.min_eq_left hkv]
    · rw [← List.append_assoc, List.take_append_drop]; exact hcl
    · have : pre ++ vs.take (k * i.size) ++ (vs.drop (k * i.size) ++ sp) = pre ++ vs ++ sp := by
        simp [← List.append_assoc]
        rw [List.append_assoc pre, List.take_append_drop]
      simpa [Rw.L, this] using h
theorem head_run {t e size bytes : Nat} (hT : slT P t e size bytes = true) {a : Option Addr} {n c k : Nat} {vs : List Value} {r : Rw} (hsl : Sls size a n c vs r) (L1 : List (Nat × Obj)) (h : Hp w0 w (L1 ++ (r.L e vs ++ L))) (hk : k ≤ n) :
    ∃ r', (Instr.sliceAt t (.slice a n c) none (some (.int .i64 (k : Int))) none).run P w = .ok (.slice a k c) w ∧ Sls size a k c (vs.take (k * size)) r' ∧ Hp w0 w (L1 ++ (r'.L e (vs.take (k * size)) ++ L)) := by
  obtain ⟨r', h1, h2, h3⟩ := head_run0 hT hsl h.front hk
  exact ⟨r', h1, h2, h3.front⟩
theorem set_splice {α : Type} (f : α → Value) (xs : List α) (i : Nat) (x : α) (h : i < xs.length) : splice (xs.map f) i [f x] = (xs.set i x).map f := by
  unfold splice
  apply List.ext_getElem?
  intro j
  simp only [List.length_singleton, List.getElem?_map, List.getElem?_set]
  rw [List.append_assoc, List.getElem?_append]
  simp only [List.length_take, List.length_map, Nat.min_eq_left (Nat.le_of_lt h)]
  by_cases h1 : j < i
  · rw [if_pos h1, List.getElem?_take, if_pos h1, if_neg (by omega)]
    simp
  · rw [if_neg h1]
    by_cases h2 : i = j
    · subst h2
      simp [h]
    · rw [if_neg h2, List.getElem?_append_right (by simp; omega)]
      simp only [List.length_singleton, List.getElem?_drop, List.getElem?_map]
      rw [show i + 1 + (j - i - 1) = j from by omega]
/-! ### reading -/
/-- A slice in memory that reads as 'xs': element by element, 'size' cells each, by 'R'. -/
structure RdS {α : Type} (size : Nat) (R : World → List Value → α → Prop) (w : World) (a : Option Addr) (n : Nat) (xs : List α) : Prop where
  len : xs.length = n
  le : n ≤ maxLen
  at_ : ∀ i x, xs[i]? = some x → ∃ b o vs, a = some ⟨b, o, none⟩ ∧ Row w b (o + i * size) vs ∧ vs.length = size ∧ R w vs x
theorem RdS.ext {α : Type} {size : Nat} {R : World → List Value → α → Prop} {w w' : World} {a : Option Addr} {n : Nat} {xs : List α} (hR : ∀ vs x, R w vs x → R w' vs x) (hx : Ext w w') (h : RdS size R w a n xs) : RdS size R w' a n xs :=
  ⟨h.len, h.le, fun i x hi => let ⟨b, o, vs, h1, h2, h3, h4⟩ := h.at_ i x hi; ⟨b, o, vs, h1, hx.row h2, h3, hR _ _ h4⟩⟩
theorem RdS.nil {α : Type} (size : Nat) (R : World → List Value → α → Prop) (w : World) (a : Option Addr) : RdS size R w a 0 [] := ⟨rfl, Nat.zero_le _, fun i x hi => by simp at hi⟩
def RI (k : IntKind) (_ : World) (vs : List Value) (x : Int) : Prop := vs = [.int k x]
def RB (_ : World) (vs : List Value) (x : Bool) : Prop := vs = [.bool x]
abbrev RdI (w : World) (a : Option Addr) (n : Nat) (xs : List Int) : Prop := RdS 1 (RI .i64) w a n xs
theorem RdI.ext {w w' : World} {a : Option Addr} {n : Nat} {xs : List Int} (h : RdI w a n xs) (hx : Ext w w') : RdI w' a n xs := RdS.ext (w := w) (R := RI .i64) (fun _ _ h => h) hx h
theorem RdI.at {w : World} {a : Option Addr} {n : Nat} {xs : List Int} (h : RdI w a n xs) {i : Nat} {x : Int} (hi : xs[i]? = some x) : ∃ b o, a = some ⟨b, o, none⟩ ∧ cel w b (o + i * 1) = some (.int .i64 x) := by
  obtain ⟨b, o, vs, h1, h2, h3, h4⟩ := h.at_ i x hi
  subst h4
  exact ⟨b, o, h1, h2 0 _ rfl⟩
/-- A cell of a slice of the call's own. -/
theorem Sls.cel_at {size : Nat} {e : TypeId} {a : Option Addr} {n c : Nat} {vs : List Value} {r : Rw} (hsl : Sls size a n c vs r) (L1 : List (Nat × Obj)) (h : Hp w0 w (L1 ++ (r.L e vs ++ L))) {j : Nat} {v : Value} (hj : vs[j]? = some v) :
    ∃ b o, a = some ⟨b, o, none⟩ ∧ cel w b (o + j) = some v := by
  replace h := h.front
  have hjl := (List.getElem?_eq_some_iff.1 hj).1
  cases r with
  | emp =>
    have := hsl.1
    have h0 : n = 0 := hsl.2.1
    rw [h0] at this
    omega
  | «at» b pre sp =>
    obtain ⟨hvl, rfl, hcl, hcm, hnc⟩ := hsl
    refine ⟨b, pre.length, rfl, h.cl 0 (b := b) (e := e) (vs := pre ++ vs ++ sp) rfl ?_⟩
    rw [List.append_assoc, List.getElem?_append_right (by omega), List.getElem?_append_left (by omega)]
    rw [show pre.length + j - pre.length = j from by omega]
    exact hj
/-- What a slice of the call's own reads as. -/
theorem Sls.rd {α : Type} {size : Nat} {R : World → List Value → α → Prop} {e : TypeId} {a : Option Addr} {n c : Nat} {vs : List Value} {r : Rw} (hsl : Sls size a n c vs r) (L1 : List (Nat × Obj)) (h : Hp w0 w (L1 ++ (r.L e vs ++ L))) {xs : List α}
    (hlen : xs.length = n) (hR : ∀ i x, xs[i]? = some x → R w ((vs.drop (i * size)).take size) x) : RdS size R w a n xs := by
  replace h := h.front
  refine ⟨hlen, ?_, fun i x hi => ?_⟩
  · cases r with
    | emp => have := hsl.2.1; omega
    | «at» b pre sp => exact Nat.le_trans hsl.2.2.2.2 hsl.2.2.2.1
  have hin : i < n := by rw [← hlen]; exact (List.getElem?_eq_some_iff.1 hi).1
  cases r with
  | emp => have := hsl.2.1; omega
  | «at» b pre sp =>
    obtain ⟨hvl, rfl, hcl, hcm, hnc⟩ := hsl
    have hfit : i * size + size ≤ vs.length := by
      rw [hvl]
      have : (i + 1) * size ≤ n * size := Nat.mul_le_mul_right _ hin
      rw [Nat.add_mul, Nat.one_mul] at this
      exact this
    refine ⟨b, pre.length, _, rfl, fun j v hj => ?_, ?_, hR i x hi⟩
    · rw [List.getElem?_take] at hj
      split at hj
      · rename_i hjs
        rw [List.getElem?_drop] at hj
        refine h.cl 0 (b := b) (e := e) (vs := pre ++ vs ++ sp) rfl ?_
        rw [List.append_assoc, List.getElem?_append_right (by omega), List.getElem?_append_left (by omega)]
        rw [show pre.length + i * size + j - pre.length = i * size + j from by omega]
        exact hj
      · cases hj
    · rw [List.length_take, List.length_drop]; omega
/-- A store into a slice of the call's own. -/
theorem Sls.st {size : Nat} {e : TypeId} {a : Option Addr} {n c : Nat} {vs : List Value} {r : Rw} (hsl : Sls size a n c vs r) (L1 : List (Nat × Obj)) (h : Hp w0 w (L1 ++ (r.L e vs ++ L))) {j : Nat} {us : List Value}
    (hj : j + us.length ≤ vs.length) (h0 : 0 < us.length) (h1 : us.all (·.oneCell') = true) {K : Nat → Nat → World → Prop} (k : ∀ b o w1, a = some ⟨b, o, none⟩ → Sls size a n c (splice vs j us) r → Hp w0 w1 (L1 ++ (r.L e (splice vs j us) ++ L)) → K b o w1) :
    ptAt a fun b o => StP b (o + j) us w fun w1 => K b o w1 := by
  cases r with
  | emp =>
    have := hsl.1
    have hn : n = 0 := hsl.2.1
    rw [hn] at this
    omega
  | «at» b pre sp =>
    obtain ⟨hvl, rfl, hcl, hcm, hnc⟩ := hsl
    refine ptAt_of rfl ?_
    refine stp h.front 0 (b := b) (e := e) (old := pre ++ vs ++ sp) rfl (by simp; omega) h1 fun w1 h2 => ?_
    have hs : splice (pre ++ vs ++ sp) (pre.length + j) us = pre ++ splice vs j us ++ sp := by
      unfold splice
      rw [List.append_assoc pre vs sp, List.take_length_add_append, show pre.length + j + us.length = pre.length + (j + us.length) from by omega, List.drop_length_add_append]
      rw [List.take_append_of_le_length (by omega), List.drop_append_of_le_length (by omega)]
      simp
    have h3 : Hp w0 w1 ((Rw.at b pre sp).L e (splice vs j us) ++ (L1 ++ L)) := by
      have := h2
      simp only [Rw.L, List.cons_append, List.nil_append, List.set, hs] at this
      exact this
    refine k b pre.length w1 rfl ⟨?_, rfl, ?_, hcm, hnc⟩ h3.front
    · rw [splice_length hj]; exact hvl
    · rw [List.length_append, splice_length hj, ← List.length_append]; exact hcl
end
/-! ### comparisons with nil -/
theorem ptr_nil {P : Program} {t e : TypeId} (hu : P.underlying t = some (.pointer e)) (p : Option Addr) (w : World) : (Op.equal t (.pointer p) (.pointer none)).run P w = .ok p.isNone w := by
  unfold Op.equal
  have e : Op.maxDepth = Nat.succ 9999 := rfl
  rw [e, Op.equalIn]
  simp only [Sem.run_bind, run_und w hu, Result.andThen_ok]
  cases p <;> rfl
theorem map_nil {P : Program} {t k e : TypeId} (hu : P.underlying t = some (.map k e)) (p : Option Nat) (w : World) : (Op.equal t (.map p) (.map none)).run P w = .ok p.isNone w := by
  unfold Op.equal
  have e : Op.maxDepth = Nat.succ 9999 := rfl
  rw [e, Op.equalIn]
  simp only [Sem.run_bind, run_und w hu, Result.andThen_ok]
  cases p <;> rfl
theorem eql_ptr_nil {P : Program} {t e : TypeId} (hu : P.underlying t = some (.pointer e)) (x y : Operand) (p : Option Addr) (w : World) :
    (do eqGuard .eql t x y (.pointer p) (.pointer none); binOp .eql t (.pointer p) (.pointer none) : Sem Value).run P w = .ok (.bool p.isNone) w := by
  have hg : (eqGuard .eql t x y (.pointer p) (.pointer none)).run P w = .ok () w := by unfold eqGuard; simp
  have hb : binOp .eql t (.pointer p) (.pointer none) = (do pure (.bool (← Op.equal t (.pointer p) (.pointer none)))) := rfl
  rw [hb]
  simp only [Sem.run_bind, hg, Result.andThen_ok, ptr_nil hu, Sem.run_pure]
theorem eql_map_nil {P : Program} {t k e : TypeId} (hu : P.underlying t = some (.map k e)) (x y : Operand) (p : Option Nat) (w : World) :
    (do eqGuard .eql t x y (.map p) (.map none); binOp .eql t (.map p) (.map none) : Sem Value).run P w = .ok (.bool p.isNone) w := by
  have hg : (eqGuard .eql t x y (.map p) (.map none)).run P w = .ok () w := by unfold eqGuard; simp
  have hb : binOp .eql t (.map p) (.map none) = (do pure (.bool (← Op.equal t (.map p) (.map none)))) := rfl
  rw [hb]
  simp only [Sem.run_bind, hg, Result.andThen_ok, map_nil hu, Sem.run_pure]
theorem neq_map_nil {P : Program} {t k e : TypeId} (hu : P.underlying t = some (.map k e)) (x y : Operand) (p : Option Nat) (w : World) :
    (do eqGuard .neq t x y (.map p) (.map none); binOp .neq t (.map p) (.map none) : Sem Value).run P w = .ok (.bool (!p.isNone)) w := by
  have hg : (eqGuard .neq t x y (.map p) (.map none)).run P w = .ok () w := by unfold eqGuard; simp
  have hb : binOp .neq t (.map p) (.map none) = (do pure (.bool (!(← Op.equal t (.map p) (.map none))))) := rfl
  rw [hb]
  simp only [Sem.run_bind, hg, Result.andThen_ok, map_nil hu, Sem.run_pure]
end Go.Pl

/- The program's data as plain Lean; what of it does not touch Go. -/
namespace Go.Pl.M
structure Edg where
  to : Int
  args : List Int
structure Fin where
  kind : Int
  val : Int
  ways : List Edg
  trap : Int
structure Ins where
  op : Int
  dst : Int
  args : List Int
  num : Int
  bin : Int
  arr : Int
  fn : Int
structure Blk where
  params : List Int
  ins : List Ins
  fin : Fin
structure Fnc where
  name : ByteArray
  blocks : List Blk
structure Arr where
  name : ByteArray
  hold : Int
  size : Int
structure Prg where
  arrs : List Arr
  funcs : List Fnc
  main : Int
/-- The inner loop of Reach. -/
def reachIn (n : Nat) : List Edg → List Bool → List Int → List Bool × List Int
  | [], out, todo => (out, todo)
  | w :: ws, out, todo =>
    if 0 ≤ w.to ∧ w.to < n ∧ out[w.to.toNat]? = some false then reachIn n ws (out.set w.to.toNat true) (todo ++ [w.to]) else reachIn n ws out todo
def reachGo (bs : List Blk) : Nat → List Bool → List Int → Option (List Bool)
  | 0, _, _ => none
  | _ + 1, out, [] => some out
  | k + 1, out, t :: todo => match bs[t.toNat]? with
    | some b => if 0 ≤ t then let r := reachIn bs.length b.fin.ways out todo; reachGo bs k r.1 r.2 else none
    | none => none
def may (writes : List Bool) (i : Ins) : Int := if i.op = 5 then 1 else if i.op = 3 ∧ 0 ≤ i.arr ∧ writes[i.arr.toNat]? = some true then 1 else 0
def Fnc.params (f : Fnc) : List Int := match f.blocks with | [] => [] | b :: _ => b.params
def divides (o : Int) : Bool := decide (o = 4) || decide (o = 5)
def opKnown (o : Int) : Bool := decide (1 ≤ o) && decide (o ≤ 15)
def stays (l : Int) : Int := if l = 1 then 0 else l
/-- How many values an op takes, and whether it has one itself. -/
def shapeOf (o : Int) : Int × Bool := if o = 1 ∨ o = 3 then (0, true) else if o = 2 then (2, true) else if o = 4 then (1, false) else if o = 5 then (1, true) else if o = 6 then (2, false) else if o = 7 then (-1, true) else (-2, false)
/-- What an instruction lets become known. -/
def known (i : Ins) : List Int := if (i.op = 5 ∨ i.op = 6) ∧ i.args ≠ [] then i.args.take 1 else if i.op = 2 ∧ divides i.bin = true then i.args else []
def weigh (deep : Nat) : Int := 10 ^ (min deep 4)
structure Gr where
  outs : List (List Int)
  ins : List (List Int)
  reach : List Bool
def Gr.has (g : Gr) (b : Int) : Bool := decide (0 ≤ b) && decide (b < g.outs.length) && g.reach.getD b.toNat false
end Go.Pl.M

/- How the program's data lie in memory. -/
namespace Go.Pl
open M
set_option linter.unusedVariables false
def REdge (w : World) (vs : List Value) (x : Edg) : Prop := ∃ a n c, vs = [.int .i64 x.to, .slice a n c] ∧ RdI w a n x.args
structure RdIC (w : World) (a : Option Addr) (n c : Nat) (xs : List Int) : Prop where
  rd : RdI w a n xs
  cap : n ≤ c
theorem RdIC.len {w : World} {a : Option Addr} {n c : Nat} {xs : List Int} (h : RdIC w a n c xs) : xs.length = n := h.rd.len
theorem RdIC.le {w : World} {a : Option Addr} {n c : Nat} {xs : List Int} (h : RdIC w a n c xs) : n ≤ maxLen := h.rd.le
theorem RdIC.ext {w w' : World} {a : Option Addr} {n c : Nat} {xs : List Int} (h : RdIC w a n c xs) (hx : Ext w w') : RdIC w' a n c xs := ⟨RdI.ext h.rd hx, h.cap⟩
def RIns (w : World) (vs : List Value) (i : Ins) : Prop := ∃ a n c, vs = [.int .i64 i.op, .int .i64 i.dst, .slice a n c, .int .i64 i.num, .int .i64 i.bin, .int .i64 i.arr, .int .i64 i.fn] ∧ RdIC w a n c i.args
def RBlock (w : World) (vs : List Value) (b : Blk) : Prop := ∃ ap np cp ai ni ci ae ne ce, vs = [.slice ap np cp, .slice ai ni ci, .int .i64 b.fin.kind, .int .i64 b.fin.val, .slice ae ne ce, .int .i64 b.fin.trap] ∧
  RdI w ap np b.params ∧ RdS 7 RIns w ai ni b.ins ∧ RdS 2 REdge w ae ne b.fin.ways
abbrev RdBlocks (w : World) (a : Option Addr) (n : Nat) (bs : List Blk) : Prop := RdS 6 RBlock w a n bs
def RFunc (w : World) (vs : List Value) (f : Fnc) : Prop := ∃ a n c, vs = [.string f.name, .slice a n c] ∧ RdBlocks w a n f.blocks
def RArr (w : World) (vs : List Value) (x : Arr) : Prop := vs = [.string x.name, .int .i64 x.hold, .int .i64 x.size]
theorem REdge.ext {w w' : World} (hx : Ext w w') {vs : List Value} {x : Edg} : REdge w vs x → REdge w' vs x := fun ⟨a, n, c, h1, h2⟩ => ⟨a, n, c, h1, h2.ext hx⟩
theorem RIns.ext {w w' : World} (hx : Ext w w') {vs : List Value} {x : Ins} : RIns w vs x → RIns w' vs x := fun ⟨a, n, c, h1, h2⟩ => ⟨a, n, c, h1, h2.ext hx⟩
theorem RBlock.ext {w w' : World} (hx : Ext w w') {vs : List Value} {x : Blk} : RBlock w vs x → RBlock w' vs x := fun ⟨ap, np, cp, ai, ni, ci, ae, ne, ce, h1, h2, h3, h4⟩ =>
  ⟨ap, np, cp, ai, ni, ci, ae, ne, ce, h1, h2.ext hx, h3.ext (fun _ _ => RIns.ext hx) hx, h4.ext (fun _ _ => REdge.ext hx) hx⟩
theorem RdBlocks.ext {w w' : World} (hx : Ext w w') {a : Option Addr} {n : Nat} {bs : List Blk} (h : RdBlocks w a n bs) : RdBlocks w' a n bs := RdS.ext (w := w) (R := RBlock) (fun _ _ => RBlock.ext hx) hx h
theorem RFunc.ext {w w' : World} (hx : Ext w w') {vs : List Value} {x : Fnc} : RFunc w vs x → RFunc w' vs x := fun ⟨a, n, c, h1, h2⟩ => ⟨a, n, c, h1, h2.ext hx⟩
def RInts (w : World) (vs : List Value) (xs : List Int) : Prop := ∃ a n c, vs = [.slice a n c] ∧ RdI w a n xs
theorem RInts.ext {w w' : World} (hx : Ext w w') {vs : List Value} {xs : List Int} : RInts w vs xs → RInts w' vs xs := fun ⟨a, n, c, h1, h2⟩ => ⟨a, n, c, h1, h2.ext hx⟩
abbrev RdBs (w : World) (a : Option Addr) (n : Nat) (xs : List Bool) : Prop := RdS 1 RB w a n xs
theorem RdBs.ext {w w' : World} {a : Option Addr} {n : Nat} {xs : List Bool} (h : RdBs w a n xs) (hx : Ext w w') : RdBs w' a n xs := RdS.ext (w := w) (R := RB) (fun _ _ h => h) hx h
theorem RdBs.at {w : World} {a : Option Addr} {n : Nat} {xs : List Bool} (h : RdBs w a n xs) {i : Nat} {x : Bool} (hi : xs[i]? = some x) : ∃ b o, a = some ⟨b, o, none⟩ ∧ cel w b (o + i * 1) = some (.bool x) := by
  obtain ⟨b, o, vs, h1, h2, h3, h4⟩ := h.at_ i x hi
  subst h4
  exact ⟨b, o, h1, h2 0 _ rfl⟩
abbrev RdII (w : World) (a : Option Addr) (n : Nat) (xs : List (List Int)) : Prop := RdS 1 RInts w a n xs
theorem RdII.ext {w w' : World} {a : Option Addr} {n : Nat} {xs : List (List Int)} (h : RdII w a n xs) (hx : Ext w w') : RdII w' a n xs := RdS.ext (w := w) (R := RInts) (fun _ _ => RInts.ext hx) hx h
theorem RdII.at {w : World} {a : Option Addr} {n : Nat} {xs : List (List Int)} (h : RdII w a n xs) {i : Nat} {x : List Int} (hi : xs[i]? = some x) : ∃ b o a' n' c', a = some ⟨b, o, none⟩ ∧ cel w b (o + i * 1) = some (.slice a' n' c') ∧ RdI w a' n' x := by
  obtain ⟨b, o, vs, h1, h2, h3, a', n', c', rfl, h4⟩ := h.at_ i x hi
  exact ⟨b, o, a', n', c', h1, h2 0 _ rfl, h4⟩
/-- A graph behind its pointer. -/
def RdG (w : World) (p : Option Addr) (g : Gr) : Prop := ∃ b o ao no co ai ni ci ar nr cr, p = some ⟨b, o, none⟩ ∧ cel w b o = some (.slice ao no co) ∧ cel w b (o + 1) = some (.slice ai ni ci) ∧ cel w b (o + 2) = some (.slice ar nr cr) ∧
  RdII w ao no g.outs ∧ RdII w ai ni g.ins ∧ RdBs w ar nr g.reach
theorem RdG.ext {w w' : World} {p : Option Addr} {g : Gr} (hx : Ext w w') : RdG w p g → RdG w' p g := fun ⟨b, o, ao, no, co, ai, ni, ci, ar, nr, cr, h0, h1, h2, h3, h4, h5, h6⟩ =>
  ⟨b, o, ao, no, co, ai, ni, ci, ar, nr, cr, h0, hx.cel h1, hx.cel h2, hx.cel h3, h4.ext hx, h5.ext hx, h6.ext hx⟩
theorem RdWays.ext {w w' : World} {a : Option Addr} {n : Nat} {xs : List Edg} (h : RdS 2 REdge w a n xs) (hx : Ext w w') : RdS 2 REdge w' a n xs := RdS.ext (w := w) (R := REdge) (fun _ _ => REdge.ext hx) hx h
theorem RdInss.ext {w w' : World} {a : Option Addr} {n : Nat} {xs : List Ins} (h : RdS 7 RIns w a n xs) (hx : Ext w w') : RdS 7 RIns w' a n xs := RdS.ext (w := w) (R := RIns) (fun _ _ => RIns.ext hx) hx h
theorem wrap_in {x : Int} (h0 : -9223372036854775808 ≤ x) (h1 : x ≤ 9223372036854775807) : IntKind.wrap .i64 x = x := by rw [IntKind.wrap_i64]; omega
theorem wrap_nat {x : Nat} (h1 : x ≤ maxLen) : IntKind.wrap .i64 (x : Int) = x := by rw [IntKind.wrap_i64]; simp only [maxLen] at h1; omega
theorem wrap_succ {x : Nat} (h1 : x + 1 ≤ maxLen) : IntKind.wrap .i64 ((x : Int) + 1) = ((x + 1 : Nat) : Int) := by rw [IntKind.wrap_i64]; simp only [maxLen] at h1; omega
def RProg (w : World) (vs : List Value) (p : Prg) : Prop := ∃ aa na ca af nf cf, vs = [.slice aa na ca, .slice af nf cf, .int .i64 p.main] ∧ RdS 3 RArr w aa na p.arrs ∧ RdS 2 RFunc w af nf p.funcs
theorem RProg.ext {w w' : World} {vs : List Value} {p : Prg} (h : RProg w vs p) (hx : Ext w w') : RProg w' vs p := by
  obtain ⟨aa, na, ca, af, nf, cf, e, h1, h2⟩ := h
  exact ⟨aa, na, ca, af, nf, cf, e, RdS.ext (w := w) (R := RArr) (fun _ _ h => h) hx h1, RdS.ext (w := w) (R := RFunc) (fun _ _ => RFunc.ext hx) hx h2⟩
theorem RIns.ext' {w w' : World} {vs : List Value} {x : Ins} (h : RIns w vs x) (hx : Ext w w') : RIns w' vs x := RIns.ext hx h
theorem RBlock.ext' {w w' : World} {vs : List Value} {x : Blk} (h : RBlock w vs x) (hx : Ext w w') : RBlock w' vs x := RBlock.ext hx h
theorem RFunc.ext' {w w' : World} {vs : List Value} {x : Fnc} (h : RFunc w vs x) (hx : Ext w w') : RFunc w' vs x := RFunc.ext hx h
theorem Hp.row {w0 w : World} {L : List (Nat × Obj)} (h : Hp w0 w L) (i : Nat) {b : Nat} {e : TypeId} {vs : List Value} (hi : L[i]? = some (b, Cl e vs)) : Row w b 0 vs := by
  intro j v hj
  rw [Nat.zero_add]
  exact h.cl i hi hj
end Go.Pl

/- The program. -/
namespace Go.Pl.Try
noncomputable abbrev Pg : Program := Go.Proofs.Try.prog
end Go.Pl.Try

/- Facts of this translation's table of types. -/
namespace Go.Pl.Try
theorem slBools : slT Pg 75 4 1 1 = true := by kernel_rfl
theorem slInts : slT Pg 34 3 1 8 = true := by kernel_rfl
theorem zBool : (zeroOf Pg 4).map (·.cells) = some #[.bool false] := by kernel_rfl
theorem zInt : (zeroOf Pg 3).map (·.cells) = some #[.int .i64 0] := by kernel_rfl
end Go.Pl.Try

/- What 'palings/taint.May' does, read off its translation by gen.py. -/
namespace Go.Pl.Try
set_option linter.unusedVariables false
set_option maxRecDepth 100000
def F17 (awrites1 : Option Addr) (nwrites1 cwrites1 : Nat) (i2 : Int) (i3 : Int) (ai4 : Option Addr) (ni4 ci4 : Nat) (i5 : Int) (i6 : Int) (i7 : Int) (i8 : Int) (w : World) (R : Value → World → Prop) : Prop :=
  AlP 37 [.int .i64 i2, .int .i64 i3, .slice ai4 ni4 ci4, .int .i64 i5, .int .i64 i6, .int .i64 i7, .int .i64 i8] w fun b9 w10 =>
  ∀ K11 : World → Prop, (∀ w12, (
  R (.int .i64 0) w12) → K11 w12) →
  ∀ K13 : World → Prop, (∀ w14, (
  R (.int .i64 1) w14) → K13 w14) →
  ∃ (x15 : Int), cel w10 b9 0 = some (.int .i64 x15) ∧
  sp (decide ((x15 : Int) = 5))
  (K13 w10)
  (∃ (x16 : Int), cel w10 b9 0 = some (.int .i64 x16) ∧
  sp (decide ((x16 : Int) = 3))
  (∃ (x17 : Int), cel w10 b9 5 = some (.int .i64 x17) ∧
  sp (decide ((0 : Int) ≤ x17))
  (∃ (x18 : Int), cel w10 b9 5 = some (.int .i64 x18) ∧
  sp (decide ((x18 : Int) < (nwrites1 : Nat)))
  (∃ (x19 : Int), cel w10 b9 5 = some (.int .i64 x19) ∧
  0 ≤ (x19 : Int) ∧ (x19 : Int) < (nwrites1 : Nat) ∧
  ptAt awrites1 fun b20 o21 =>
  ∃ (x22 : Bool), cel w10 b20 (o21 + x19.toNat * 1) = some (.bool x22) ∧
  sp x22
  (K13 w10)
  (K11 w10))
  (K11 w10))
  (K11 w10))
  (K11 w10))
def T17 : List Sh := [.v (.one .sl), .v (.agg [(.int .i64), (.int .i64), .sl, (.int .i64), (.int .i64), (.int .i64), (.int .i64)]), .v (.one .any), .v (.one .ptr), .v (.one (.int .i64)), .v (.one .ptr), .v (.one (.int .i64)), .v (.one .bool), .v (.one .bool), .v (.one .ptr), .v (.one (.int .i64)), .v (.one .bool), .v (.one .bool), .v (.one .ptr), .v (.one (.int .i64)), .v (.one .bool), .v (.one .bool), .v (.one .bool), .v (.one .ptr), .v (.one (.int .i64)), .v (.one .sl), .v (.one (.int .i64)), .v (.one .bool), .v (.one .bool), .v (.one .bool), .v (.one .sl), .v (.one .ptr), .v (.one (.int .i64)), .v (.one .ptr), .v (.one .bool), .v (.one .bool), .v (.one .bool)]
def A17 : Ann := (.seq none .z (.seq (some []) (.ifs (some []) none (.seq none .z .z) .z) (.seq none .z .z)))
theorem F17_eq (awrites1 : Option Addr) (nwrites1 cwrites1 : Nat) (i2 : Int) (i3 : Int) (ai4 : Option Addr) (ni4 ci4 : Nat) (i5 : Int) (i6 : Int) (i7 : Int) (i8 : Int) (w : World) (R : Value → World → Prop) : F17 awrites1 nwrites1 cwrites1 i2 i3 ai4 ni4 ci4 i5 i6 i7 i8 w R = denF Go.Proofs.Try.prog T17 Go.Proofs.Try.f17 A17 [.slice awrites1 nwrites1 cwrites1, .agg ⟨[.int .i64 i2, .int .i64 i3, .slice ai4 ni4 ci4, .int .i64 i5, .int .i64 i6, .int .i64 i7, .int .i64 i8]⟩] w R := by kernel_rfl
theorem F17_ok (awrites1 : Option Addr) (nwrites1 cwrites1 : Nat) (i2 : Int) (i3 : Int) (ai4 : Option Addr) (ni4 ci4 : Nat) (i5 : Int) (i6 : Int) (i7 : Int) (i8 : Int) {w : World} {R : Value → World → Prop} (h : F17 awrites1 nwrites1 cwrites1 i2 i3 ai4 ni4 ci4 i5 i6 i7 i8 w R) : CallP Go.Proofs.Try.prog 17 [.slice awrites1 nwrites1 cwrites1, .agg ⟨[.int .i64 i2, .int .i64 i3, .slice ai4 ni4 ci4, .int .i64 i5, .int .i64 i6, .int .i64 i7, .int .i64 i8]⟩] w R :=
  calls_den (fun _ => drawn (by kernel_rfl)) Go.Proofs.Try.func17 (Nat.le_of_ble_eq_true (by kernel_rfl)) ((F17_eq awrites1 nwrites1 cwrites1 i2 i3 ai4 ni4 ci4 i5 i6 i7 i8 w R).mp h)
end Go.Pl.Try

/- What '(palings/ssa.Func).Params' does, read off its translation by gen.py. -/
namespace Go.Pl.Try
set_option linter.unusedVariables false
set_option maxRecDepth 100000
def F25 (f1 : ByteArray) (af2 : Option Addr) (nf2 cf2 : Nat) (w : World) (R : Value → World → Prop) : Prop :=
  AlP 29 [.string f1, .slice af2 nf2 cf2] w fun b3 w4 =>
  ∃ (ax5 : Option Addr) (nx5 cx5 : Nat), cel w4 b3 1 = some (.slice ax5 nx5 cx5) ∧
  sp (decide (((nx5 : Nat) : Int) = 0))
  (R (.slice none 0 0) w4)
  (∃ (ax6 : Option Addr) (nx6 cx6 : Nat), cel w4 b3 1 = some (.slice ax6 nx6 cx6) ∧
  0 ≤ (0 : Int) ∧ (0 : Int) < (nx6 : Nat) ∧
  ptAt ax6 fun b7 o8 =>
  ∃ (ax9 : Option Addr) (nx9 cx9 : Nat), cel w4 b7 o8 = some (.slice ax9 nx9 cx9) ∧
  R (.slice ax9 nx9 cx9) w4)
def T25 : List Sh := [.v (.agg [.str, .sl]), .v (.one .ptr), .v (.one .sl), .v (.one .ptr), .v (.one .sl), .v (.one (.int .i64)), .v (.one .bool), .v (.one .ptr), .v (.one .sl), .v (.one .ptr), .v (.one .ptr), .v (.one .sl)]
def A25 : Ann := (.seq none .z (.seq none (.seq none .z (.cond (.seq none .z .z) .z)) (.seq none .z .z)))
theorem F25_eq (f1 : ByteArray) (af2 : Option Addr) (nf2 cf2 : Nat) (w : World) (R : Value → World → Prop) : F25 f1 af2 nf2 cf2 w R = denF Go.Proofs.Try.prog T25 Go.Proofs.Try.f25 A25 [.agg ⟨[.string f1, .slice af2 nf2 cf2]⟩] w R := by kernel_rfl
theorem F25_ok (f1 : ByteArray) (af2 : Option Addr) (nf2 cf2 : Nat) {w : World} {R : Value → World → Prop} (h : F25 f1 af2 nf2 cf2 w R) : CallP Go.Proofs.Try.prog 25 [.agg ⟨[.string f1, .slice af2 nf2 cf2]⟩] w R :=
  calls_den (fun _ => drawn (by kernel_rfl)) Go.Proofs.Try.func25 (Nat.le_of_ble_eq_true (by kernel_rfl)) ((F25_eq f1 af2 nf2 cf2 w R).mp h)
end Go.Pl.Try

/- What '(*palings/flow.Graph).Len' does, read off its translation by gen.py. -/
namespace Go.Pl.Try
set_option linter.unusedVariables false
set_option maxRecDepth 100000
def F35 (g1 : Option Addr) (w : World) (R : Value → World → Prop) : Prop :=
  ∃ (x2 : Bool), Sem.run Pg (do eqGuard .eql 72 (.tmp 3) (.const (.pointer none)) (.pointer g1) (.pointer none); binOp .eql 72 (.pointer g1) (.pointer none)) w = .ok (.bool x2) w ∧
  sp x2
  (R (.int .i64 0) w)
  (ptAt g1 fun b3 o4 =>
  ∃ (ax5 : Option Addr) (nx5 cx5 : Nat), cel w b3 o4 = some (.slice ax5 nx5 cx5) ∧
  R (.int .i64 (nx5 : Nat)) w)
def T35 : List Sh := [.v (.one .ptr), .v (.one .any), .v (.one (.int .i64)), .v (.one .ptr), .v (.one .bool), .v (.one .ptr), .v (.one .ptr), .v (.one .ptr), .v (.one .sl), .v (.one (.int .i64))]
def A35 : Ann := (.seq none .z (.seq none (.seq none .z (.cond (.seq none .z .z) .z)) (.seq none .z .z)))
theorem F35_eq (g1 : Option Addr) (w : World) (R : Value → World → Prop) : F35 g1 w R = denF Go.Proofs.Try.prog T35 Go.Proofs.Try.f35 A35 [.pointer g1] w R := by kernel_rfl
theorem F35_ok (g1 : Option Addr) {w : World} {R : Value → World → Prop} (h : F35 g1 w R) : CallP Go.Proofs.Try.prog 35 [.pointer g1] w R :=
  calls_den (fun _ => drawn (by kernel_rfl)) Go.Proofs.Try.func35 (Nat.le_of_ble_eq_true (by kernel_rfl)) ((F35_eq g1 w R).mp h)
end Go.Pl.Try

/- What '(*palings/flow.Graph).in' does, read off its translation by gen.py. -/
namespace Go.Pl.Try
set_option linter.unusedVariables false
set_option maxRecDepth 100000
def F37 (g1 : Option Addr) (b2 : Int) (w : World) (R : Value → World → Prop) : Prop :=
  sp (decide ((0 : Int) ≤ b2))
  (CallP Pg 35 [.pointer g1] w fun v3 w4 => ∃ (x5 : Int), v3 = .int .i64 x5 ∧
  sp (decide ((b2 : Int) < x5))
  (ptAt g1 fun b6 o7 =>
  ∃ (ax8 : Option Addr) (nx8 cx8 : Nat), cel w4 b6 (o7 + 2) = some (.slice ax8 nx8 cx8) ∧
  0 ≤ (b2 : Int) ∧ (b2 : Int) < (nx8 : Nat) ∧
  ptAt ax8 fun b9 o10 =>
  ∃ (x11 : Bool), cel w4 b9 (o10 + b2.toNat * 1) = some (.bool x11) ∧
  R (.bool x11) w4)
  (R (.bool false) w4))
  (R (.bool false) w)
def T37 : List Sh := [.v (.one .ptr), .v (.one (.int .i64)), .v (.one .any), .v (.one .any), .v (.one .bool), .v (.one (.int .i64)), .v (.one .bool), .v (.one .bool), .v (.one (.int .i64)), .v (.one .ptr), .v (.one (.int .i64)), .v (.one .bool), .v (.one .bool), .v (.one .bool), .v (.one .ptr), .v (.one .ptr), .v (.one .ptr), .v (.one .sl), .v (.one (.int .i64)), .v (.one .ptr), .v (.one .bool), .v (.one .bool)]
def A37 : Ann := (.seq none .z (.seq none .z .z))
theorem F37_eq (g1 : Option Addr) (b2 : Int) (w : World) (R : Value → World → Prop) : F37 g1 b2 w R = denF Go.Proofs.Try.prog T37 Go.Proofs.Try.f37 A37 [.pointer g1, .int .i64 b2] w R := by kernel_rfl
theorem F37_ok (g1 : Option Addr) (b2 : Int) {w : World} {R : Value → World → Prop} (h : F37 g1 b2 w R) : CallP Go.Proofs.Try.prog 37 [.pointer g1, .int .i64 b2] w R :=
  calls_den (fun _ => drawn (by kernel_rfl)) Go.Proofs.Try.func37 (Nat.le_of_ble_eq_true (by kernel_rfl)) ((F37_eq g1 b2 w R).mp h)
end Go.Pl.Try

/- What '(*palings/flow.Graph).Ins' does, read off its translation by gen.py. -/
namespace Go.Pl.Try
set_option linter.unusedVariables false
set_option maxRecDepth 100000
def F36 (g1 : Option Addr) (b2 : Int) (w : World) (R : Value → World → Prop) : Prop :=
  ∀ K3 : World → Prop, (∀ w4, (
  ptAt g1 fun b5 o6 =>
  ∃ (ax7 : Option Addr) (nx7 cx7 : Nat), cel w4 b5 (o6 + 1) = some (.slice ax7 nx7 cx7) ∧
  0 ≤ (b2 : Int) ∧ (b2 : Int) < (nx7 : Nat) ∧
  ptAt ax7 fun b8 o9 =>
  ∃ (ax10 : Option Addr) (nx10 cx10 : Nat), cel w4 b8 (o9 + b2.toNat * 1) = some (.slice ax10 nx10 cx10) ∧
  ∃ (ax11 : Option Addr) (nx11 cx11 : Nat), ∃ w12 : World, Sem.run Pg (Builtin.append_ #[34, 34] 34 ⟨[.slice none 0 0, .slice ax10 nx10 cx10]⟩) w4 = .ok (.slice ax11 nx11 cx11) w12 ∧
  R (.slice ax11 nx11 cx11) w12) → K3 w4) →
  ∀ K13 : World → Prop, (∀ w14, (
  R (.slice none 0 0) w14) → K13 w14) →
  sp (decide ((b2 : Int) < 0))
  (K13 w)
  (CallP Pg 35 [.pointer g1] w fun v15 w16 => ∃ (x17 : Int), v15 = .int .i64 x17 ∧
  sp (decide ((x17 : Int) ≤ b2))
  (K13 w16)
  (K3 w16))
def T36 : List Sh := [.v (.one .ptr), .v (.one (.int .i64)), .v (.one .any), .v (.one .any), .v (.one .sl), .v (.one (.int .i64)), .v (.one .bool), .v (.one .bool), .v (.one (.int .i64)), .v (.one .ptr), .v (.one (.int .i64)), .v (.one .bool), .v (.one .bool), .v (.one .ptr), .v (.one .ptr), .v (.one .ptr), .v (.one .sl), .v (.one (.int .i64)), .v (.one .ptr), .v (.one .sl), .v (.one .sl)]
def A36 : Ann := (.seq none .z (.seq (some []) (.ifs (some []) none (.seq none .z .z) .z) (.seq none .z .z)))
theorem F36_eq (g1 : Option Addr) (b2 : Int) (w : World) (R : Value → World → Prop) : F36 g1 b2 w R = denF Go.Proofs.Try.prog T36 Go.Proofs.Try.f36 A36 [.pointer g1, .int .i64 b2] w R := by kernel_rfl
theorem F36_ok (g1 : Option Addr) (b2 : Int) {w : World} {R : Value → World → Prop} (h : F36 g1 b2 w R) : CallP Go.Proofs.Try.prog 36 [.pointer g1, .int .i64 b2] w R :=
  calls_den (fun _ => drawn (by kernel_rfl)) Go.Proofs.Try.func36 (Nat.le_of_ble_eq_true (by kernel_rfl)) ((F36_eq g1 b2 w R).mp h)
end Go.Pl.Try

/- What 'palings/taint.Known' does, read off its translation by gen.py. -/
namespace Go.Pl.Try
set_option linter.unusedVariables false
set_option maxRecDepth 100000
def F45 (i1 : Int) (i2 : Int) (ai3 : Option Addr) (ni3 ci3 : Nat) (i4 : Int) (i5 : Int) (i6 : Int) (i7 : Int) (w : World) (R : Value → World → Prop) : Prop :=
  AlP 37 [.int .i64 i1, .int .i64 i2, .slice ai3 ni3 ci3, .int .i64 i4, .int .i64 i5, .int .i64 i6, .int .i64 i7] w fun b8 w9 =>
  ∀ K10 : World → Prop, (∀ w11, (
  R (.slice none 0 0) w11) → K10 w11) →
  ∀ K12 : World → Prop, (∀ w13, (
  ∃ (ax14 : Option Addr) (nx14 cx14 : Nat), cel w13 b8 2 = some (.slice ax14 nx14 cx14) ∧
  ∃ (ax15 : Option Addr) (nx15 cx15 : Nat), Sem.run Pg (Instr.sliceAt 34 (.slice ax14 nx14 cx14) none (some (.int .i64 1)) (some (.int .i64 1))) w13 = .ok (.slice ax15 nx15 cx15) w13 ∧
  R (.slice ax15 nx15 cx15) w13) → K12 w13) →
  ∀ K16 : World → Prop, (∀ w17, (
  ∃ (x18 : Int), cel w17 b8 0 = some (.int .i64 x18) ∧
  sp (decide ((x18 : Int) = 2))
  (∃ (x19 : Int), cel w17 b8 4 = some (.int .i64 x19) ∧
  CallP Pg 76 [.int .i64 x19] w17 fun v20 w21 => ∃ (x22 : Bool), v20 = .bool x22 ∧
  sp x22
  (∃ (ax23 : Option Addr) (nx23 cx23 : Nat), cel w21 b8 2 = some (.slice ax23 nx23 cx23) ∧
  ∃ (ax24 : Option Addr) (nx24 cx24 : Nat), ∃ w25 : World, Sem.run Pg (Builtin.append_ #[34, 34] 34 ⟨[.slice none 0 0, .slice ax23 nx23 cx23]⟩) w21 = .ok (.slice ax24 nx24 cx24) w25 ∧
  R (.slice ax24 nx24 cx24) w25)
  (K10 w21))
  (K10 w17)) → K16 w17) →
  ∃ (x26 : Int), cel w9 b8 0 = some (.int .i64 x26) ∧
  sp (decide ((x26 : Int) = 5))
  (∃ (ax27 : Option Addr) (nx27 cx27 : Nat), cel w9 b8 2 = some (.slice ax27 nx27 cx27) ∧
  sp (decide ((0 : Int) < (nx27 : Nat)))
  (K12 w9)
  (K16 w9))
  (∃ (x28 : Int), cel w9 b8 0 = some (.int .i64 x28) ∧
  sp (decide ((x28 : Int) = 6))
  (∃ (ax29 : Option Addr) (nx29 cx29 : Nat), cel w9 b8 2 = some (.slice ax29 nx29 cx29) ∧
  sp (decide ((0 : Int) < (nx29 : Nat)))
  (K12 w9)
  (K16 w9))
  (K16 w9))
def T45 : List Sh := [.v (.agg [(.int .i64), (.int .i64), .sl, (.int .i64), (.int .i64), (.int .i64), (.int .i64)]), .v (.one .ptr), .v (.one .sl), .v (.one .bool), .v (.one .ptr), .v (.one (.int .i64)), .v (.one .bool), .v (.one .bool), .v (.one .ptr), .v (.one (.int .i64)), .v (.one .bool), .v (.one .bool), .v (.one .bool), .v (.one .ptr), .v (.one .sl), .v (.one (.int .i64)), .v (.one .bool), .v (.one .bool), .v (.one .ptr), .v (.one .sl), .v (.one .sl), .v (.one .bool), .v (.one .ptr), .v (.one (.int .i64)), .v (.one .bool), .v (.one .bool), .v (.one .ptr), .v (.one (.int .i64)), .v (.one .bool), .v (.one .bool), .v (.one .ptr), .v (.one .sl), .v (.one .sl)]
def A45 : Ann := (.seq none .z (.seq none (.block (some []) (.ifs (some []) (some []) (.seq none .z .z) (.ifs none none (.seq none .z .z) .z))) (.seq none .z .z)))
theorem F45_eq (i1 : Int) (i2 : Int) (ai3 : Option Addr) (ni3 ci3 : Nat) (i4 : Int) (i5 : Int) (i6 : Int) (i7 : Int) (w : World) (R : Value → World → Prop) : F45 i1 i2 ai3 ni3 ci3 i4 i5 i6 i7 w R = denF Go.Proofs.Try.prog T45 Go.Proofs.Try.f45 A45 [.agg ⟨[.int .i64 i1, .int .i64 i2, .slice ai3 ni3 ci3, .int .i64 i4, .int .i64 i5, .int .i64 i6, .int .i64 i7]⟩] w R := by kernel_rfl
theorem F45_ok (i1 : Int) (i2 : Int) (ai3 : Option Addr) (ni3 ci3 : Nat) (i4 : Int) (i5 : Int) (i6 : Int) (i7 : Int) {w : World} {R : Value → World → Prop} (h : F45 i1 i2 ai3 ni3 ci3 i4 i5 i6 i7 w R) : CallP Go.Proofs.Try.prog 45 [.agg ⟨[.int .i64 i1, .int .i64 i2, .slice ai3 ni3 ci3, .int .i64 i4, .int .i64 i5, .int .i64 i6, .int .i64 i7]⟩] w R :=
  calls_den (fun _ => drawn (by kernel_rfl)) Go.Proofs.Try.func45 (Nat.le_of_ble_eq_true (by kernel_rfl)) ((F45_eq i1 i2 ai3 ni3 ci3 i4 i5 i6 i7 w R).mp h)
end Go.Pl.Try

/- What 'palings/ssa.shape' does, read off its translation by gen.py. -/
namespace Go.Pl.Try
set_option linter.unusedVariables false
set_option maxRecDepth 100000
def F54 (o1 : Int) (w : World) (R : Value → World → Prop) : Prop :=
  ∀ K2 : Bool → World → Prop, (∀ (x3 : Bool), ∀ w4, (
  sp x3
  (R (.tuple ⟨[.int .i64 0, .bool true]⟩) w4)
  (sp (decide ((o1 : Int) = 2))
  (R (.tuple ⟨[.int .i64 2, .bool true]⟩) w4)
  (sp (decide ((o1 : Int) = 4))
  (R (.tuple ⟨[.int .i64 1, .bool false]⟩) w4)
  (sp (decide ((o1 : Int) = 5))
  (R (.tuple ⟨[.int .i64 1, .bool true]⟩) w4)
  (sp (decide ((o1 : Int) = 6))
  (R (.tuple ⟨[.int .i64 2, .bool false]⟩) w4)
  (sp (decide ((o1 : Int) = 7))
  (R (.tuple ⟨[.int .i64 (-1), .bool true]⟩) w4)
  (R (.tuple ⟨[.int .i64 (-2), .bool false]⟩) w4))))))) → K2 x3 w4) →
  sp (decide ((o1 : Int) = 1))
  (K2 (decide ((o1 : Int) = 1)) w)
  (K2 (decide ((o1 : Int) = 3)) w)
def T54 : List Sh := [.v (.one (.int .i64)), .v (.one .any), .v (.one (.int .i64)), .v (.one .bool), .v (.one (.int .i64)), .v (.one .bool), .v (.one .bool), .v (.one .bool), .v (.one .bool), .v (.one .bool), .v (.one .bool), .v (.one .bool), .v (.one .bool), .v (.one .bool), .v (.one .bool), .v (.one .bool), .v (.one .bool), .v (.one .bool)]
def A54 : Ann := (.seq none .z (.seq none (.seq none .z (.block none (.seq (some [5]) (.seq none .z (.cond .z .z)) (.cond (.seq none .z .z) (.seq none .z (.cond (.seq none .z .z) (.seq none .z (.cond (.seq none .z .z) (.seq none .z (.cond (.seq none .z .z) (.seq none .z (.cond (.seq none .z .z) (.seq none .z (.cond (.seq none .z .z) .z)))))))))))))) (.seq none .z .z)))
theorem F54_eq (o1 : Int) (w : World) (R : Value → World → Prop) : F54 o1 w R = denF Go.Proofs.Try.prog T54 Go.Proofs.Try.f54 A54 [.int .i64 o1] w R := by kernel_rfl
theorem F54_ok (o1 : Int) {w : World} {R : Value → World → Prop} (h : F54 o1 w R) : CallP Go.Proofs.Try.prog 54 [.int .i64 o1] w R :=
  calls_den (fun _ => drawn (by kernel_rfl)) Go.Proofs.Try.func54 (Nat.le_of_ble_eq_true (by kernel_rfl)) ((F54_eq o1 w R).mp h)
end Go.Pl.Try

/- What '(palings/word.Op).Known' does, read off its translation by gen.py. -/
namespace Go.Pl.Try
set_option linter.unusedVariables false
set_option maxRecDepth 100000
def F55 (o1 : Int) (w : World) (R : Value → World → Prop) : Prop :=
  sp (decide ((1 : Int) ≤ o1))
  (R (.bool (decide ((o1 : Int) ≤ 15))) w)
  (R (.bool false) w)
def T55 : List Sh := [.v (.one (.int .i64)), .v (.one .any), .v (.one .bool), .v (.one (.int .i64)), .v (.one .bool), .v (.one .bool), .v (.one (.int .i64)), .v (.one .bool), .v (.one .bool)]
def A55 : Ann := (.seq none .z (.seq none .z .z))
theorem F55_eq (o1 : Int) (w : World) (R : Value → World → Prop) : F55 o1 w R = denF Go.Proofs.Try.prog T55 Go.Proofs.Try.f55 A55 [.int .i64 o1] w R := by kernel_rfl
theorem F55_ok (o1 : Int) {w : World} {R : Value → World → Prop} (h : F55 o1 w R) : CallP Go.Proofs.Try.prog 55 [.int .i64 o1] w R :=
  calls_den (fun _ => drawn (by kernel_rfl)) Go.Proofs.Try.func55 (Nat.le_of_ble_eq_true (by kernel_rfl)) ((F55_eq o1 w R).mp h)
end Go.Pl.Try

/- What 'palings/taint.stays' does, read off its translation by gen.py. -/
namespace Go.Pl.Try
set_option linter.unusedVariables false
set_option maxRecDepth 100000
def F63 (l1 : Int) (w : World) (R : Value → World → Prop) : Prop :=
  sp (decide ((l1 : Int) = 1))
  (R (.int .i64 0) w)
  (R (.int .i64 l1) w)
def T63 : List Sh := [.v (.one (.int .i64)), .v (.one .any), .v (.one (.int .i64)), .v (.one (.int .i64)), .v (.one .bool), .v (.one (.int .i64))]
def A63 : Ann := (.seq none .z (.seq none (.seq none .z (.cond (.seq none .z .z) .z)) (.seq none .z .z)))
theorem F63_eq (l1 : Int) (w : World) (R : Value → World → Prop) : F63 l1 w R = denF Go.Proofs.Try.prog T63 Go.Proofs.Try.f63 A63 [.int .i64 l1] w R := by kernel_rfl
theorem F63_ok (l1 : Int) {w : World} {R : Value → World → Prop} (h : F63 l1 w R) : CallP Go.Proofs.Try.prog 63 [.int .i64 l1] w R :=
  calls_den (fun _ => drawn (by kernel_rfl)) Go.Proofs.Try.func63 (Nat.le_of_ble_eq_true (by kernel_rfl)) ((F63_eq l1 w R).mp h)
end Go.Pl.Try

/- What '(palings/word.Op).Divides' does, read off its translation by gen.py. -/
namespace Go.Pl.Try
set_option linter.unusedVariables false
set_option maxRecDepth 100000
def F76 (o1 : Int) (w : World) (R : Value → World → Prop) : Prop :=
  sp (decide ((o1 : Int) = 4))
  (R (.bool true) w)
  (R (.bool (decide ((o1 : Int) = 5))) w)
def T76 : List Sh := [.v (.one (.int .i64)), .v (.one .any), .v (.one .bool), .v (.one (.int .i64)), .v (.one .bool), .v (.one .bool), .v (.one (.int .i64)), .v (.one .bool), .v (.one .bool)]
def A76 : Ann := (.seq none .z (.seq none .z .z))
theorem F76_eq (o1 : Int) (w : World) (R : Value → World → Prop) : F76 o1 w R = denF Go.Proofs.Try.prog T76 Go.Proofs.Try.f76 A76 [.int .i64 o1] w R := by kernel_rfl
theorem F76_ok (o1 : Int) {w : World} {R : Value → World → Prop} (h : F76 o1 w R) : CallP Go.Proofs.Try.prog 76 [.int .i64 o1] w R :=
  calls_den (fun _ => drawn (by kernel_rfl)) Go.Proofs.Try.func76 (Nat.le_of_ble_eq_true (by kernel_rfl)) ((F76_eq o1 w R).mp h)
end Go.Pl.Try

/- What 'palings/harden.weigh' does, read off its translation by gen.py. -/
namespace Go.Pl.Try
set_option linter.unusedVariables false
set_option maxRecDepth 100000
def F77 (deep1 : Int) (w : World) (R : Value → World → Prop) : Prop :=
  ∃ J2 : Int → Int → World → Nat → Prop, (∃ m6, J2 1 0 w m6) ∧
  ∀ (w3 : Int) (x4 : Int), ∀ w5 m6, J2 w3 x4 w5 m6 →
  sp (decide ((x4 : Int) < mnI deep1 4))
  (∃ m7, m7 < m6 ∧ J2 (IntKind.wrap .i64 (w3 * 10)) (IntKind.wrap .i64 (x4 + 1)) w5 m7)
  (R (.int .i64 w3) w5)
def T77 : List Sh := [.v (.one (.int .i64)), .v (.one .any), .v (.one (.int .i64)), .v (.one (.int .i64)), .v (.one (.int .i64)), .v (.one (.int .i64)), .v (.one (.int .i64)), .v (.one .bool), .v (.one (.int .i64)), .v (.one (.int .i64)), .v (.one (.int .i64)), .v (.one (.int .i64))]
def A77 : Ann := (.seq none .z (.seq none .z (.seq none (.seq none .z (.block none (.loop [3, 6] (.seq none .z (.seq none (.cond .z .z) (.seq none (.block none .z) .z)))))) (.seq none .z .z))))
theorem F77_eq (deep1 : Int) (w : World) (R : Value → World → Prop) : F77 deep1 w R = denF Go.Proofs.Try.prog T77 Go.Proofs.Try.f77 A77 [.int .i64 deep1] w R := by kernel_rfl
theorem F77_ok (deep1 : Int) {w : World} {R : Value → World → Prop} (h : F77 deep1 w R) : CallP Go.Proofs.Try.prog 77 [.int .i64 deep1] w R :=
  calls_den (fun _ => drawn (by kernel_rfl)) Go.Proofs.Try.func77 (Nat.le_of_ble_eq_true (by kernel_rfl)) ((F77_eq deep1 w R).mp h)
end Go.Pl.Try

/- Small functions, walked. -/
namespace Go.Pl.Try
open M
set_option linter.unusedVariables false
theorem known_op (o : Int) (w : World) : CallP Pg 55 [.int .i64 o] w fun v w' => v = .bool (opKnown o) ∧ w' = w := by
  refine F55_ok o (sp_dec (fun h => ⟨?_, rfl⟩) (fun h => ⟨?_, rfl⟩)) <;> simp [opKnown, h]
theorem divides_w (o : Int) (w : World) : CallP Pg 76 [.int .i64 o] w fun v w' => v = .bool (divides o) ∧ w' = w := by
  refine F76_ok o (sp_dec (fun h => ⟨?_, rfl⟩) (fun h => ⟨?_, rfl⟩)) <;> simp [divides, h]
theorem stays_w (l : Int) (w : World) : CallP Pg 63 [.int .i64 l] w fun v w' => v = .int .i64 (stays l) ∧ w' = w := by
  refine F63_ok l (sp_dec (fun h => ⟨?_, rfl⟩) (fun h => ⟨?_, rfl⟩)) <;> simp [stays, h]
theorem shape_w (o : Int) (w : World) : CallP Pg 54 [.int .i64 o] w fun v w' => v = .tuple ⟨[.int .i64 (shapeOf o).1, .bool (shapeOf o).2]⟩ ∧ w' = w := by
  refine F54_ok o ?_
  intro K hK
  have key : ∀ x, x = decide (o = 1 ∨ o = 3) → K x w := by
    intro x hx
    refine hK x w ?_
    subst hx
    refine sp_dec (fun h => ⟨by simp [shapeOf, h], rfl⟩) (fun h => sp_dec (fun h2 => ⟨by simp [shapeOf, h2], rfl⟩) (fun h2 => sp_dec (fun h4 => ⟨by simp [shapeOf, h4], rfl⟩) (fun h4 => sp_dec (fun h5 => ⟨by simp [shapeOf, h5], rfl⟩)
      (fun h5 => sp_dec (fun h6 => ⟨by simp [shapeOf, h6], rfl⟩) (fun h6 => sp_dec (fun h7 => ⟨by simp [shapeOf, h7], rfl⟩) (fun h7 => ⟨by simp [shapeOf, h, h2, h4, h5, h6, h7], rfl⟩))))))
  refine sp_dec (fun h => key _ ?_) (fun h => key _ ?_) <;> simp [h]
theorem may_w {a : Option Addr} {n c : Nat} {writes : List Bool} {w : World} {ai : Option Addr} {ni ci : Nat} (i : Ins) (h : RdBs w a n writes) :
    CallP Pg 17 [.slice a n c, .agg ⟨[.int .i64 i.op, .int .i64 i.dst, .slice ai ni ci, .int .i64 i.num, .int .i64 i.bin, .int .i64 i.arr, .int .i64 i.fn]⟩] w fun v w' => v = .int .i64 (may writes i) ∧ Ext w w' := by
  refine F17_ok _ _ _ _ _ _ _ _ _ _ _ _ ?_
  refine alp (Hp.refl w) fun b w1 h1 => ?_
  intro K0 hK0 K hK
  refine ⟨_, h1.cl 0 rfl rfl, sp_dec (fun h5 => hK _ ⟨?_, h1.ext⟩) (fun h5 => ⟨_, h1.cl 0 rfl rfl, sp_dec (fun h3 => ⟨_, h1.cl 0 rfl rfl, sp_dec (fun h0 => ⟨_, h1.cl 0 rfl rfl, sp_dec (fun hl => ?_) (fun hl => hK0 _ ⟨?_, h1.ext⟩)⟩) (fun h0 => hK0 _ ⟨?_, h1.ext⟩)⟩) (fun h3 => hK0 _ ⟨?_, h1.ext⟩)⟩)⟩
  · simp [may, h5]
  · have hn : i.arr.toNat < n := by omega
    obtain ⟨x, hx⟩ : ∃ x, writes[i.arr.toNat]? = some x := ⟨_, List.getElem?_eq_getElem (by rw [h.len]; exact hn)⟩
    obtain ⟨bb, ob, ha, hc⟩ := h.at hx
    refine ⟨_, h1.cl 0 rfl rfl, h0, hl, ptAt_of ha ⟨x, h1.ext.cel hc, sp_of (fun e => hK _ ⟨?_, h1.ext⟩) (fun e => hK0 _ ⟨?_, h1.ext⟩)⟩⟩
    · simp [may, h3, h0, hx, e]
    · simp [may, h5, hx, e]
  · have : writes[i.arr.toNat]? = none := List.getElem?_eq_none (by rw [h.len]; omega)
    simp [may, h5, this]
  · simp [may, h5, h0]
  · simp [may, h5, h3]
theorem weigh_w (d : Nat) (hd : d ≤ maxLen) (w : World) : CallP Pg 77 [.int .i64 (d : Int)] w fun v w' => v = .int .i64 (weigh d) ∧ w' = w := by
  refine F77_ok _ ?_
  have hm : mnI (d : Int) 4 = ((min d 4 : Nat) : Int) := by unfold mnI; split <;> omega
  refine ⟨fun x i w1 m => w1 = w ∧ ∃ j : Nat, i = j ∧ j ≤ min d 4 ∧ m = min d 4 - j ∧ x = 10 ^ j, ⟨min d 4, rfl, 0, rfl, by omega, by omega, rfl⟩, ?_⟩
  rintro x i w1 m ⟨rfl, j, rfl, hj, rfl, rfl⟩
  rw [hm]
  refine sp_dec (fun hlt => ?_) (fun hge => ?_)
  · have hj4 : j < 4 := by omega
    have hp : (10 : Int) ^ j * 10 ≤ 10000 := by
      have : j = 0 ∨ j = 1 ∨ j = 2 ∨ j = 3 := by omega
      rcases this with rfl | rfl | rfl | rfl <;> decide
    have hp0 : (0 : Int) ≤ 10 ^ j := Int.pow_nonneg (by decide)
    refine ⟨min d 4 - (j + 1), by omega, rfl, j + 1, ?_, by omega, rfl, ?_⟩
    · rw [wrap_in (by omega) (by omega)]; omega
    · rw [wrap_in (by omega) (by omega), Int.pow_succ]
  · have : j = min d 4 := by omega
    exact ⟨by rw [this]; rfl, rfl⟩
theorem params_w (nm : ByteArray) {a : Option Addr} {n c : Nat} {f : Fnc} {w : World} (h : RdBlocks w a n f.blocks) :
    CallP Pg 25 [.agg ⟨[.string nm, .slice a n c]⟩] w fun v w' => ∃ a' n' c', v = .slice a' n' c' ∧ RdI w' a' n' f.params ∧ Ext w w' := by
  refine F25_ok _ _ _ _ ?_
  refine alp (Hp.refl w) fun b w1 h1 => ⟨_, _, _, h1.cl 0 rfl rfl, sp_dec (fun h0 => ?_) (fun h0 => ?_)⟩
  · have : f.blocks = [] := List.eq_nil_of_length_eq_zero (by rw [h.len]; omega)
    exact ⟨_, _, _, rfl, by simp only [Fnc.params, this]; exact RdS.nil _ _ _ _, h1.ext⟩
  · obtain ⟨x, xs, hx⟩ : ∃ x xs, f.blocks = x :: xs := by
      cases hb : f.blocks with
      | nil => rw [hb] at h; have := h.len; simp at this; omega
      | cons x xs => exact ⟨x, xs, rfl⟩
    obtain ⟨bb, ob, vb, ha, hrow, hvl, ap, np, cp, ai, ni, ci, ae, ne, ce, rfl, hp, hi, he⟩ := h.at_ 0 x (by simp [hx])
    refine ⟨_, _, _, h1.cl 0 rfl rfl, by omega, by omega, ptAt_of ha ⟨ap, np, cp, ?_, _, _, _, rfl, ?_, h1.ext⟩⟩
    · have := hrow 0 _ rfl
      simp only [Nat.zero_mul, Nat.add_zero] at this
      exact h1.ext.cel this
    · simp only [Fnc.params, hx]
      exact hp.ext h1.ext
theorem len_w {p : Option Addr} {g : Gr} {w : World} (h : RdG w p g) : CallP Pg 35 [.pointer p] w fun v w' => v = .int .i64 (g.outs.length : Nat) ∧ w' = w := by
  obtain ⟨b, o, ao, no, co, ai, ni, ci, ar, nr, cr, rfl, h1, h2, h3, h4, h5, h6⟩ := h
  refine F35_ok _ ?_
  unfold F35
  refine ⟨false, ?_, ?_⟩
  · exact eql_ptr_nil (e := 114) (by kernel_rfl) _ _ _ _
  · refine sp_false rfl (ptAt_of rfl ?_)
    exact ⟨ao, no, co, h1, by rw [h4.len], rfl⟩
theorem in_w {p : Option Addr} {g : Gr} {w : World} (h : RdG w p g) (hl : g.reach.length = g.outs.length) (i : Int) : CallP Pg 37 [.pointer p, .int .i64 i] w fun v w' => v = .bool (g.has i) ∧ w' = w := by
  refine F37_ok _ _ (sp_dec (fun h0 => ?_) (fun h0 => ⟨by simp [Gr.has, h0], rfl⟩))
  refine Calls.mono (len_w h) ?_
  rintro e w' ⟨v, rfl, rfl, rfl⟩
  refine ⟨_, rfl, _, rfl, sp_dec (fun hlt => ?_) (fun hlt => ⟨by simp [Gr.has, hlt], rfl⟩)⟩
  obtain ⟨b, o, ao, no, co, ai, ni, ci, ar, nr, cr, rfl, h1, h2, h3, h4, h5, h6⟩ := h
  have hi : i.toNat < g.reach.length := by omega
  obtain ⟨bb, ob, ha, hc⟩ := h6.at (List.getElem?_eq_getElem hi)
  refine ptAt_of rfl ⟨_, _, _, h3, h0, by rw [← h6.len]; omega, ptAt_of ha ⟨_, hc, ?_, rfl⟩⟩
  simp [Gr.has, h0, hlt, List.getElem?_eq_getElem hi]
/-- A slice that is made of another one: 'append([]int(nil), xs...)'. -/
theorem copy_run {w : World} {a : Option Addr} {n c : Nat} {xs : List Int} (h : RdI w a n xs) (hn : n ≤ 4294967296) :
    ∃ a' c' w', (Builtin.append_ #[34, 34] 34 ⟨[.slice none 0 0, .slice a n c]⟩).run Pg w = .ok (.slice a' n c') w' ∧ RdI w' a' n xs ∧ Ext w w' := by
  have hsrc : Src w 1 a n (xs.map (Value.int .i64)) := by
    refine ⟨by simp [h.len], ?_⟩
    by_cases h0 : n = 0
    · exact .inl h0
    · right
      have hx : 0 < xs.length := by rw [h.len]; omega
      obtain ⟨b, o, ha, hc⟩ := h.at (i := 0) (List.getElem?_eq_getElem hx)
      refine ⟨b, o, ha, fun j v hj => ?_⟩
      rw [List.getElem?_map] at hj
      obtain ⟨x, hx, rfl⟩ := Option.map_eq_some_iff.1 hj
      obtain ⟨b', o', ha', hc'⟩ := h.at hx
      rw [ha] at ha'
      cases ha'
      have := hc'
      simp only [Nat.mul_one] at this
      exact this
  obtain ⟨a', c', w', r', h1, h2, h3⟩ := app2 (ty := 34) slInts (by omega) (Sls.nil 1 none) [] (L := []) (Hp.refl w) hsrc (by simp [Value.oneCell']) (by simp only [maxLen]; omega) (by omega) (cx := c)
  refine ⟨a', c', w', by simpa using h1, ?_, h3.ext⟩
  simp only [List.nil_append, Nat.zero_add] at h2 h3
  refine h2.rd [] (L := []) h3 h.len fun i x hi => ?_
  have hil := (List.getElem?_eq_some_iff.1 hi).1
  simp only [RI, Nat.mul_one]
  rw [List.drop_eq_getElem_cons (by simpa using hil)]
  simp [(List.getElem?_eq_some_iff.1 hi).2]
theorem ins_w {p : Option Addr} {g : Gr} {w : World} (h : RdG w p g) (hl : g.ins.length = g.outs.length) (hs : ∀ xs ∈ g.ins, xs.length ≤ 4294967296) (i : Int) :
    CallP Pg 36 [.pointer p, .int .i64 i] w fun v w' => ∃ a' n' c', v = .slice a' n' c' ∧ RdI w' a' n' (if 0 ≤ i then g.ins.getD i.toNat [] else []) ∧ Ext w w' := by
  refine F36_ok _ _ ?_
  intro K0 hK0 K hK
  refine sp_dec (fun h0 => hK _ ⟨_, _, _, rfl, ?_, Ext.refl _⟩) (fun h0 => ?_)
  · rw [if_neg (by omega)]; exact RdS.nil _ _ _ _
  refine Calls.mono (len_w h) ?_
  rintro e w' ⟨v, rfl, rfl, rfl⟩
  refine ⟨_, rfl, _, rfl, sp_dec (fun hlt => hK _ ⟨_, _, _, rfl, ?_, Ext.refl _⟩) (fun hlt => ?_)⟩
  · rw [if_pos (by omega), List.getD_eq_getElem?_getD, List.getElem?_eq_none (by omega)]; exact RdS.nil _ _ _ _
  obtain ⟨b, o, ao, no, co, ai, ni, ci, ar, nr, cr, rfl, h1, h2, h3, h4, h5, h6⟩ := h
  have hi : i.toNat < g.ins.length := by omega
  obtain ⟨bb, ob, a', n', c', ha, hc, hr⟩ := h5.at (List.getElem?_eq_getElem hi)
  have hsz := hs _ (List.getElem_mem hi)
  obtain ⟨a2, c2, w2, hrun, hr2, hx2⟩ := copy_run (c := c') hr (by rw [← hr.len]; exact hsz)
  refine hK0 _ (ptAt_of rfl ⟨_, _, _, h2, by omega, by rw [← h5.len]; omega, ptAt_of ha ⟨_, _, _, hc, _, _, _, w2, hrun, _, _, _, rfl, ?_, hx2⟩⟩)
  rw [if_pos (by omega), List.getD_eq_getElem?_getD, List.getElem?_eq_getElem hi]
  exact hr2
end Go.Pl.Try
