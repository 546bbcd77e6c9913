/- Joined texts of the proof, part 5: Model15, Mem6, Rd, K, F17, F25, F35, F37, F36, F45, F54, F55, F63, F76, F77, WSmall, F53, F28, F72, F41, F81, F66, F82, F68, F52. -/
import Derived.Test.YtbacmadoenicnaaR04
import Derived.DeepKeys3
import Derived.WideKeyMaps
set_option maxRecDepth 2000
set_option linter.unusedVariables false
set_option linter.unusedSimpArgs false
set_option linter.unusedSectionVars false
/- What 'HardenNets' asks of a function's hazards, as plain Lean. -/
namespace Go.Pl.M
set_option linter.unusedVariables false
def pput (ks : List (Int × Int)) (p : Int × Int) : List (Int × Int) := if p ∈ ks then ks else ks ++ [p]
def pputs (l : List (Int × Int)) : List (Int × Int) := l.foldl pput []
theorem mem_pput {ks : List (Int × Int)} {p q : Int × Int} : q ∈ pput ks p ↔ q ∈ ks ∨ q = p := by
  unfold pput
  split
  · rename_i h
    exact ⟨.inl, fun e => by rcases e with e | rfl; exact e; exact h⟩
  · simp
theorem mem_pputs {l : List (Int × Int)} {q : Int × Int} : q ∈ pputs l ↔ q ∈ l := by
  have : ∀ (l ks : List (Int × Int)), q ∈ l.foldl pput ks ↔ q ∈ ks ∨ q ∈ l := by
    intro l
    induction l with
    | nil => intro ks; simp
    | cons a l ih => intro ks; rw [List.foldl_cons, ih, mem_pput]; simp [or_assoc]
  unfold pputs
  rw [this]; simp
theorem pputs_snoc (l : List (Int × Int)) (p : Int × Int) : pputs (l ++ [p]) = pput (pputs l) p := by unfold pputs; rw [List.foldl_append]; rfl
def noteW (at_ : Int → Option Int) (ks : List (Int × Int)) (a b : Int) : List (Int × Int) := match at_ a, at_ b with
  | some x, some y => pput ks (x, y)
  | _, _ => ks
theorem noteW_way (z : Hz) (a b : Int) : noteW z.at_ (pputs z.ways) a b = pputs (z.way a b).ways := by
  unfold noteW Hz.way
  cases z.at_ a with
  | none => rfl
  | some x =>
    cases z.at_ b with
    | none => rfl
    | some y => exact (pputs_snoc _ _).symm
/-- Where a place is, its value is. -/
def HzI (z : Hz) : Prop := ∀ v n, z.at_ v = some n → ∃ m : Nat, n = (m : Int) ∧ z.vals[m]? = some v
theorem hzi_new : HzI Hz.new := fun v n h => by cases h
theorem value_hzi {lab : Int → Int} {wt : Int} {z : Hz} {v : Int} (h : HzI z) : HzI (z.value lab wt v) := by
  unfold Hz.value
  split
  · intro x n hx
    simp only at hx ⊢
    split at hx
    · rename_i e
      subst e
      cases hx
      exact ⟨z.vals.length, rfl, by simp⟩
    · obtain ⟨m, h1, h2⟩ := h x n hx
      exact ⟨m, h1, by rw [List.getElem?_append_left (List.getElem?_eq_some_iff.1 h2).1]; exact h2⟩
  · exact h
theorem hzVals_hzi (lab : Int → Int) (wt : Int) : ∀ (l : List Int) (z : Hz), HzI z → HzI (hzVals lab wt l z)
  | [], z, h => h
  | v :: vs, z, h => by rw [hzVals]; exact hzVals_hzi lab wt vs _ (value_hzi h)
theorem hzBlks_hzi (lab : Int → Int) (D : List Nat) (R : List Bool) : ∀ (bs : List Blk) (n : Nat) (z : Hz), HzI z → HzI (hzBlks lab D R n bs z)
  | [], n, z, h => h
  | b :: bs, n, z, h => by
    rw [hzBlks]
    refine hzBlks_hzi lab D R bs _ _ ?_
    split
    · exact hzVals_hzi _ _ _ _ h
    · exact h
/-- Values and weights are only put behind. -/
def Pre (z z' : Hz) : Prop := (∃ t, z'.vals = z.vals ++ t) ∧ ∃ u, z'.weights = z.weights ++ u
theorem Pre.refl (z : Hz) : Pre z z := ⟨⟨[], by simp⟩, [], by simp⟩
theorem Pre.trans {a b c : Hz} (h : Pre a b) (k : Pre b c) : Pre a c := by
  obtain ⟨⟨t, h1⟩, u, h2⟩ := h
  obtain ⟨⟨t', k1⟩, u', k2⟩ := k
  exact ⟨⟨t ++ t', by rw [k1, h1, List.append_assoc]⟩, u ++ u', by rw [k2, h2, List.append_assoc]⟩
theorem value_pre (lab : Int → Int) (wt : Int) (z : Hz) (v : Int) : Pre z (z.value lab wt v) := by
  unfold Hz.value
  split
  · exact ⟨⟨[v], rfl⟩, [wt], rfl⟩
  · exact .refl z
theorem hzVals_pre (lab : Int → Int) (wt : Int) : ∀ (l : List Int) (z : Hz), Pre z (hzVals lab wt l z)
  | [], z => .refl z
  | v :: vs, z => (value_pre lab wt z v).trans (hzVals_pre lab wt vs _)
theorem hzBlks_pre (lab : Int → Int) (D : List Nat) (R : List Bool) : ∀ (bs : List Blk) (n : Nat) (z : Hz), Pre z (hzBlks lab D R n bs z)
  | [], n, z => .refl z
  | b :: bs, n, z => by
    rw [hzBlks]
    refine Pre.trans ?_ (hzBlks_pre lab D R bs _ _)
    split
    · exact hzVals_pre _ _ _ _
    · exact .refl z
/-- A value that is noted now is in the end where it is put now. -/
theorem note_now {lab : Int → Int} {wt : Int} {v : Int} {z z1 : Hz} (hl : lab v = 1) (h : Pre (z.value lab wt v) z1) : z1.vals[z.vals.length]? = some v ∧ z1.weights[z.weights.length]? = some wt := by
  obtain ⟨⟨t, h1⟩, u, h2⟩ := h
  unfold Hz.value at h1 h2
  rw [if_pos hl] at h1 h2
  simp only at h1 h2
  rw [h1, h2]
  simp
theorem value_at {lab : Int → Int} {wt : Int} {z : Hz} {v x : Int} : ((z.value lab wt v).at_ x).isSome = true ↔ (z.at_ x).isSome = true ∨ (x = v ∧ lab v = 1) := by
  unfold Hz.value
  split
  · rename_i hl
    simp only
    split
    · rename_i e; simp [e, hl]
    · rename_i e; simp [e]
  · rename_i hl; simp [hl]
theorem hzVals_at (lab : Int → Int) (wt : Int) {x : Int} : ∀ (l : List Int) (z : Hz), ((hzVals lab wt l z).at_ x).isSome = true ↔ (z.at_ x).isSome = true ∨ (x ∈ l ∧ lab x = 1)
  | [], z => by simp [hzVals]
  | v :: vs, z => by
    rw [hzVals, hzVals_at lab wt vs, value_at]
    constructor
    · rintro ((h | ⟨rfl, h⟩) | ⟨h, k⟩)
      · exact .inl h
      · exact .inr ⟨by simp, h⟩
      · exact .inr ⟨by simp [h], k⟩
    · rintro (h | ⟨h, k⟩)
      · exact .inl (.inl h)
      · rcases List.mem_cons.1 h with rfl | h
        · exact .inl (.inr ⟨rfl, k⟩)
        · exact .inr ⟨h, k⟩
theorem hzBlks_at (lab : Int → Int) (D : List Nat) (R : List Bool) {x : Int} : ∀ (bs : List Blk) (n : Nat) (z : Hz), ((hzBlks lab D R n bs z).at_ x).isSome = true ↔ (z.at_ x).isSome = true ∨ ∃ (j : Nat) (b : Blk), bs[j]? = some b ∧ R.getD (n + j) false = true ∧ x ∈ b.made ∧ lab x = 1
  | [], n, z => by simp [hzBlks]
  | b :: bs, n, z => by
    rw [hzBlks, hzBlks_at lab D R bs]
    have h1 : ((if R.getD n false = true then hzVals lab (weigh (D.getD n 0)) b.made z else z).at_ x).isSome = true ↔ (z.at_ x).isSome = true ∨ (R.getD n false = true ∧ x ∈ b.made ∧ lab x = 1) := by
      split
      · rename_i h; rw [hzVals_at]; exact ⟨fun e => e.imp id fun e => ⟨h, e⟩, fun e => e.imp id And.right⟩
      · rename_i h; exact ⟨.inl, fun e => by rcases e with e | e; exact e; exact absurd e.1 h⟩
    rw [h1]
    constructor
    · rintro ((h | ⟨h, k⟩) | ⟨j, b', h, k, m⟩)
      · exact .inl h
      · exact .inr ⟨0, b, rfl, h, k⟩
      · exact .inr ⟨j + 1, b', by simpa using h, by rw [show n + (j + 1) = n + 1 + j by omega]; exact k, m⟩
    · rintro (h | ⟨j, b', h, k, m⟩)
      · exact .inl (.inl h)
      · cases j with
        | zero => cases h; exact .inl (.inr ⟨k, m⟩)
        | succ j => exact .inr ⟨j, b', by simpa using h, by rw [show n + 1 + j = n + (j + 1) by omega]; exact k, m⟩
/-! ### beginnings and ways -/
theorem way_frm (z : Hz) (a b : Int) : (z.way a b).frm = z.frm := by unfold Hz.way; split <;> rfl
theorem hzArgs_frm (d : Int) : ∀ (l : List Int) (z : Hz), (hzArgs d l z).frm = z.frm
  | [], z => rfl
  | v :: vs, z => by rw [hzArgs, hzArgs_frm d vs, way_frm]
theorem hzEdge_frm : ∀ (ps l : List Int) (z : Hz), (hzEdge ps l z).frm = z.frm
  | [], _, z => rfl
  | p :: ps, [], z => rfl
  | p :: ps, a :: l, z => by rw [hzEdge, hzEdge_frm ps l, way_frm]
theorem hzEdges_frm (bs : List Blk) : ∀ (ws : List Edg) (z : Hz), (hzEdges bs ws z).frm = z.frm
  | [], z => rfl
  | w :: ws, z => by rw [hzEdges, hzEdges_frm bs ws, hzEdge_frm]
theorem hzIns_frm (writes : List Bool) {x : Int} : ∀ (l : List Ins) (z : Hz), x ∈ (hzIns writes l z).frm ↔ x ∈ z.frm ∨ ∃ i ∈ l, z.at_ i.dst = some x ∧ may writes i = 1
  | [], z => by simp [hzIns]
  | i :: is, z => by
    rw [hzIns, hzIns_frm writes is]
    have hs := ((hzArgs_same i.dst i.args z).trans (Hz.fromIns_same writes i _)).a
    rw [hs]
    have h1 : x ∈ (Hz.fromIns writes i (hzArgs i.dst i.args z)).frm ↔ x ∈ z.frm ∨ (z.at_ i.dst = some x ∧ may writes i = 1) := by
      unfold Hz.fromIns
      rw [(hzArgs_same i.dst i.args z).a]
      split
      · rename_i n hn
        split
        · rename_i hm
          simp only [List.mem_append, List.mem_singleton, hzArgs_frm, hn, Option.some.injEq, hm, and_true]
          exact ⟨fun e => e.imp id Eq.symm, fun e => e.imp id Eq.symm⟩
        · rename_i hm; simp [hzArgs_frm, hm]
      · rename_i hn; simp [hzArgs_frm, hn]
    rw [h1]
    constructor
    · rintro ((h | h) | ⟨j, hj, h⟩)
      · exact .inl h
      · exact .inr ⟨i, by simp, h⟩
      · exact .inr ⟨j, by simp [hj], h⟩
    · rintro (h | ⟨j, hj, h⟩)
      · exact .inl (.inl h)
      · rcases List.mem_cons.1 hj with rfl | hj
        · exact .inl (.inr h)
        · exact .inr ⟨j, hj, h⟩
theorem hzWays_frm (writes : List Bool) (bs : List Blk) {x : Int} : ∀ (l : List Blk) (z : Hz), x ∈ (hzWays writes bs l z).frm ↔ x ∈ z.frm ∨ ∃ b ∈ l, ∃ i ∈ b.ins, z.at_ i.dst = some x ∧ may writes i = 1
  | [], z => by simp [hzWays]
  | b :: l, z => by
    rw [hzWays, hzWays_frm writes bs l, hzEdges_frm, hzIns_frm, ((hzIns_same writes b.ins z).trans (hzEdges_same bs b.fin.ways _)).a]
    constructor
    · rintro ((h | ⟨i, hi, h⟩) | ⟨b', hb, i, hi, h⟩)
      · exact .inl h
      · exact .inr ⟨b, by simp, i, hi, h⟩
      · exact .inr ⟨b', by simp [hb], i, hi, h⟩
    · rintro (h | ⟨b', hb, i, hi, h⟩)
      · exact .inl (.inl h)
      · rcases List.mem_cons.1 hb with rfl | hb
        · exact .inl (.inr ⟨i, hi, h⟩)
        · exact .inr ⟨b', hb, i, hi, h⟩
theorem hzSinks_fw (fn : Int) : ∀ (l : List Snk) (z : Hz), (hzSinks fn l z).frm = z.frm ∧ (hzSinks fn l z).ways = z.ways
  | [], z => ⟨rfl, rfl⟩
  | s :: l, z => by
    rw [hzSinks]
    obtain ⟨h1, h2⟩ := hzSinks_fw fn l (z.sink fn s)
    rw [h1, h2]
    unfold Hz.sink
    split
    · split <;> exact ⟨rfl, rfl⟩
    · exact ⟨rfl, rfl⟩
theorem hzVals_fw (lab : Int → Int) (wt : Int) : ∀ (l : List Int) (z : Hz), (hzVals lab wt l z).frm = z.frm ∧ (hzVals lab wt l z).ways = z.ways
  | [], z => ⟨rfl, rfl⟩
  | v :: vs, z => by
    rw [hzVals]
    obtain ⟨h1, h2⟩ := hzVals_fw lab wt vs (z.value lab wt v)
    rw [h1, h2]
    unfold Hz.value
    split <;> exact ⟨rfl, rfl⟩
theorem hzBlks_fw (lab : Int → Int) (D : List Nat) (R : List Bool) : ∀ (bs : List Blk) (n : Nat) (z : Hz), (hzBlks lab D R n bs z).frm = z.frm ∧ (hzBlks lab D R n bs z).ways = z.ways
  | [], n, z => ⟨rfl, rfl⟩
  | b :: bs, n, z => by
    rw [hzBlks]
    obtain ⟨h1, h2⟩ := hzBlks_fw lab D R bs (n + 1) (if R.getD n false = true then hzVals lab (weigh (D.getD n 0)) b.made z else z)
    rw [h1, h2]
    split
    · exact hzVals_fw _ _ _ _
    · exact ⟨rfl, rfl⟩
/-! ### the law's own list of what comes of memory -/
def frStep (lab : Int → Int) (writes : List Bool) (ks : List Int) (i : Ins) : List Int := if i.dst ≠ 0 ∧ lab i.dst = 1 ∧ may writes i = 1 then kput ks i.dst else ks
def frBlks (lab : Int → Int) (writes R : List Bool) : Nat → List Blk → List Int → List Int
  | _, [], ks => ks
  | n, b :: bs, ks => frBlks lab writes R (n + 1) bs (if R.getD n false = true then b.ins.foldl (frStep lab writes) ks else ks)
theorem mem_kput' {ks : List Int} {k x : Int} : x ∈ kput ks k ↔ x ∈ ks ∨ x = k := by
  unfold kput
  split
  · rename_i h
    obtain ⟨y, hy, e⟩ := List.any_eq_true.1 h
    have : y = k := by simpa using e
    subst this
    exact ⟨.inl, fun e => by rcases e with e | rfl; exact e; exact hy⟩
  · simp
theorem mem_frIns {lab : Int → Int} {writes : List Bool} {v : Int} : ∀ (l : List Ins) (ks : List Int), v ∈ l.foldl (frStep lab writes) ks ↔ v ∈ ks ∨ ∃ i ∈ l, i.dst = v ∧ i.dst ≠ 0 ∧ lab i.dst = 1 ∧ may writes i = 1
  | [], ks => by simp
  | i :: l, ks => by
    rw [List.foldl_cons, mem_frIns l]
    have h1 : v ∈ frStep lab writes ks i ↔ v ∈ ks ∨ (i.dst = v ∧ i.dst ≠ 0 ∧ lab i.dst = 1 ∧ may writes i = 1) := by
      unfold frStep
      split
      · rename_i h
        rw [mem_kput']
        exact ⟨fun e => e.imp id fun e => ⟨e.symm, h⟩, fun e => e.imp id fun e => e.1.symm⟩
      · rename_i h
        exact ⟨.inl, fun e => by rcases e with e | e; exact e; exact absurd e.2 h⟩
    rw [h1]
    constructor
    · rintro ((h | h) | ⟨j, hj, h⟩)
      · exact .inl h
      · exact .inr ⟨i, by simp, h⟩
      · exact .inr ⟨j, by simp [hj], h⟩
    · rintro (h | ⟨j, hj, h⟩)
      · exact .inl (.inl h)
      · rcases List.mem_cons.1 hj with rfl | hj
        · exact .inl (.inr h)
        · exact .inr ⟨j, hj, h⟩
theorem mem_frBlks {lab : Int → Int} {writes R : List Bool} {v : Int} : ∀ (bs : List Blk) (n : Nat) (ks : List Int), v ∈ frBlks lab writes R n bs ks ↔ v ∈ ks ∨ ∃ (j : Nat) (b : Blk), bs[j]? = some b ∧ R.getD (n + j) false = true ∧ ∃ i ∈ b.ins, i.dst = v ∧ i.dst ≠ 0 ∧ lab i.dst = 1 ∧ may writes i = 1
  | [], n, ks => by simp [frBlks]
  | b :: bs, n, ks => by
    rw [frBlks, mem_frBlks bs]
    have h1 : v ∈ (if R.getD n false = true then b.ins.foldl (frStep lab writes) ks else ks) ↔ v ∈ ks ∨ (R.getD n false = true ∧ ∃ i ∈ b.ins, i.dst = v ∧ i.dst ≠ 0 ∧ lab i.dst = 1 ∧ may writes i = 1) := by
      split
      · rename_i h; rw [mem_frIns]; exact ⟨fun e => e.imp id fun e => ⟨h, e⟩, fun e => e.imp id And.right⟩
      · rename_i h; exact ⟨.inl, fun e => by rcases e with e | e; exact e; exact absurd e.1 h⟩
    rw [h1]
    constructor
    · rintro ((h | ⟨h, k⟩) | ⟨j, b', h, k, m⟩)
      · exact .inl h
      · exact .inr ⟨0, b, rfl, h, k⟩
      · exact .inr ⟨j + 1, b', by simpa using h, by rw [show n + (j + 1) = n + 1 + j by omega]; exact k, m⟩
    · rintro (h | ⟨j, b', h, k, m⟩)
      · exact .inl (.inl h)
      · cases j with
        | zero => cases h; exact .inl (.inr ⟨k, m⟩)
        | succ j => exact .inr ⟨j, b', by simpa using h, by rw [show n + 1 + j = n + (j + 1) by omega]; exact k, m⟩
theorem flat_once {α : Type} {g : α → List Int} {v : Int} : ∀ {l : List α}, (l.flatMap g).Nodup → ∀ {i j : Nat} {a b : α}, l[i]? = some a → l[j]? = some b → v ∈ g a → v ∈ g b → i = j
  | [], _, i, j, a, b, h, _, _, _ => by simp at h
  | x :: l, hn, i, j, a, b, ha, hb, h1, h2 => by
    rw [List.flatMap_cons, List.nodup_append] at hn
    obtain ⟨n1, n2, n3⟩ := hn
    cases i with
    | zero =>
      cases j with
      | zero => rfl
      | succ j =>
        cases ha
        exact absurd rfl (n3 v h1 v (List.mem_flatMap.2 ⟨b, List.mem_of_getElem? (by simpa using hb), h2⟩))
    | succ i =>
      cases j with
      | zero =>
        cases hb
        exact absurd rfl (n3 v h2 v (List.mem_flatMap.2 ⟨a, List.mem_of_getElem? (by simpa using ha), h1⟩))
      | succ j =>
        have := flat_once (i := i) (j := j) n2 (by simpa using ha) (by simpa using hb) h1 h2
        rw [this]
section
variable {f : Fnc} {lab : Int → Int} {writes : List Bool} {fn : Int} {sinks : List Snk}
abbrev Fnc.z1 (f : Fnc) (lab : Int → Int) : Hz := hzBlks lab f.gr.depths f.reach 0 f.blocks Hz.new
abbrev Fnc.fk (f : Fnc) (lab : Int → Int) (writes : List Bool) : List Int := frBlks lab writes f.reach 0 f.blocks []
theorem hz_frm {x : Int} : x ∈ (hzFn f lab writes fn sinks).frm ↔ ∃ b ∈ f.blocks, ∃ i ∈ b.ins, (f.z1 lab).at_ i.dst = some x ∧ may writes i = 1 := by
  unfold hzFn
  rw [(hzSinks_fw _ _ _).1, hzWays_frm, (hzBlks_fw _ _ _ _ _ _).1]
  exact ⟨fun e => by rcases e with e | e; exact absurd e (by simp [Hz.new]); exact e, .inr⟩
theorem z1_at {v : Int} : ((f.z1 lab).at_ v).isSome = true ↔ ∃ (j : Nat) (b : Blk), f.blocks[j]? = some b ∧ f.reach.getD j false = true ∧ v ∈ b.made ∧ lab v = 1 := by
  rw [hzBlks_at]
  simp only [Nat.zero_add]
  exact ⟨fun e => by rcases e with e | e; exact absurd e (by simp [Hz.new]); exact e, .inr⟩
theorem mem_fk {v : Int} : v ∈ f.fk lab writes ↔ ∃ (j : Nat) (b : Blk), f.blocks[j]? = some b ∧ f.reach.getD j false = true ∧ ∃ i ∈ b.ins, i.dst = v ∧ i.dst ≠ 0 ∧ lab i.dst = 1 ∧ may writes i = 1 := by
  rw [mem_frBlks]
  simp only [Nat.zero_add]
  exact ⟨fun e => by rcases e with e | e; exact absurd e (by simp); exact e, .inr⟩
theorem z1_i : HzI (f.z1 lab) := hzBlks_hzi _ _ _ _ _ _ hzi_new
/-- What begins comes of memory. -/
theorem frm_fk (ho : once f = true) {x : Int} (hx : x ∈ (hzFn f lab writes fn sinks).frm) : ∃ (m : Nat) (v : Int), x = m ∧ (hzFn f lab writes fn sinks).vals[m]? = some v ∧ v ∈ f.fk lab writes := by
  obtain ⟨b, hb, i, hi, ha, hm⟩ := hz_frm.1 hx
  obtain ⟨m, rfl, hv⟩ := z1_i _ _ ha
  refine ⟨m, i.dst, rfl, by rw [(hzFn_same f lab writes fn sinks).v]; exact hv, ?_⟩
  obtain ⟨j, b', hj, hr, hmd, hl⟩ := z1_at.1 (show ((f.z1 lab).at_ i.dst).isSome = true by rw [ha]; rfl)
  unfold once at ho
  have ho := of_decide_eq_true ho
  have hpos := ho.1 i.dst (List.mem_flatMap.2 ⟨b', List.mem_of_getElem? hj, hmd⟩)
  obtain ⟨jb, hjb⟩ := List.mem_iff_getElem?.1 hb
  have hmb : i.dst ∈ b.made := by
    unfold Blk.made dsts
    exact List.mem_append_right _ (List.mem_filter.2 ⟨List.mem_map.2 ⟨i, hi, rfl⟩, by simp; omega⟩)
  have := flat_once ho.2 hjb hj hmb hmd
  subst this
  rw [hjb] at hj
  cases hj
  exact mem_fk.2 ⟨jb, b, hjb, hr, i, hi, rfl, by omega, hl, hm⟩
/-- What comes of memory begins. -/
theorem fk_frm {v : Int} (hv : v ∈ f.fk lab writes) : ∃ (x : Int) (m : Nat), x ∈ (hzFn f lab writes fn sinks).frm ∧ x = m ∧ (hzFn f lab writes fn sinks).vals[m]? = some v := by
  obtain ⟨j, b, hj, hr, i, hi, rfl, h0, hl, hm⟩ := mem_fk.1 hv
  have hmb : i.dst ∈ b.made := by
    unfold Blk.made dsts
    exact List.mem_append_right _ (List.mem_filter.2 ⟨List.mem_map.2 ⟨i, hi, rfl⟩, by simp [h0]⟩)
  have hs := z1_at.2 ⟨j, b, hj, hr, hmb, hl⟩
  obtain ⟨x, hx⟩ := Option.isSome_iff_exists.1 hs
  obtain ⟨m, rfl, hv⟩ := z1_i _ _ hx
  exact ⟨m, m, hz_frm.2 ⟨b, List.mem_of_getElem? hj, i, hi, hx, hm⟩, rfl, by rw [(hzFn_same f lab writes fn sinks).v]; exact hv⟩
theorem hz_ways : (hzFn f lab writes fn sinks).ways = (hzWays writes f.blocks f.blocks (f.z1 lab)).ways := by
  unfold hzFn
  exact (hzSinks_fw _ _ _).2
theorem z1_ways : (f.z1 lab).ways = [] := (hzBlks_fw _ _ _ _ _ _).2
end
theorem Hz.fromIns_ways (writes : List Bool) (i : Ins) (z : Hz) : (z.fromIns writes i).ways = z.ways := by
  unfold Hz.fromIns
  split
  · split <;> rfl
  · rfl
end Go.Pl.M

/- Sets of pairs: maps whose keys are two whole numbers. -/
namespace Go.Pl.Try
open M
set_option linter.unusedVariables false
abbrev pr (p : Int × Int) : Value := .agg ⟨[.int .i64 p.1, .int .i64 p.2]⟩
def okP (p : Int × Int) : Prop := (-9223372036854775808 ≤ p.1 ∧ p.1 ≤ 9223372036854775807) ∧ -9223372036854775808 ≤ p.2 ∧ p.2 ≤ 9223372036854775807
theorem pr_law : WideMaps.KeyLaw Go.Proofs.Try.prog 84 := deep_law (m := 3) (by omega) (by kernel_rfl) (by kernel_rfl) (by kernel_rfl)
theorem pr_key {p : Int × Int} (h : okP p) : ∃ l, keyOf Go.Proofs.Try.prog 84 (pr p) = some l := by
  have w1 : (Lit.int .i64 p.1).wf = true := by
    simp only [Lit.wf, Bool.and_eq_true, decide_eq_true_eq]
    have e1 : IntKind.i64.min = -9223372036854775808 := by decide
    have e2 : IntKind.i64.max = 9223372036854775807 := by decide
    rw [e1, e2]; exact h.1
  have w2 : (Lit.int .i64 p.2).wf = true := by
    simp only [Lit.wf, Bool.and_eq_true, decide_eq_true_eq]
    have e1 : IntKind.i64.min = -9223372036854775808 := by decide
    have e2 : IntKind.i64.max = 9223372036854775807 := by decide
    rw [e1, e2]; exact h.2
  have k1 : Go.Proofs.Try.prog.keyType 84 = true := by kernel_rfl
  have k2 : Go.Proofs.Try.prog.cellsOf 84 = 2 := by kernel_rfl
  have k3 : Go.Proofs.Try.prog.cellsOf 3 = 1 := by kernel_rfl
  have k4 : Go.Proofs.Try.prog.types.size + 1 = 199 + 2 := by kernel_rfl
  unfold keyOf
  rw [Go.Proofs.Try.underlying84]
  simp only
  have hf : (pr p).formed Go.Proofs.Try.prog 84 = true := by
    unfold Value.formed
    simp [Go.Proofs.Try.underlying84, k2]
  rw [k1, hf, k4]
  simp only [Bool.and_self, if_true]
  have hi : ∀ (d : Nat) (x : Int), (Lit.int .i64 x).wf = true → Go.Proofs.Try.prog.keyLits (d + 1) 3 [.int .i64 x] = some [.int .i64 x] := by
    intro d x hx
    unfold Program.keyLits
    rw [Go.Proofs.Try.underlying3]
    simp [hx]
  refine ⟨.string (keyBytes [.int .i64 p.1, .int .i64 p.2]), ?_⟩
  have : Go.Proofs.Try.prog.keyLits (199 + 2) 84 (pr p).cells.toList = some [.int .i64 p.1, .int .i64 p.2] := by
    show Go.Proofs.Try.prog.keyLits (200 + 1) 84 [.int .i64 p.1, .int .i64 p.2] = _
    unfold Program.keyLits
    rw [Go.Proofs.Try.underlying84]
    simp only [k2, k3, List.length_cons, List.length_nil]
    have hr : List.range 2 = [0, 1] := rfl
    rw [if_pos trivial, hr]
    have h1 := hi 199 p.1 w1
    have h2 := hi 199 p.2 w2
    simp [h1, h2]
  rw [this]; rfl
theorem pr_inj {a b : Int × Int} (h : pr a = pr b) : a = b := by
  simp only [pr, Value.agg.injEq, Array.mk.injEq, List.cons.injEq, Value.int.injEq, true_and, and_true] at h
  exact Prod.ext h.1 h.2
/-- An object that is a map with these keys, each true, in this order of their making. -/
def MpP (ks : List (Int × Int)) (o : Obj) : Prop := ∃ es clock, o = .map es clock ∧ es.toList.map (fun e => (e.key, e.val)) = ks.map (fun p => (pr p, Value.bool true)) ∧ ∀ p ∈ ks, okP p
theorem MpP.empty : MpP [] (.map #[] 0) := ⟨#[], 0, rfl, by simp, by simp⟩
theorem mpp_find {ks : List (Int × Int)} {es : List MapEntry} (he : es.map (fun e => (e.key, e.val)) = ks.map (fun p => (pr p, Value.bool true))) (hk : ∀ p ∈ ks, okP p) {p : Int × Int} (hp : okP p) (w : World) :
    (p ∉ ks ∧ (Instr.findKey 84 (pr p) es).run Go.Proofs.Try.prog w = .ok none w) ∨
    ∃ j e, p ∈ ks ∧ (Instr.findKey 84 (pr p) es).run Go.Proofs.Try.prog w = .ok (some (j, .bool true)) w ∧ es[j]? = some e ∧ e.key = pr p ∧ e.val = .bool true := by
  obtain ⟨l, hl⟩ := pr_key hp
  have get : ∀ e ∈ es, ∃ q ∈ ks, e.key = pr q ∧ e.val = .bool true := by
    intro e hm
    have : (e.key, e.val) ∈ ks.map (fun p => (pr p, Value.bool true)) := by rw [← he]; exact List.mem_map.2 ⟨e, hm, rfl⟩
    obtain ⟨q, hq, hqe⟩ := List.mem_map.1 this
    simp only [Prod.mk.injEq] at hqe
    exact ⟨q, hq, hqe.1.symm, hqe.2.symm⟩
  rcases pr_law.find w hl es (fun e hm => by
    obtain ⟨q, hq, h1, _⟩ := get e hm
    rw [h1]; exact pr_key (hk q hq)) with ⟨h1, h2⟩ | ⟨j, e, h1, h2, h3⟩
  · refine .inl ⟨fun hm => ?_, h1⟩
    have : (pr p, Value.bool true) ∈ es.map (fun e => (e.key, e.val)) := by rw [he]; exact List.mem_map.2 ⟨p, hm, rfl⟩
    obtain ⟨e, hm, hme⟩ := List.mem_map.1 this
    simp only [Prod.mk.injEq] at hme
    exact h2 e hm hme.1
  · obtain ⟨q, hq, h4, h5⟩ := get e (List.mem_of_getElem? h2)
    rw [h3] at h4
    obtain rfl := pr_inj h4
    exact .inr ⟨j, e, hq, by rw [h1, h5], h2, h3, h5⟩
section
variable {w0 w : World} {L : List (Nat × Obj)}
theorem ptT : Go.Proofs.Try.prog.underlying 82 = some (.map 84 4) := Go.Proofs.Try.underlying82
theorem plook_run {b : Nat} {o : Obj} {ks : List (Int × Int)} (hm : MpP ks o) (hb : w.heap[b]? = some o) {p : Int × Int} (hp : okP p) :
    (Instr.lookup 82 (.map (some b)) (pr p) false).run Go.Proofs.Try.prog w = .ok (.bool (decide (p ∈ ks))) w := by
  obtain ⟨es, c, rfl, he, hk⟩ := hm
  obtain ⟨l, hl⟩ := pr_key hp
  have hz : zeroOf Go.Proofs.Try.prog 4 = some (.bool false) := by kernel_rfl
  unfold Instr.lookup
  simp only [Sem.run_bind, run_und w ptT, Result.andThen_ok, getObj_run hb, Sem.run_pure, pr_law.check w _ hl]
  rcases mpp_find he hk hp w with ⟨h1, h2⟩ | ⟨j, e, h1, h2, h3, h4, h5⟩
  · simp only [h2, Result.andThen_ok, Sem.run_bind, zero_run hz, Sem.run_pure]
    simp [h1]
  · simp only [h2, Result.andThen_ok, Sem.run_pure]
    simp [h1]
theorem pupd_run (h : Hp w0 w L) (i : Nat) {b : Nat} {o : Obj} {ks : List (Int × Int)} (hi : L[i]? = some (b, o)) (hm : MpP ks o) {p : Int × Int} (hp : okP p) :
    ∃ w' o', (Instr.mapUpdate 82 (.map (some b)) (pr p) (.bool true)).run Go.Proofs.Try.prog w = .ok () w' ∧ MpP (pput ks p) o' ∧ Hp w0 w' (L.set i (b, o')) := by
  have hb := h.at i hi
  obtain ⟨es, c, rfl, he, hk⟩ := hm
  obtain ⟨l, hl⟩ := pr_key hp
  unfold Instr.mapUpdate
  rcases mpp_find he hk hp w with ⟨h1, h2⟩ | ⟨j, e, h1, h2, h3, h4, h5⟩
  · obtain ⟨w', hr, hs, hb', ho⟩ := setObj_run (P := Go.Proofs.Try.prog) hb (.map (es.push { key := pr p, val := .bool true, born := c }) (c + 1))
    refine ⟨w', _, ?_, ⟨_, c + 1, rfl, ?_, ?_⟩, h.turn i hi hs hb' ho⟩
    · simp only [Sem.run_bind, run_und w ptT, Result.andThen_ok, getObj_run hb, pr_law.check w _ hl, h2]
      exact hr
    · rw [pput, if_neg h1, Array.toList_push, List.map_append, List.map_append, he]; rfl
    · rw [pput, if_neg h1]
      intro q hq
      rcases List.mem_append.1 hq with hq | hq
      · exact hk q hq
      · rw [List.mem_singleton.1 hq]; exact hp
  · obtain ⟨w', hr, hs, hb', ho⟩ := setObj_run (P := Go.Proofs.Try.prog) hb (.map (es.modify j fun e => { e with key := pr p, val := .bool true }) c)
    have hkey : (((es[j]?).map (·.key)).getD (pr p)) = pr p := by
      rw [← Array.getElem?_toList, h3]; simp [h4]
    refine ⟨w', _, ?_, ⟨_, c, rfl, ?_, ?_⟩, h.turn i hi hs hb' ho⟩
    · simp only [Sem.run_bind, run_und w ptT, Result.andThen_ok, getObj_run hb, pr_law.check w _ hl, h2, hkey, pr_law.stays w hl]
      exact hr
    · rw [pput, if_pos h1, ← he]
      apply List.ext_getElem?
      intro x
      rw [List.getElem?_map, List.getElem?_map, Array.getElem?_toList, Array.getElem?_modify, ← Array.getElem?_toList]
      by_cases hx : j = x
      · subst hx
        rw [if_pos rfl, h3]
        simp [h4, h5]
      · rw [if_neg hx]
    · rw [pput, if_pos h1]; exact hk
theorem plen_run {ty : Nat} {b : Nat} {o : Obj} {ks : List (Int × Int)} (hm : MpP ks o) (hb : w.heap[b]? = some o) :
    (Builtin.len_ #[82] ty ⟨[.map (some b)]⟩).run Go.Proofs.Try.prog w = .ok (.int .i64 (ks.length : Nat)) w := by
  obtain ⟨es, c, rfl, he, hk⟩ := hm
  have hl : es.size = ks.length := by simpa using congrArg List.length he
  simp [Builtin.len_, run_und w ptT, getObj_run hb, goInt, hl]
end
end Go.Pl.Try

/- How the program's data lie in memory. -/
namespace Go.Pl
open M
set_option linter.unusedVariables false
def REdge (w : World) (vs : List Value) (x : Edg) : Prop := ∃ a n c, vs = [.int .i64 x.to, .slice a n c] ∧ RdI w a n x.args
structure RdIC (w : World) (a : Option Addr) (n c : Nat) (xs : List Int) : Prop where
  rd : RdI w a n xs
  cap : n ≤ c
theorem RdIC.len {w : World} {a : Option Addr} {n c : Nat} {xs : List Int} (h : RdIC w a n c xs) : xs.length = n := h.rd.len
theorem RdIC.le {w : World} {a : Option Addr} {n c : Nat} {xs : List Int} (h : RdIC w a n c xs) : n ≤ maxLen := h.rd.le
theorem RdIC.ext {w w' : World} {a : Option Addr} {n c : Nat} {xs : List Int} (h : RdIC w a n c xs) (hx : Ext w w') : RdIC w' a n c xs := ⟨RdI.ext h.rd hx, h.cap⟩
def RIns (w : World) (vs : List Value) (i : Ins) : Prop := ∃ a n c, vs = [.int .i64 i.op, .int .i64 i.dst, .slice a n c, .int .i64 i.num, .int .i64 i.bin, .int .i64 i.arr, .int .i64 i.fn] ∧ RdIC w a n c i.args
def RBlock (w : World) (vs : List Value) (b : Blk) : Prop := ∃ ap np cp ai ni ci ae ne ce, vs = [.slice ap np cp, .slice ai ni ci, .int .i64 b.fin.kind, .int .i64 b.fin.val, .slice ae ne ce, .int .i64 b.fin.trap] ∧
  RdI w ap np b.params ∧ RdS 7 RIns w ai ni b.ins ∧ RdS 2 REdge w ae ne b.fin.ways
abbrev RdBlocks (w : World) (a : Option Addr) (n : Nat) (bs : List Blk) : Prop := RdS 6 RBlock w a n bs
def RFunc (w : World) (vs : List Value) (f : Fnc) : Prop := ∃ a n c, vs = [.string f.name, .slice a n c] ∧ RdBlocks w a n f.blocks
def RArr (w : World) (vs : List Value) (x : Arr) : Prop := vs = [.string x.name, .int .i64 x.hold, .int .i64 x.size]
theorem REdge.ext {w w' : World} (hx : Ext w w') {vs : List Value} {x : Edg} : REdge w vs x → REdge w' vs x := fun ⟨a, n, c, h1, h2⟩ => ⟨a, n, c, h1, h2.ext hx⟩
theorem RIns.ext {w w' : World} (hx : Ext w w') {vs : List Value} {x : Ins} : RIns w vs x → RIns w' vs x := fun ⟨a, n, c, h1, h2⟩ => ⟨a, n, c, h1, h2.ext hx⟩
theorem RBlock.ext {w w' : World} (hx : Ext w w') {vs : List Value} {x : Blk} : RBlock w vs x → RBlock w' vs x := fun ⟨ap, np, cp, ai, ni, ci, ae, ne, ce, h1, h2, h3, h4⟩ =>
  ⟨ap, np, cp, ai, ni, ci, ae, ne, ce, h1, h2.ext hx, h3.ext (fun _ _ => RIns.ext hx) hx, h4.ext (fun _ _ => REdge.ext hx) hx⟩
theorem RdBlocks.ext {w w' : World} (hx : Ext w w') {a : Option Addr} {n : Nat} {bs : List Blk} (h : RdBlocks w a n bs) : RdBlocks w' a n bs := RdS.ext (w := w) (R := RBlock) (fun _ _ => RBlock.ext hx) hx h
theorem RFunc.ext {w w' : World} (hx : Ext w w') {vs : List Value} {x : Fnc} : RFunc w vs x → RFunc w' vs x := fun ⟨a, n, c, h1, h2⟩ => ⟨a, n, c, h1, h2.ext hx⟩
def RInts (w : World) (vs : List Value) (xs : List Int) : Prop := ∃ a n c, vs = [.slice a n c] ∧ RdI w a n xs
theorem RInts.ext {w w' : World} (hx : Ext w w') {vs : List Value} {xs : List Int} : RInts w vs xs → RInts w' vs xs := fun ⟨a, n, c, h1, h2⟩ => ⟨a, n, c, h1, h2.ext hx⟩
abbrev RdBs (w : World) (a : Option Addr) (n : Nat) (xs : List Bool) : Prop := RdS 1 RB w a n xs
theorem RdBs.ext {w w' : World} {a : Option Addr} {n : Nat} {xs : List Bool} (h : RdBs w a n xs) (hx : Ext w w') : RdBs w' a n xs := RdS.ext (w := w) (R := RB) (fun _ _ h => h) hx h
theorem RdBs.at {w : World} {a : Option Addr} {n : Nat} {xs : List Bool} (h : RdBs w a n xs) {i : Nat} {x : Bool} (hi : xs[i]? = some x) : ∃ b o, a = some ⟨b, o, none⟩ ∧ cel w b (o + i * 1) = some (.bool x) := by
  obtain ⟨b, o, vs, h1, h2, h3, h4⟩ := h.at_ i x hi
  subst h4
  exact ⟨b, o, h1, h2 0 _ rfl⟩
abbrev RdII (w : World) (a : Option Addr) (n : Nat) (xs : List (List Int)) : Prop := RdS 1 RInts w a n xs
theorem RdII.ext {w w' : World} {a : Option Addr} {n : Nat} {xs : List (List Int)} (h : RdII w a n xs) (hx : Ext w w') : RdII w' a n xs := RdS.ext (w := w) (R := RInts) (fun _ _ => RInts.ext hx) hx h
theorem RdII.at {w : World} {a : Option Addr} {n : Nat} {xs : List (List Int)} (h : RdII w a n xs) {i : Nat} {x : List Int} (hi : xs[i]? = some x) : ∃ b o a' n' c', a = some ⟨b, o, none⟩ ∧ cel w b (o + i * 1) = some (.slice a' n' c') ∧ RdI w a' n' x := by
  obtain ⟨b, o, vs, h1, h2, h3, a', n', c', rfl, h4⟩ := h.at_ i x hi
  exact ⟨b, o, a', n', c', h1, h2 0 _ rfl, h4⟩
/-- A graph behind its pointer. -/
def RdG (w : World) (p : Option Addr) (g : Gr) : Prop := ∃ b o ao no co ai ni ci ar nr cr, p = some ⟨b, o, none⟩ ∧ cel w b o = some (.slice ao no co) ∧ cel w b (o + 1) = some (.slice ai ni ci) ∧ cel w b (o + 2) = some (.slice ar nr cr) ∧
  RdII w ao no g.outs ∧ RdII w ai ni g.ins ∧ RdBs w ar nr g.reach
theorem RdG.ext {w w' : World} {p : Option Addr} {g : Gr} (hx : Ext w w') : RdG w p g → RdG w' p g := fun ⟨b, o, ao, no, co, ai, ni, ci, ar, nr, cr, h0, h1, h2, h3, h4, h5, h6⟩ =>
  ⟨b, o, ao, no, co, ai, ni, ci, ar, nr, cr, h0, hx.cel h1, hx.cel h2, hx.cel h3, h4.ext hx, h5.ext hx, h6.ext hx⟩
theorem RdWays.ext {w w' : World} {a : Option Addr} {n : Nat} {xs : List Edg} (h : RdS 2 REdge w a n xs) (hx : Ext w w') : RdS 2 REdge w' a n xs := RdS.ext (w := w) (R := REdge) (fun _ _ => REdge.ext hx) hx h
theorem RdInss.ext {w w' : World} {a : Option Addr} {n : Nat} {xs : List Ins} (h : RdS 7 RIns w a n xs) (hx : Ext w w') : RdS 7 RIns w' a n xs := RdS.ext (w := w) (R := RIns) (fun _ _ => RIns.ext hx) hx h
theorem wrap_in {x : Int} (h0 : -9223372036854775808 ≤ x) (h1 : x ≤ 9223372036854775807) : IntKind.wrap .i64 x = x := by rw [IntKind.wrap_i64]; omega
theorem wrap_nat {x : Nat} (h1 : x ≤ maxLen) : IntKind.wrap .i64 (x : Int) = x := by rw [IntKind.wrap_i64]; simp only [maxLen] at h1; omega
theorem wrap_succ {x : Nat} (h1 : x + 1 ≤ maxLen) : IntKind.wrap .i64 ((x : Int) + 1) = ((x + 1 : Nat) : Int) := by rw [IntKind.wrap_i64]; simp only [maxLen] at h1; omega
def RProg (w : World) (vs : List Value) (p : Prg) : Prop := ∃ aa na ca af nf cf, vs = [.slice aa na ca, .slice af nf cf, .int .i64 p.main] ∧ RdS 3 RArr w aa na p.arrs ∧ RdS 2 RFunc w af nf p.funcs
theorem RProg.ext {w w' : World} {vs : List Value} {p : Prg} (h : RProg w vs p) (hx : Ext w w') : RProg w' vs p := by
  obtain ⟨aa, na, ca, af, nf, cf, e, h1, h2⟩ := h
  exact ⟨aa, na, ca, af, nf, cf, e, RdS.ext (w := w) (R := RArr) (fun _ _ h => h) hx h1, RdS.ext (w := w) (R := RFunc) (fun _ _ => RFunc.ext hx) hx h2⟩
theorem RIns.ext' {w w' : World} {vs : List Value} {x : Ins} (h : RIns w vs x) (hx : Ext w w') : RIns w' vs x := RIns.ext hx h
theorem RBlock.ext' {w w' : World} {vs : List Value} {x : Blk} (h : RBlock w vs x) (hx : Ext w w') : RBlock w' vs x := RBlock.ext hx h
theorem RFunc.ext' {w w' : World} {vs : List Value} {x : Fnc} (h : RFunc w vs x) (hx : Ext w w') : RFunc w' vs x := RFunc.ext hx h
theorem Hp.row {w0 w : World} {L : List (Nat × Obj)} (h : Hp w0 w L) (i : Nat) {b : Nat} {e : TypeId} {vs : List Value} (hi : L[i]? = some (b, Cl e vs)) : Row w b 0 vs := by
  intro j v hj
  rw [Nat.zero_add]
  exact h.cl i hi hj
end Go.Pl

/- Facts of this translation's table of types. -/
namespace Go.Pl.Try
theorem slBools : slT Pg 75 4 1 1 = true := by kernel_rfl
theorem slInts : slT Pg 34 3 1 8 = true := by kernel_rfl
theorem zBool : (zeroOf Pg 4).map (·.cells) = some #[.bool false] := by kernel_rfl
theorem zInt : (zeroOf Pg 3).map (·.cells) = some #[.int .i64 0] := by kernel_rfl
end Go.Pl.Try

/- What 'palings/taint.May' does, read off its translation by gen.py. -/
namespace Go.Pl.Try
set_option linter.unusedVariables false
set_option maxRecDepth 100000
def F17 (awrites1 : Option Addr) (nwrites1 cwrites1 : Nat) (i2 : Int) (i3 : Int) (ai4 : Option Addr) (ni4 ci4 : Nat) (i5 : Int) (i6 : Int) (i7 : Int) (i8 : Int) (w : World) (R : Value → World → Prop) : Prop :=
  AlP 37 [.int .i64 i2, .int .i64 i3, .slice ai4 ni4 ci4, .int .i64 i5, .int .i64 i6, .int .i64 i7, .int .i64 i8] w fun b9 w10 =>
  ∀ K11 : World → Prop, (∀ w12, (
  R (.int .i64 0) w12) → K11 w12) →
  ∀ K13 : World → Prop, (∀ w14, (
  R (.int .i64 1) w14) → K13 w14) →
  ∃ (x15 : Int), cel w10 b9 0 = some (.int .i64 x15) ∧
  sp (decide ((x15 : Int) = 5))
  (K13 w10)
  (∃ (x16 : Int), cel w10 b9 0 = some (.int .i64 x16) ∧
  sp (decide ((x16 : Int) = 3))
  (∃ (x17 : Int), cel w10 b9 5 = some (.int .i64 x17) ∧
  sp (decide ((0 : Int) ≤ x17))
  (∃ (x18 : Int), cel w10 b9 5 = some (.int .i64 x18) ∧
  sp (decide ((x18 : Int) < (nwrites1 : Nat)))
  (∃ (x19 : Int), cel w10 b9 5 = some (.int .i64 x19) ∧
  0 ≤ (x19 : Int) ∧ (x19 : Int) < (nwrites1 : Nat) ∧
  ptAt awrites1 fun b20 o21 =>
  ∃ (x22 : Bool), cel w10 b20 (o21 + x19.toNat * 1) = some (.bool x22) ∧
  sp x22
  (K13 w10)
  (K11 w10))
  (K11 w10))
  (K11 w10))
  (K11 w10))
def T17 : List Sh := [.v (.one .sl), .v (.agg [(.int .i64), (.int .i64), .sl, (.int .i64), (.int .i64), (.int .i64), (.int .i64)]), .v (.one .any), .v (.one .ptr), .v (.one (.int .i64)), .v (.one .ptr), .v (.one (.int .i64)), .v (.one .bool), .v (.one .bool), .v (.one .ptr), .v (.one (.int .i64)), .v (.one .bool), .v (.one .bool), .v (.one .ptr), .v (.one (.int .i64)), .v (.one .bool), .v (.one .bool), .v (.one .bool), .v (.one .ptr), .v (.one (.int .i64)), .v (.one .sl), .v (.one (.int .i64)), .v (.one .bool), .v (.one .bool), .v (.one .bool), .v (.one .sl), .v (.one .ptr), .v (.one (.int .i64)), .v (.one .ptr), .v (.one .bool), .v (.one .bool), .v (.one .bool)]
def A17 : Ann := (.seq none .z (.seq (some []) (.ifs (some []) none (.seq none .z .z) .z) (.seq none .z .z)))
theorem F17_eq (awrites1 : Option Addr) (nwrites1 cwrites1 : Nat) (i2 : Int) (i3 : Int) (ai4 : Option Addr) (ni4 ci4 : Nat) (i5 : Int) (i6 : Int) (i7 : Int) (i8 : Int) (w : World) (R : Value → World → Prop) : F17 awrites1 nwrites1 cwrites1 i2 i3 ai4 ni4 ci4 i5 i6 i7 i8 w R = denF Go.Proofs.Try.prog T17 Go.Proofs.Try.f17 A17 [.slice awrites1 nwrites1 cwrites1, .agg ⟨[.int .i64 i2, .int .i64 i3, .slice ai4 ni4 ci4, .int .i64 i5, .int .i64 i6, .int .i64 i7, .int .i64 i8]⟩] w R := by kernel_rfl
theorem F17_ok (awrites1 : Option Addr) (nwrites1 cwrites1 : Nat) (i2 : Int) (i3 : Int) (ai4 : Option Addr) (ni4 ci4 : Nat) (i5 : Int) (i6 : Int) (i7 : Int) (i8 : Int) {w : World} {R : Value → World → Prop} (h : F17 awrites1 nwrites1 cwrites1 i2 i3 ai4 ni4 ci4 i5 i6 i7 i8 w R) : CallP Go.Proofs.Try.prog 17 [.slice awrites1 nwrites1 cwrites1, .agg ⟨[.int .i64 i2, .int .i64 i3, .slice ai4 ni4 ci4, .int .i64 i5, .int .i64 i6, .int .i64 i7, .int .i64 i8]⟩] w R :=
  calls_den (fun _ => drawn (by kernel_rfl)) Go.Proofs.Try.func17 (Nat.le_of_ble_eq_true (by kernel_rfl)) ((F17_eq awrites1 nwrites1 cwrites1 i2 i3 ai4 ni4 ci4 i5 i6 i7 i8 w R).mp h)
end Go.Pl.Try

/- What '(palings/ssa.Func).Params' does, read off its translation by gen.py. -/
namespace Go.Pl.Try
set_option linter.unusedVariables false
set_option maxRecDepth 100000
def F25 (f1 : ByteArray) (af2 : Option Addr) (nf2 cf2 : Nat) (w : World) (R : Value → World → Prop) : Prop :=
  AlP 29 [.string f1, .slice af2 nf2 cf2] w fun b3 w4 =>
  ∃ (ax5 : Option Addr) (nx5 cx5 : Nat), cel w4 b3 1 = some (.slice ax5 nx5 cx5) ∧
  sp (decide (((nx5 : Nat) : Int) = 0))
  (R (.slice none 0 0) w4)
  (∃ (ax6 : Option Addr) (nx6 cx6 : Nat), cel w4 b3 1 = some (.slice ax6 nx6 cx6) ∧
  0 ≤ (0 : Int) ∧ (0 : Int) < (nx6 : Nat) ∧
  ptAt ax6 fun b7 o8 =>
  ∃ (ax9 : Option Addr) (nx9 cx9 : Nat), cel w4 b7 o8 = some (.slice ax9 nx9 cx9) ∧
  R (.slice ax9 nx9 cx9) w4)
def T25 : List Sh := [.v (.agg [.str, .sl]), .v (.one .ptr), .v (.one .sl), .v (.one .ptr), .v (.one .sl), .v (.one (.int .i64)), .v (.one .bool), .v (.one .ptr), .v (.one .sl), .v (.one .ptr), .v (.one .ptr), .v (.one .sl)]
def A25 : Ann := (.seq none .z (.seq none (.seq none .z (.cond (.seq none .z .z) .z)) (.seq none .z .z)))
theorem F25_eq (f1 : ByteArray) (af2 : Option Addr) (nf2 cf2 : Nat) (w : World) (R : Value → World → Prop) : F25 f1 af2 nf2 cf2 w R = denF Go.Proofs.Try.prog T25 Go.Proofs.Try.f25 A25 [.agg ⟨[.string f1, .slice af2 nf2 cf2]⟩] w R := by kernel_rfl
theorem F25_ok (f1 : ByteArray) (af2 : Option Addr) (nf2 cf2 : Nat) {w : World} {R : Value → World → Prop} (h : F25 f1 af2 nf2 cf2 w R) : CallP Go.Proofs.Try.prog 25 [.agg ⟨[.string f1, .slice af2 nf2 cf2]⟩] w R :=
  calls_den (fun _ => drawn (by kernel_rfl)) Go.Proofs.Try.func25 (Nat.le_of_ble_eq_true (by kernel_rfl)) ((F25_eq f1 af2 nf2 cf2 w R).mp h)
end Go.Pl.Try

/- What '(*palings/flow.Graph).Len' does, read off its translation by gen.py. -/
namespace Go.Pl.Try
set_option linter.unusedVariables false
set_option maxRecDepth 100000
def F35 (g1 : Option Addr) (w : World) (R : Value → World → Prop) : Prop :=
  ∃ (x2 : Bool), Sem.run Pg (do eqGuard .eql 72 (.tmp 3) (.const (.pointer none)) (.pointer g1) (.pointer none); binOp .eql 72 (.pointer g1) (.pointer none)) w = .ok (.bool x2) w ∧
  sp x2
  (R (.int .i64 0) w)
  (ptAt g1 fun b3 o4 =>
  ∃ (ax5 : Option Addr) (nx5 cx5 : Nat), cel w b3 o4 = some (.slice ax5 nx5 cx5) ∧
  R (.int .i64 (nx5 : Nat)) w)
def T35 : List Sh := [.v (.one .ptr), .v (.one .any), .v (.one (.int .i64)), .v (.one .ptr), .v (.one .bool), .v (.one .ptr), .v (.one .ptr), .v (.one .ptr), .v (.one .sl), .v (.one (.int .i64))]
def A35 : Ann := (.seq none .z (.seq none (.seq none .z (.cond (.seq none .z .z) .z)) (.seq none .z .z)))
theorem F35_eq (g1 : Option Addr) (w : World) (R : Value → World → Prop) : F35 g1 w R = denF Go.Proofs.Try.prog T35 Go.Proofs.Try.f35 A35 [.pointer g1] w R := by kernel_rfl
theorem F35_ok (g1 : Option Addr) {w : World} {R : Value → World → Prop} (h : F35 g1 w R) : CallP Go.Proofs.Try.prog 35 [.pointer g1] w R :=
  calls_den (fun _ => drawn (by kernel_rfl)) Go.Proofs.Try.func35 (Nat.le_of_ble_eq_true (by kernel_rfl)) ((F35_eq g1 w R).mp h)
end Go.Pl.Try

/- What '(*palings/flow.Graph).in' does, read off its translation by gen.py. -/
namespace Go.Pl.Try
set_option linter.unusedVariables false
set_option maxRecDepth 100000
def F37 (g1 : Option Addr) (b2 : Int) (w : World) (R : Value → World → Prop) : Prop :=
  sp (decide ((0 : Int) ≤ b2))
  (CallP Pg 35 [.pointer g1] w fun v3 w4 => ∃ (x5 : Int), v3 = .int .i64 x5 ∧
  sp (decide ((b2 : Int) < x5))
  (ptAt g1 fun b6 o7 =>
  ∃ (ax8 : Option Addr) (nx8 cx8 : Nat), cel w4 b6 (o7 + 2) = some (.slice ax8 nx8 cx8) ∧
  0 ≤ (b2 : Int) ∧ (b2 : Int) < (nx8 : Nat) ∧
  ptAt ax8 fun b9 o10 =>
  ∃ (x11 : Bool), cel w4 b9 (o10 + b2.toNat * 1) = some (.bool x11) ∧
  R (.bool x11) w4)
  (R (.bool false) w4))
  (R (.bool false) w)
def T37 : List Sh := [.v (.one .ptr), .v (.one (.int .i64)), .v (.one .any), .v (.one .any), .v (.one .bool), .v (.one (.int .i64)), .v (.one .bool), .v (.one .bool), .v (.one (.int .i64)), .v (.one .ptr), .v (.one (.int .i64)), .v (.one .bool), .v (.one .bool), .v (.one .bool), .v (.one .ptr), .v (.one .ptr), .v (.one .ptr), .v (.one .sl), .v (.one (.int .i64)), .v (.one .ptr), .v (.one .bool), .v (.one .bool)]
def A37 : Ann := (.seq none .z (.seq none .z .z))
theorem F37_eq (g1 : Option Addr) (b2 : Int) (w : World) (R : Value → World → Prop) : F37 g1 b2 w R = denF Go.Proofs.Try.prog T37 Go.Proofs.Try.f37 A37 [.pointer g1, .int .i64 b2] w R := by kernel_rfl
theorem F37_ok (g1 : Option Addr) (b2 : Int) {w : World} {R : Value → World → Prop} (h : F37 g1 b2 w R) : CallP Go.Proofs.Try.prog 37 [.pointer g1, .int .i64 b2] w R :=
  calls_den (fun _ => drawn (by kernel_rfl)) Go.Proofs.Try.func37 (Nat.le_of_ble_eq_true (by kernel_rfl)) ((F37_eq g1 b2 w R).mp h)
end Go.Pl.Try

/- What '(*palings/flow.Graph).Ins' does, read off its translation by gen.py. -/
namespace Go.Pl.Try
set_option linter.unusedVariables false
set_option maxRecDepth 100000
def F36 (g1 : Option Addr) (b2 : Int) (w : World) (R : Value → World → Prop) : Prop :=
  ∀ K3 : World → Prop, (∀ w4, (
  ptAt g1 fun b5 o6 =>
  ∃ (ax7 : Option Addr) (nx7 cx7 : Nat), cel w4 b5 (o6 + 1) = some (.slice ax7 nx7 cx7) ∧
  0 ≤ (b2 : Int) ∧ (b2 : Int) < (nx7 : Nat) ∧
  ptAt ax7 fun b8 o9 =>
  ∃ (ax10 : Option Addr) (nx10 cx10 : Nat), cel w4 b8 (o9 + b2.toNat * 1) = some (.slice ax10 nx10 cx10) ∧
  ∃ (ax11 : Option Addr) (nx11 cx11 : Nat), ∃ w12 : World, Sem.run Pg (Builtin.append_ #[34, 34] 34 ⟨[.slice none 0 0, .slice ax10 nx10 cx10]⟩) w4 = .ok (.slice ax11 nx11 cx11) w12 ∧
  R (.slice ax11 nx11 cx11) w12) → K3 w4) →
  ∀ K13 : World → Prop, (∀ w14, (
  R (.slice none 0 0) w14) → K13 w14) →
  sp (decide ((b2 : Int) < 0))
  (K13 w)
  (CallP Pg 35 [.pointer g1] w fun v15 w16 => ∃ (x17 : Int), v15 = .int .i64 x17 ∧
  sp (decide ((x17 : Int) ≤ b2))
  (K13 w16)
  (K3 w16))
def T36 : List Sh := [.v (.one .ptr), .v (.one (.int .i64)), .v (.one .any), .v (.one .any), .v (.one .sl), .v (.one (.int .i64)), .v (.one .bool), .v (.one .bool), .v (.one (.int .i64)), .v (.one .ptr), .v (.one (.int .i64)), .v (.one .bool), .v (.one .bool), .v (.one .ptr), .v (.one .ptr), .v (.one .ptr), .v (.one .sl), .v (.one (.int .i64)), .v (.one .ptr), .v (.one .sl), .v (.one .sl)]
def A36 : Ann := (.seq none .z (.seq (some []) (.ifs (some []) none (.seq none .z .z) .z) (.seq none .z .z)))
theorem F36_eq (g1 : Option Addr) (b2 : Int) (w : World) (R : Value → World → Prop) : F36 g1 b2 w R = denF Go.Proofs.Try.prog T36 Go.Proofs.Try.f36 A36 [.pointer g1, .int .i64 b2] w R := by kernel_rfl
theorem F36_ok (g1 : Option Addr) (b2 : Int) {w : World} {R : Value → World → Prop} (h : F36 g1 b2 w R) : CallP Go.Proofs.Try.prog 36 [.pointer g1, .int .i64 b2] w R :=
  calls_den (fun _ => drawn (by kernel_rfl)) Go.Proofs.Try.func36 (Nat.le_of_ble_eq_true (by kernel_rfl)) ((F36_eq g1 b2 w R).mp h)
end Go.Pl.Try

/- What 'palings/taint.Known' does, read off its translation by gen.py. -/
namespace Go.Pl.Try
set_option linter.unusedVariables false
set_option maxRecDepth 100000
def F45 (i1 : Int) (i2 : Int) (ai3 : Option Addr) (ni3 ci3 : Nat) (i4 : Int) (i5 : Int) (i6 : Int) (i7 : Int) (w : World) (R : Value → World → Prop) : Prop :=
  AlP 37 [.int .i64 i1, .int .i64 i2, .slice ai3 ni3 ci3, .int .i64 i4, .int .i64 i5, .int .i64 i6, .int .i64 i7] w fun b8 w9 =>
  ∀ K10 : World → Prop, (∀ w11, (
  R (.slice none 0 0) w11) → K10 w11) →
  ∀ K12 : World → Prop, (∀ w13, (
  ∃ (ax14 : Option Addr) (nx14 cx14 : Nat), cel w13 b8 2 = some (.slice ax14 nx14 cx14) ∧
  ∃ (ax15 : Option Addr) (nx15 cx15 : Nat), Sem.run Pg (Instr.sliceAt 34 (.slice ax14 nx14 cx14) none (some (.int .i64 1)) (some (.int .i64 1))) w13 = .ok (.slice ax15 nx15 cx15) w13 ∧
  R (.slice ax15 nx15 cx15) w13) → K12 w13) →
  ∀ K16 : World → Prop, (∀ w17, (
  ∃ (x18 : Int), cel w17 b8 0 = some (.int .i64 x18) ∧
  sp (decide ((x18 : Int) = 2))
  (∃ (x19 : Int), cel w17 b8 4 = some (.int .i64 x19) ∧
  CallP Pg 76 [.int .i64 x19] w17 fun v20 w21 => ∃ (x22 : Bool), v20 = .bool x22 ∧
  sp x22
  (∃ (ax23 : Option Addr) (nx23 cx23 : Nat), cel w21 b8 2 = some (.slice ax23 nx23 cx23) ∧
  ∃ (ax24 : Option Addr) (nx24 cx24 : Nat), ∃ w25 : World, Sem.run Pg (Builtin.append_ #[34, 34] 34 ⟨[.slice none 0 0, .slice ax23 nx23 cx23]⟩) w21 = .ok (.slice ax24 nx24 cx24) w25 ∧
  R (.slice ax24 nx24 cx24) w25)
  (K10 w21))
  (K10 w17)) → K16 w17) →
  ∃ (x26 : Int), cel w9 b8 0 = some (.int .i64 x26) ∧
  sp (decide ((x26 : Int) = 5))
  (∃ (ax27 : Option Addr) (nx27 cx27 : Nat), cel w9 b8 2 = some (.slice ax27 nx27 cx27) ∧
  sp (decide ((0 : Int) < (nx27 : Nat)))
  (K12 w9)
  (K16 w9))
  (∃ (x28 : Int), cel w9 b8 0 = some (.int .i64 x28) ∧
  sp (decide ((x28 : Int) = 6))
  (∃ (ax29 : Option Addr) (nx29 cx29 : Nat), cel w9 b8 2 = some (.slice ax29 nx29 cx29) ∧
  sp (decide ((0 : Int) < (nx29 : Nat)))
  (K12 w9)
  (K16 w9))
  (K16 w9))
def T45 : List Sh := [.v (.agg [(.int .i64), (.int .i64), .sl, (.int .i64), (.int .i64), (.int .i64), (.int .i64)]), .v (.one .ptr), .v (.one .sl), .v (.one .bool), .v (.one .ptr), .v (.one (.int .i64)), .v (.one .bool), .v (.one .bool), .v (.one .ptr), .v (.one (.int .i64)), .v (.one .bool), .v (.one .bool), .v (.one .bool), .v (.one .ptr), .v (.one .sl), .v (.one (.int .i64)), .v (.one .bool), .v (.one .bool), .v (.one .ptr), .v (.one .sl), .v (.one .sl), .v (.one .bool), .v (.one .ptr), .v (.one (.int .i64)), .v (.one .bool), .v (.one .bool), .v (.one .ptr), .v (.one (.int .i64)), .v (.one .bool), .v (.one .bool), .v (.one .ptr), .v (.one .sl), .v (.one .sl)]
def A45 : Ann := (.seq none .z (.seq none (.block (some []) (.ifs (some []) (some []) (.seq none .z .z) (.ifs none none (.seq none .z .z) .z))) (.seq none .z .z)))
theorem F45_eq (i1 : Int) (i2 : Int) (ai3 : Option Addr) (ni3 ci3 : Nat) (i4 : Int) (i5 : Int) (i6 : Int) (i7 : Int) (w : World) (R : Value → World → Prop) : F45 i1 i2 ai3 ni3 ci3 i4 i5 i6 i7 w R = denF Go.Proofs.Try.prog T45 Go.Proofs.Try.f45 A45 [.agg ⟨[.int .i64 i1, .int .i64 i2, .slice ai3 ni3 ci3, .int .i64 i4, .int .i64 i5, .int .i64 i6, .int .i64 i7]⟩] w R := by kernel_rfl
theorem F45_ok (i1 : Int) (i2 : Int) (ai3 : Option Addr) (ni3 ci3 : Nat) (i4 : Int) (i5 : Int) (i6 : Int) (i7 : Int) {w : World} {R : Value → World → Prop} (h : F45 i1 i2 ai3 ni3 ci3 i4 i5 i6 i7 w R) : CallP Go.Proofs.Try.prog 45 [.agg ⟨[.int .i64 i1, .int .i64 i2, .slice ai3 ni3 ci3, .int .i64 i4, .int .i64 i5, .int .i64 i6, .int .i64 i7]⟩] w R :=
  calls_den (fun _ => drawn (by kernel_rfl)) Go.Proofs.Try.func45 (Nat.le_of_ble_eq_true (by kernel_rfl)) ((F45_eq i1 i2 ai3 ni3 ci3 i4 i5 i6 i7 w R).mp h)
end Go.Pl.Try

/- What 'palings/ssa.shape' does, read off its translation by gen.py. -/
namespace Go.Pl.Try
set_option linter.unusedVariables false
set_option maxRecDepth 100000
def F54 (o1 : Int) (w : World) (R : Value → World → Prop) : Prop :=
  ∀ K2 : Bool → World → Prop, (∀ (x3 : Bool), ∀ w4, (
  sp x3
  (R (.tuple ⟨[.int .i64 0, .bool true]⟩) w4)
  (sp (decide ((o1 : Int) = 2))
  (R (.tuple ⟨[.int .i64 2, .bool true]⟩) w4)
  (sp (decide ((o1 : Int) = 4))
  (R (.tuple ⟨[.int .i64 1, .bool false]⟩) w4)
  (sp (decide ((o1 : Int) = 5))
  (R (.tuple ⟨[.int .i64 1, .bool true]⟩) w4)
  (sp (decide ((o1 : Int) = 6))
  (R (.tuple ⟨[.int .i64 2, .bool false]⟩) w4)
  (sp (decide ((o1 : Int) = 7))
  (R (.tuple ⟨[.int .i64 (-1), .bool true]⟩) w4)
  (R (.tuple ⟨[.int .i64 (-2), .bool false]⟩) w4))))))) → K2 x3 w4) →
  sp (decide ((o1 : Int) = 1))
  (K2 (decide ((o1 : Int) = 1)) w)
  (K2 (decide ((o1 : Int) = 3)) w)
def T54 : List Sh := [.v (.one (.int .i64)), .v (.one .any), .v (.one (.int .i64)), .v (.one .bool), .v (.one (.int .i64)), .v (.one .bool), .v (.one .bool), .v (.one .bool), .v (.one .bool), .v (.one .bool), .v (.one .bool), .v (.one .bool), .v (.one .bool), .v (.one .bool), .v (.one .bool), .v (.one .bool), .v (.one .bool), .v (.one .bool)]
def A54 : Ann := (.seq none .z (.seq none (.seq none .z (.block none (.seq (some [5]) (.seq none .z (.cond .z .z)) (.cond (.seq none .z .z) (.seq none .z (.cond (.seq none .z .z) (.seq none .z (.cond (.seq none .z .z) (.seq none .z (.cond (.seq none .z .z) (.seq none .z (.cond (.seq none .z .z) (.seq none .z (.cond (.seq none .z .z) .z)))))))))))))) (.seq none .z .z)))
theorem F54_eq (o1 : Int) (w : World) (R : Value → World → Prop) : F54 o1 w R = denF Go.Proofs.Try.prog T54 Go.Proofs.Try.f54 A54 [.int .i64 o1] w R := by kernel_rfl
theorem F54_ok (o1 : Int) {w : World} {R : Value → World → Prop} (h : F54 o1 w R) : CallP Go.Proofs.Try.prog 54 [.int .i64 o1] w R :=
  calls_den (fun _ => drawn (by kernel_rfl)) Go.Proofs.Try.func54 (Nat.le_of_ble_eq_true (by kernel_rfl)) ((F54_eq o1 w R).mp h)
end Go.Pl.Try

/- What '(palings/word.Op).Known' does, read off its translation by gen.py. -/
namespace Go.Pl.Try
set_option linter.unusedVariables false
set_option maxRecDepth 100000
def F55 (o1 : Int) (w : World) (R : Value → World → Prop) : Prop :=
  sp (decide ((1 : Int) ≤ o1))
  (R (.bool (decide ((o1 : Int) ≤ 15))) w)
  (R (.bool false) w)
def T55 : List Sh := [.v (.one (.int .i64)), .v (.one .any), .v (.one .bool), .v (.one (.int .i64)), .v (.one .bool), .v (.one .bool), .v (.one (.int .i64)), .v (.one .bool), .v (.one .bool)]
def A55 : Ann := (.seq none .z (.seq none .z .z))
theorem F55_eq (o1 : Int) (w : World) (R : Value → World → Prop) : F55 o1 w R = denF Go.Proofs.Try.prog T55 Go.Proofs.Try.f55 A55 [.int .i64 o1] w R := by kernel_rfl
theorem F55_ok (o1 : Int) {w : World} {R : Value → World → Prop} (h : F55 o1 w R) : CallP Go.Proofs.Try.prog 55 [.int .i64 o1] w R :=
  calls_den (fun _ => drawn (by kernel_rfl)) Go.Proofs.Try.func55 (Nat.le_of_ble_eq_true (by kernel_rfl)) ((F55_eq o1 w R).mp h)
end Go.Pl.Try

/- What 'palings/taint.stays' does, read off its translation by gen.py. -/
namespace Go.Pl.Try
set_option linter.unusedVariables false
set_option maxRecDepth 100000
def F63 (l1 : Int) (w : World) (R : Value → World → Prop) : Prop :=
  sp (decide ((l1 : Int) = 1))
  (R (.int .i64 0) w)
  (R (.int .i64 l1) w)
def T63 : List Sh := [.v (.one (.int .i64)), .v (.one .any), .v (.one (.int .i64)), .v (.one (.int .i64)), .v (.one .bool), .v (.one (.int .i64))]
def A63 : Ann := (.seq none .z (.seq none (.seq none .z (.cond (.seq none .z .z) .z)) (.seq none .z .z)))
theorem F63_eq (l1 : Int) (w : World) (R : Value → World → Prop) : F63 l1 w R = denF Go.Proofs.Try.prog T63 Go.Proofs.Try.f63 A63 [.int .i64 l1] w R := by kernel_rfl
theorem F63_ok (l1 : Int) {w : World} {R : Value → World → Prop} (h : F63 l1 w R) : CallP Go.Proofs.Try.prog 63 [.int .i64 l1] w R :=
  calls_den (fun _ => drawn (by kernel_rfl)) Go.Proofs.Try.func63 (Nat.le_of_ble_eq_true (by kernel_rfl)) ((F63_eq l1 w R).mp h)
end Go.Pl.Try

/- What '(palings/word.Op).Divides' does, read off its translation by gen.py. -/
namespace Go.Pl.Try
set_option linter.unusedVariables false
set_option maxRecDepth 100000
def F76 (o1 : Int) (w : World) (R : Value → World → Prop) : Prop :=
  sp (decide ((o1 : Int) = 4))
  (R (.bool true) w)
  (R (.bool (decide ((o1 : Int) = 5))) w)
def T76 : List Sh := [.v (.one (.int .i64)), .v (.one .any), .v (.one .bool), .v (.one (.int .i64)), .v (.one .bool), .v (.one .bool), .v (.one (.int .i64)), .v (.one .bool), .v (.one .bool)]
def A76 : Ann := (.seq none .z (.seq none .z .z))
theorem F76_eq (o1 : Int) (w : World) (R : Value → World → Prop) : F76 o1 w R = denF Go.Proofs.Try.prog T76 Go.Proofs.Try.f76 A76 [.int .i64 o1] w R := by kernel_rfl
theorem F76_ok (o1 : Int) {w : World} {R : Value → World → Prop} (h : F76 o1 w R) : CallP Go.Proofs.Try.prog 76 [.int .i64 o1] w R :=
  calls_den (fun _ => drawn (by kernel_rfl)) Go.Proofs.Try.func76 (Nat.le_of_ble_eq_true (by kernel_rfl)) ((F76_eq o1 w R).mp h)
end Go.Pl.Try

/- What 'palings/harden.weigh' does, read off its translation by gen.py. -/
namespace Go.Pl.Try
set_option linter.unusedVariables false
set_option maxRecDepth 100000
def F77 (deep1 : Int) (w : World) (R : Value → World → Prop) : Prop :=
  ∃ J2 : Int → Int → World → Nat → Prop, (∃ m6, J2 1 0 w m6) ∧
  ∀ (w3 : Int) (x4 : Int), ∀ w5 m6, J2 w3 x4 w5 m6 →
  sp (decide ((x4 : Int) < mnI deep1 4))
  (∃ m7, m7 < m6 ∧ J2 (IntKind.wrap .i64 (w3 * 10)) (IntKind.wrap .i64 (x4 + 1)) w5 m7)
  (R (.int .i64 w3) w5)
def T77 : List Sh := [.v (.one (.int .i64)), .v (.one .any), .v (.one (.int .i64)), .v (.one (.int .i64)), .v (.one (.int .i64)), .v (.one (.int .i64)), .v (.one (.int .i64)), .v (.one .bool), .v (.one (.int .i64)), .v (.one (.int .i64)), .v (.one (.int .i64)), .v (.one (.int .i64))]
def A77 : Ann := (.seq none .z (.seq none .z (.seq none (.seq none .z (.block none (.loop [3, 6] (.seq none .z (.seq none (.cond .z .z) (.seq none (.block none .z) .z)))))) (.seq none .z .z))))
theorem F77_eq (deep1 : Int) (w : World) (R : Value → World → Prop) : F77 deep1 w R = denF Go.Proofs.Try.prog T77 Go.Proofs.Try.f77 A77 [.int .i64 deep1] w R := by kernel_rfl
theorem F77_ok (deep1 : Int) {w : World} {R : Value → World → Prop} (h : F77 deep1 w R) : CallP Go.Proofs.Try.prog 77 [.int .i64 deep1] w R :=
  calls_den (fun _ => drawn (by kernel_rfl)) Go.Proofs.Try.func77 (Nat.le_of_ble_eq_true (by kernel_rfl)) ((F77_eq deep1 w R).mp h)
end Go.Pl.Try

/- Small functions, walked. -/
namespace Go.Pl.Try
open M
set_option linter.unusedVariables false
theorem known_op (o : Int) (w : World) : CallP Pg 55 [.int .i64 o] w fun v w' => v = .bool (opKnown o) ∧ w' = w := by
  refine F55_ok o (sp_dec (fun h => ⟨?_, rfl⟩) (fun h => ⟨?_, rfl⟩)) <;> simp [opKnown, h]
theorem divides_w (o : Int) (w : World) : CallP Pg 76 [.int .i64 o] w fun v w' => v = .bool (divides o) ∧ w' = w := by
  refine F76_ok o (sp_dec (fun h => ⟨?_, rfl⟩) (fun h => ⟨?_, rfl⟩)) <;> simp [divides, h]
theorem stays_w (l : Int) (w : World) : CallP Pg 63 [.int .i64 l] w fun v w' => v = .int .i64 (stays l) ∧ w' = w := by
  refine F63_ok l (sp_dec (fun h => ⟨?_, rfl⟩) (fun h => ⟨?_, rfl⟩)) <;> simp [stays, h]
theorem shape_w (o : Int) (w : World) : CallP Pg 54 [.int .i64 o] w fun v w' => v = .tuple ⟨[.int .i64 (shapeOf o).1, .bool (shapeOf o).2]⟩ ∧ w' = w := by
  refine F54_ok o ?_
  intro K hK
  have key : ∀ x, x = decide (o = 1 ∨ o = 3) → K x w := by
    intro x hx
    refine hK x w ?_
    subst hx
    refine sp_dec (fun h => ⟨by simp [shapeOf, h], rfl⟩) (fun h => sp_dec (fun h2 => ⟨by simp [shapeOf, h2], rfl⟩) (fun h2 => sp_dec (fun h4 => ⟨by simp [shapeOf, h4], rfl⟩) (fun h4 => sp_dec (fun h5 => ⟨by simp [shapeOf, h5], rfl⟩)
      (fun h5 => sp_dec (fun h6 => ⟨by simp [shapeOf, h6], rfl⟩) (fun h6 => sp_dec (fun h7 => ⟨by simp [shapeOf, h7], rfl⟩) (fun h7 => ⟨by simp [shapeOf, h, h2, h4, h5, h6, h7], rfl⟩))))))
  refine sp_dec (fun h => key _ ?_) (fun h => key _ ?_) <;> simp [h]
theorem may_w {a : Option Addr} {n c : Nat} {writes : List Bool} {w : World} {ai : Option Addr} {ni ci : Nat} (i : Ins) (h : RdBs w a n writes) :
    CallP Pg 17 [.slice a n c, .agg ⟨[.int .i64 i.op, .int .i64 i.dst, .slice ai ni ci, .int .i64 i.num, .int .i64 i.bin, .int .i64 i.arr, .int .i64 i.fn]⟩] w fun v w' => v = .int .i64 (may writes i) ∧ Ext w w' := by
  refine F17_ok _ _ _ _ _ _ _ _ _ _ _ _ ?_
  refine alp (Hp.refl w) fun b w1 h1 => ?_
  intro K0 hK0 K hK
  refine ⟨_, h1.cl 0 rfl rfl, sp_dec (fun h5 => hK _ ⟨?_, h1.ext⟩) (fun h5 => ⟨_, h1.cl 0 rfl rfl, sp_dec (fun h3 => ⟨_, h1.cl 0 rfl rfl, sp_dec (fun h0 => ⟨_, h1.cl 0 rfl rfl, sp_dec (fun hl => ?_) (fun hl => hK0 _ ⟨?_, h1.ext⟩)⟩) (fun h0 => hK0 _ ⟨?_, h1.ext⟩)⟩) (fun h3 => hK0 _ ⟨?_, h1.ext⟩)⟩)⟩
  · simp [may, h5]
  · have hn : i.arr.toNat < n := by omega
    obtain ⟨x, hx⟩ : ∃ x, writes[i.arr.toNat]? = some x := ⟨_, List.getElem?_eq_getElem (by rw [h.len]; exact hn)⟩
    obtain ⟨bb, ob, ha, hc⟩ := h.at hx
    refine ⟨_, h1.cl 0 rfl rfl, h0, hl, ptAt_of ha ⟨x, h1.ext.cel hc, sp_of (fun e => hK _ ⟨?_, h1.ext⟩) (fun e => hK0 _ ⟨?_, h1.ext⟩)⟩⟩
    · simp [may, h3, h0, hx, e]
    · simp [may, h5, hx, e]
  · have : writes[i.arr.toNat]? = none := List.getElem?_eq_none (by rw [h.len]; omega)
    simp [may, h5, this]
  · simp [may, h5, h0]
  · simp [may, h5, h3]
theorem weigh_w (d : Nat) (hd : d ≤ maxLen) (w : World) : CallP Pg 77 [.int .i64 (d : Int)] w fun v w' => v = .int .i64 (weigh d) ∧ w' = w := by
  refine F77_ok _ ?_
  have hm : mnI (d : Int) 4 = ((min d 4 : Nat) : Int) := by unfold mnI; split <;> omega
  refine ⟨fun x i w1 m => w1 = w ∧ ∃ j : Nat, i = j ∧ j ≤ min d 4 ∧ m = min d 4 - j ∧ x = 10 ^ j, ⟨min d 4, rfl, 0, rfl, by omega, by omega, rfl⟩, ?_⟩
  rintro x i w1 m ⟨rfl, j, rfl, hj, rfl, rfl⟩
  rw [hm]
  refine sp_dec (fun hlt => ?_) (fun hge => ?_)
  · have hj4 : j < 4 := by omega
    have hp : (10 : Int) ^ j * 10 ≤ 10000 := by
      have : j = 0 ∨ j = 1 ∨ j = 2 ∨ j = 3 := by omega
      rcases this with rfl | rfl | rfl | rfl <;> decide
    have hp0 : (0 : Int) ≤ 10 ^ j := Int.pow_nonneg (by decide)
    refine ⟨min d 4 - (j + 1), by omega, rfl, j + 1, ?_, by omega, rfl, ?_⟩
    · rw [wrap_in (by omega) (by omega)]; omega
    · rw [wrap_in (by omega) (by omega), Int.pow_succ]
  · have : j = min d 4 := by omega
    exact ⟨by rw [this]; rfl, rfl⟩
theorem params_w (nm : ByteArray) {a : Option Addr} {n c : Nat} {f : Fnc} {w : World} (h : RdBlocks w a n f.blocks) :
    CallP Pg 25 [.agg ⟨[.string nm, .slice a n c]⟩] w fun v w' => ∃ a' n' c', v = .slice a' n' c' ∧ RdI w' a' n' f.params ∧ Ext w w' := by
  refine F25_ok _ _ _ _ ?_
  refine alp (Hp.refl w) fun b w1 h1 => ⟨_, _, _, h1.cl 0 rfl rfl, sp_dec (fun h0 => ?_) (fun h0 => ?_)⟩
  · have : f.blocks = [] := List.eq_nil_of_length_eq_zero (by rw [h.len]; omega)
    exact ⟨_, _, _, rfl, by simp only [Fnc.params, this]; exact RdS.nil _ _ _ _, h1.ext⟩
  · obtain ⟨x, xs, hx⟩ : ∃ x xs, f.blocks = x :: xs := by
      cases hb : f.blocks with
      | nil => rw [hb] at h; have := h.len; simp at this; omega
      | cons x xs => exact ⟨x, xs, rfl⟩
    obtain ⟨bb, ob, vb, ha, hrow, hvl, ap, np, cp, ai, ni, ci, ae, ne, ce, rfl, hp, hi, he⟩ := h.at_ 0 x (by simp [hx])
    refine ⟨_, _, _, h1.cl 0 rfl rfl, by omega, by omega, ptAt_of ha ⟨ap, np, cp, ?_, _, _, _, rfl, ?_, h1.ext⟩⟩
    · have := hrow 0 _ rfl
      simp only [Nat.zero_mul, Nat.add_zero] at this
      exact h1.ext.cel this
    · simp only [Fnc.params, hx]
      exact hp.ext h1.ext
theorem len_w {p : Option Addr} {g : Gr} {w : World} (h : RdG w p g) : CallP Pg 35 [.pointer p] w fun v w' => v = .int .i64 (g.outs.length : Nat) ∧ w' = w := by
  obtain ⟨b, o, ao, no, co, ai, ni, ci, ar, nr, cr, rfl, h1, h2, h3, h4, h5, h6⟩ := h
  refine F35_ok _ ?_
  unfold F35
  refine ⟨false, ?_, ?_⟩
  · exact eql_ptr_nil (e := 114) (by kernel_rfl) _ _ _ _
  · refine sp_false rfl (ptAt_of rfl ?_)
    exact ⟨ao, no, co, h1, by rw [h4.len], rfl⟩
theorem in_w {p : Option Addr} {g : Gr} {w : World} (h : RdG w p g) (hl : g.reach.length = g.outs.length) (i : Int) : CallP Pg 37 [.pointer p, .int .i64 i] w fun v w' => v = .bool (g.has i) ∧ w' = w := by
  refine F37_ok _ _ (sp_dec (fun h0 => ?_) (fun h0 => ⟨by simp [Gr.has, h0], rfl⟩))
  refine Calls.mono (len_w h) ?_
  rintro e w' ⟨v, rfl, rfl, rfl⟩
  refine ⟨_, rfl, _, rfl, sp_dec (fun hlt => ?_) (fun hlt => ⟨by simp [Gr.has, hlt], rfl⟩)⟩
  obtain ⟨b, o, ao, no, co, ai, ni, ci, ar, nr, cr, rfl, h1, h2, h3, h4, h5, h6⟩ := h
  have hi : i.toNat < g.reach.length := by omega
  obtain ⟨bb, ob, ha, hc⟩ := h6.at (List.getElem?_eq_getElem hi)
  refine ptAt_of rfl ⟨_, _, _, h3, h0, by rw [← h6.len]; omega, ptAt_of ha ⟨_, hc, ?_, rfl⟩⟩
  simp [Gr.has, h0, hlt, List.getElem?_eq_getElem hi]
/-- A slice that is made of another one: 'append([]int(nil), xs...)'. -/
theorem copy_run {w : World} {a : Option Addr} {n c : Nat} {xs : List Int} (h : RdI w a n xs) (hn : n ≤ 4294967296) :
    ∃ a' c' w', (Builtin.append_ #[34, 34] 34 ⟨[.slice none 0 0, .slice a n c]⟩).run Pg w = .ok (.slice a' n c') w' ∧ RdI w' a' n xs ∧ Ext w w' := by
  have hsrc : Src w 1 a n (xs.map (Value.int .i64)) := by
    refine ⟨by simp [h.len], ?_⟩
    by_cases h0 : n = 0
    · exact .inl h0
    · right
      have hx : 0 < xs.length := by rw [h.len]; omega
      obtain ⟨b, o, ha, hc⟩ := h.at (i := 0) (List.getElem?_eq_getElem hx)
      refine ⟨b, o, ha, fun j v hj => ?_⟩
      rw [List.getElem?_map] at hj
      obtain ⟨x, hx, rfl⟩ := Option.map_eq_some_iff.1 hj
      obtain ⟨b', o', ha', hc'⟩ := h.at hx
      rw [ha] at ha'
      cases ha'
      have := hc'
      simp only [Nat.mul_one] at this
      exact this
  obtain ⟨a', c', w', r', h1, h2, h3⟩ := app2 (ty := 34) slInts (by omega) (Sls.nil 1 none) [] (L := []) (Hp.refl w) hsrc (by simp [Value.oneCell']) (by simp only [maxLen]; omega) (by omega) (cx := c)
  refine ⟨a', c', w', by simpa using h1, ?_, h3.ext⟩
  simp only [List.nil_append, Nat.zero_add] at h2 h3
  refine h2.rd [] (L := []) h3 h.len fun i x hi => ?_
  have hil := (List.getElem?_eq_some_iff.1 hi).1
  simp only [RI, Nat.mul_one]
  rw [List.drop_eq_getElem_cons (by simpa using hil)]
  simp [(List.getElem?_eq_some_iff.1 hi).2]
theorem ins_w {p : Option Addr} {g : Gr} {w : World} (h : RdG w p g) (hl : g.ins.length = g.outs.length) (hs : ∀ xs ∈ g.ins, xs.length ≤ 4294967296) (i : Int) :
    CallP Pg 36 [.pointer p, .int .i64 i] w fun v w' => ∃ a' n' c', v = .slice a' n' c' ∧ RdI w' a' n' (if 0 ≤ i then g.ins.getD i.toNat [] else []) ∧ Ext w w' := by
  refine F36_ok _ _ ?_
  intro K0 hK0 K hK
  refine sp_dec (fun h0 => hK _ ⟨_, _, _, rfl, ?_, Ext.refl _⟩) (fun h0 => ?_)
  · rw [if_neg (by omega)]; exact RdS.nil _ _ _ _
  refine Calls.mono (len_w h) ?_
  rintro e w' ⟨v, rfl, rfl, rfl⟩
  refine ⟨_, rfl, _, rfl, sp_dec (fun hlt => hK _ ⟨_, _, _, rfl, ?_, Ext.refl _⟩) (fun hlt => ?_)⟩
  · rw [if_pos (by omega), List.getD_eq_getElem?_getD, List.getElem?_eq_none (by omega)]; exact RdS.nil _ _ _ _
  obtain ⟨b, o, ao, no, co, ai, ni, ci, ar, nr, cr, rfl, h1, h2, h3, h4, h5, h6⟩ := h
  have hi : i.toNat < g.ins.length := by omega
  obtain ⟨bb, ob, a', n', c', ha, hc, hr⟩ := h5.at (List.getElem?_eq_getElem hi)
  have hsz := hs _ (List.getElem_mem hi)
  obtain ⟨a2, c2, w2, hrun, hr2, hx2⟩ := copy_run (c := c') hr (by rw [← hr.len]; exact hsz)
  refine hK0 _ (ptAt_of rfl ⟨_, _, _, h2, by omega, by rw [← h5.len]; omega, ptAt_of ha ⟨_, _, _, hc, _, _, _, w2, hrun, _, _, _, rfl, ?_, hx2⟩⟩)
  rw [if_pos (by omega), List.getD_eq_getElem?_getD, List.getElem?_eq_getElem hi]
  exact hr2
end Go.Pl.Try

/- What 'slices.IndexFunc[[]palings/ssa.Ins,palings/ssa.Ins]' does, read off its translation by gen.py. -/
namespace Go.Pl.Try
set_option linter.unusedVariables false
set_option maxRecDepth 100000
def F53 (as1 : Option Addr) (ns1 cs1 : Nat) (f2 : Value) (w : World) (R : Value → World → Prop) : Prop :=
  ∃ J3 : Int → World → Nat → Prop, (∃ m6, J3 0 w m6) ∧
  ∀ (x4 : Int), ∀ w5 m6, J3 x4 w5 m6 →
  sp (decide ((x4 : Int) < (ns1 : Nat)))
  (0 ≤ (x4 : Int) ∧ (x4 : Int) < (ns1 : Nat) ∧
  ptAt as1 fun b8 o9 =>
  ∃ (x10 : Int) (x11 : Int) (ax12 : Option Addr) (nx12 cx12 : Nat) (x13 : Int) (x14 : Int) (x15 : Int) (x16 : Int), Row w5 b8 (o9 + x4.toNat * 7) [.int .i64 x10, .int .i64 x11, .slice ax12 nx12 cx12, .int .i64 x13, .int .i64 x14, .int .i64 x15, .int .i64 x16] ∧
  CallV Pg (f2) [.agg ⟨[.int .i64 x10, .int .i64 x11, .slice ax12 nx12 cx12, .int .i64 x13, .int .i64 x14, .int .i64 x15, .int .i64 x16]⟩] w5 fun v17 w18 => ∃ (x19 : Bool), v17 = .bool x19 ∧
  sp x19
  (R (.int .i64 x4) w18)
  (∃ m7, m7 < m6 ∧ J3 (IntKind.wrap .i64 (x4 + 1)) w18 m7))
  (R (.int .i64 (-1)) w5)
def T53 : List Sh := [.v (.one .sl), .v (.one .any), .v (.one .any), .v (.one .any), .v (.one (.int .i64)), .v (.one (.int .i64)), .v (.one .sl), .v (.one (.int .i64)), .v (.one (.int .i64)), .v (.one .bool), .v (.one (.int .i64)), .v (.one .any), .v (.one .sl), .v (.one (.int .i64)), .v (.one .ptr), .v (.agg [(.int .i64), (.int .i64), .sl, (.int .i64), (.int .i64), (.int .i64), (.int .i64)]), .v (.one .bool), .v (.one (.int .i64)), .v (.one (.int .i64))]
def A53 : Ann := (.seq none .z (.seq none (.seq none .z (.block none (.loop [8] (.seq none .z (.seq none (.cond .z .z) (.seq none (.block none (.seq none .z (.seq none .z (.cond (.seq none .z .z) .z)))) .z)))))) (.seq none .z .z)))
theorem F53_eq (as1 : Option Addr) (ns1 cs1 : Nat) (f2 : Value) (w : World) (R : Value → World → Prop) : F53 as1 ns1 cs1 f2 w R = denF Go.Proofs.Try.prog T53 Go.Proofs.Try.f53 A53 [.slice as1 ns1 cs1, f2] w R := by kernel_rfl
theorem F53_ok (as1 : Option Addr) (ns1 cs1 : Nat) (f2 : Value) {w : World} {R : Value → World → Prop} (h : F53 as1 ns1 cs1 f2 w R) : CallP Go.Proofs.Try.prog 53 [.slice as1 ns1 cs1, f2] w R :=
  calls_den (fun _ => drawn (by kernel_rfl)) Go.Proofs.Try.func53 (Nat.le_of_ble_eq_true (by kernel_rfl)) ((F53_eq as1 ns1 cs1 f2 w R).mp h)
end Go.Pl.Try

/- What 'slices.ContainsFunc[[]palings/ssa.Ins,palings/ssa.Ins]' does, read off its translation by gen.py. -/
namespace Go.Pl.Try
set_option linter.unusedVariables false
set_option maxRecDepth 100000
def F28 (as1 : Option Addr) (ns1 cs1 : Nat) (f2 : Value) (w : World) (R : Value → World → Prop) : Prop :=
  CallP Pg 53 [.slice as1 ns1 cs1, f2] w fun v3 w4 => ∃ (x5 : Int), v3 = .int .i64 x5 ∧
  R (.bool (decide ((0 : Int) ≤ x5))) w4
def T28 : List Sh := [.v (.one .sl), .v (.one .any), .v (.one .any), .v (.one .any), .v (.one .bool), .v (.one .sl), .v (.one .any), .v (.one (.int .i64)), .v (.one .bool)]
def A28 : Ann := (.seq none .z (.seq none .z .z))
theorem F28_eq (as1 : Option Addr) (ns1 cs1 : Nat) (f2 : Value) (w : World) (R : Value → World → Prop) : F28 as1 ns1 cs1 f2 w R = denF Go.Proofs.Try.prog T28 Go.Proofs.Try.f28 A28 [.slice as1 ns1 cs1, f2] w R := by kernel_rfl
theorem F28_ok (as1 : Option Addr) (ns1 cs1 : Nat) (f2 : Value) {w : World} {R : Value → World → Prop} (h : F28 as1 ns1 cs1 f2 w R) : CallP Go.Proofs.Try.prog 28 [.slice as1 ns1 cs1, f2] w R :=
  calls_den (fun _ => drawn (by kernel_rfl)) Go.Proofs.Try.func28 (Nat.le_of_ble_eq_true (by kernel_rfl)) ((F28_eq as1 ns1 cs1 f2 w R).mp h)
end Go.Pl.Try

/- What 'slices.IndexFunc[[]int,int]' does, read off its translation by gen.py. -/
namespace Go.Pl.Try
set_option linter.unusedVariables false
set_option maxRecDepth 100000
def F72 (as1 : Option Addr) (ns1 cs1 : Nat) (f2 : Value) (w : World) (R : Value → World → Prop) : Prop :=
  ∃ J3 : Int → World → Nat → Prop, (∃ m6, J3 0 w m6) ∧
  ∀ (x4 : Int), ∀ w5 m6, J3 x4 w5 m6 →
  sp (decide ((x4 : Int) < (ns1 : Nat)))
  (0 ≤ (x4 : Int) ∧ (x4 : Int) < (ns1 : Nat) ∧
  ptAt as1 fun b8 o9 =>
  ∃ (x10 : Int), cel w5 b8 (o9 + x4.toNat * 1) = some (.int .i64 x10) ∧
  CallV Pg (f2) [.int .i64 x10] w5 fun v11 w12 => ∃ (x13 : Bool), v11 = .bool x13 ∧
  sp x13
  (R (.int .i64 x4) w12)
  (∃ m7, m7 < m6 ∧ J3 (IntKind.wrap .i64 (x4 + 1)) w12 m7))
  (R (.int .i64 (-1)) w5)
def T72 : List Sh := [.v (.one .sl), .v (.one .any), .v (.one .any), .v (.one .any), .v (.one (.int .i64)), .v (.one (.int .i64)), .v (.one .sl), .v (.one (.int .i64)), .v (.one (.int .i64)), .v (.one .bool), .v (.one (.int .i64)), .v (.one .any), .v (.one .sl), .v (.one (.int .i64)), .v (.one .ptr), .v (.one (.int .i64)), .v (.one .bool), .v (.one (.int .i64)), .v (.one (.int .i64))]
def A72 : Ann := (.seq none .z (.seq none (.seq none .z (.block none (.loop [8] (.seq none .z (.seq none (.cond .z .z) (.seq none (.block none (.seq none .z (.seq none .z (.cond (.seq none .z .z) .z)))) .z)))))) (.seq none .z .z)))
theorem F72_eq (as1 : Option Addr) (ns1 cs1 : Nat) (f2 : Value) (w : World) (R : Value → World → Prop) : F72 as1 ns1 cs1 f2 w R = denF Go.Proofs.Try.prog T72 Go.Proofs.Try.f72 A72 [.slice as1 ns1 cs1, f2] w R := by kernel_rfl
theorem F72_ok (as1 : Option Addr) (ns1 cs1 : Nat) (f2 : Value) {w : World} {R : Value → World → Prop} (h : F72 as1 ns1 cs1 f2 w R) : CallP Go.Proofs.Try.prog 72 [.slice as1 ns1 cs1, f2] w R :=
  calls_den (fun _ => drawn (by kernel_rfl)) Go.Proofs.Try.func72 (Nat.le_of_ble_eq_true (by kernel_rfl)) ((F72_eq as1 ns1 cs1 f2 w R).mp h)
end Go.Pl.Try

/- What 'slices.ContainsFunc[[]int,int]' does, read off its translation by gen.py. -/
namespace Go.Pl.Try
set_option linter.unusedVariables false
set_option maxRecDepth 100000
def F41 (as1 : Option Addr) (ns1 cs1 : Nat) (f2 : Value) (w : World) (R : Value → World → Prop) : Prop :=
  CallP Pg 72 [.slice as1 ns1 cs1, f2] w fun v3 w4 => ∃ (x5 : Int), v3 = .int .i64 x5 ∧
  R (.bool (decide ((0 : Int) ≤ x5))) w4
def T41 : List Sh := [.v (.one .sl), .v (.one .any), .v (.one .any), .v (.one .any), .v (.one .bool), .v (.one .sl), .v (.one .any), .v (.one (.int .i64)), .v (.one .bool)]
def A41 : Ann := (.seq none .z (.seq none .z .z))
theorem F41_eq (as1 : Option Addr) (ns1 cs1 : Nat) (f2 : Value) (w : World) (R : Value → World → Prop) : F41 as1 ns1 cs1 f2 w R = denF Go.Proofs.Try.prog T41 Go.Proofs.Try.f41 A41 [.slice as1 ns1 cs1, f2] w R := by kernel_rfl
theorem F41_ok (as1 : Option Addr) (ns1 cs1 : Nat) (f2 : Value) {w : World} {R : Value → World → Prop} (h : F41 as1 ns1 cs1 f2 w R) : CallP Go.Proofs.Try.prog 41 [.slice as1 ns1 cs1, f2] w R :=
  calls_den (fun _ => drawn (by kernel_rfl)) Go.Proofs.Try.func41 (Nat.le_of_ble_eq_true (by kernel_rfl)) ((F41_eq as1 ns1 cs1 f2 w R).mp h)
end Go.Pl.Try

/- What 'slices.IndexFunc[[]int64,int64]' does, read off its translation by gen.py. -/
namespace Go.Pl.Try
set_option linter.unusedVariables false
set_option maxRecDepth 100000
def F81 (as1 : Option Addr) (ns1 cs1 : Nat) (f2 : Value) (w : World) (R : Value → World → Prop) : Prop :=
  ∃ J3 : Int → World → Nat → Prop, (∃ m6, J3 0 w m6) ∧
  ∀ (x4 : Int), ∀ w5 m6, J3 x4 w5 m6 →
  sp (decide ((x4 : Int) < (ns1 : Nat)))
  (0 ≤ (x4 : Int) ∧ (x4 : Int) < (ns1 : Nat) ∧
  ptAt as1 fun b8 o9 =>
  ∃ (x10 : Int), cel w5 b8 (o9 + x4.toNat * 1) = some (.int .i64 x10) ∧
  CallV Pg (f2) [.int .i64 x10] w5 fun v11 w12 => ∃ (x13 : Bool), v11 = .bool x13 ∧
  sp x13
  (R (.int .i64 x4) w12)
  (∃ m7, m7 < m6 ∧ J3 (IntKind.wrap .i64 (x4 + 1)) w12 m7))
  (R (.int .i64 (-1)) w5)
def T81 : List Sh := [.v (.one .sl), .v (.one .any), .v (.one .any), .v (.one .any), .v (.one (.int .i64)), .v (.one (.int .i64)), .v (.one .sl), .v (.one (.int .i64)), .v (.one (.int .i64)), .v (.one .bool), .v (.one (.int .i64)), .v (.one .any), .v (.one .sl), .v (.one (.int .i64)), .v (.one .ptr), .v (.one (.int .i64)), .v (.one .bool), .v (.one (.int .i64)), .v (.one (.int .i64))]
def A81 : Ann := (.seq none .z (.seq none (.seq none .z (.block none (.loop [8] (.seq none .z (.seq none (.cond .z .z) (.seq none (.block none (.seq none .z (.seq none .z (.cond (.seq none .z .z) .z)))) .z)))))) (.seq none .z .z)))
theorem F81_eq (as1 : Option Addr) (ns1 cs1 : Nat) (f2 : Value) (w : World) (R : Value → World → Prop) : F81 as1 ns1 cs1 f2 w R = denF Go.Proofs.Try.prog T81 Go.Proofs.Try.f81 A81 [.slice as1 ns1 cs1, f2] w R := by kernel_rfl
theorem F81_ok (as1 : Option Addr) (ns1 cs1 : Nat) (f2 : Value) {w : World} {R : Value → World → Prop} (h : F81 as1 ns1 cs1 f2 w R) : CallP Go.Proofs.Try.prog 81 [.slice as1 ns1 cs1, f2] w R :=
  calls_den (fun _ => drawn (by kernel_rfl)) Go.Proofs.Try.func81 (Nat.le_of_ble_eq_true (by kernel_rfl)) ((F81_eq as1 ns1 cs1 f2 w R).mp h)
end Go.Pl.Try

/- What 'slices.ContainsFunc[[]int64,int64]' does, read off its translation by gen.py. -/
namespace Go.Pl.Try
set_option linter.unusedVariables false
set_option maxRecDepth 100000
def F66 (as1 : Option Addr) (ns1 cs1 : Nat) (f2 : Value) (w : World) (R : Value → World → Prop) : Prop :=
  CallP Pg 81 [.slice as1 ns1 cs1, f2] w fun v3 w4 => ∃ (x5 : Int), v3 = .int .i64 x5 ∧
  R (.bool (decide ((0 : Int) ≤ x5))) w4
def T66 : List Sh := [.v (.one .sl), .v (.one .any), .v (.one .any), .v (.one .any), .v (.one .bool), .v (.one .sl), .v (.one .any), .v (.one (.int .i64)), .v (.one .bool)]
def A66 : Ann := (.seq none .z (.seq none .z .z))
theorem F66_eq (as1 : Option Addr) (ns1 cs1 : Nat) (f2 : Value) (w : World) (R : Value → World → Prop) : F66 as1 ns1 cs1 f2 w R = denF Go.Proofs.Try.prog T66 Go.Proofs.Try.f66 A66 [.slice as1 ns1 cs1, f2] w R := by kernel_rfl
theorem F66_ok (as1 : Option Addr) (ns1 cs1 : Nat) (f2 : Value) {w : World} {R : Value → World → Prop} (h : F66 as1 ns1 cs1 f2 w R) : CallP Go.Proofs.Try.prog 66 [.slice as1 ns1 cs1, f2] w R :=
  calls_den (fun _ => drawn (by kernel_rfl)) Go.Proofs.Try.func66 (Nat.le_of_ble_eq_true (by kernel_rfl)) ((F66_eq as1 ns1 cs1 f2 w R).mp h)
end Go.Pl.Try

/- What 'slices.IndexFunc[[][2]int,[2]int]' does, read off its translation by gen.py. -/
namespace Go.Pl.Try
set_option linter.unusedVariables false
set_option maxRecDepth 100000
def F82 (as1 : Option Addr) (ns1 cs1 : Nat) (f2 : Value) (w : World) (R : Value → World → Prop) : Prop :=
  ∃ J3 : Int → World → Nat → Prop, (∃ m6, J3 0 w m6) ∧
  ∀ (x4 : Int), ∀ w5 m6, J3 x4 w5 m6 →
  sp (decide ((x4 : Int) < (ns1 : Nat)))
  (0 ≤ (x4 : Int) ∧ (x4 : Int) < (ns1 : Nat) ∧
  ptAt as1 fun b8 o9 =>
  ∃ (x10 : Int) (x11 : Int), Row w5 b8 (o9 + x4.toNat * 2) [.int .i64 x10, .int .i64 x11] ∧
  CallV Pg (f2) [.agg ⟨[.int .i64 x10, .int .i64 x11]⟩] w5 fun v12 w13 => ∃ (x14 : Bool), v12 = .bool x14 ∧
  sp x14
  (R (.int .i64 x4) w13)
  (∃ m7, m7 < m6 ∧ J3 (IntKind.wrap .i64 (x4 + 1)) w13 m7))
  (R (.int .i64 (-1)) w5)
def T82 : List Sh := [.v (.one .sl), .v (.one .any), .v (.one .any), .v (.one .any), .v (.one (.int .i64)), .v (.one (.int .i64)), .v (.one .sl), .v (.one (.int .i64)), .v (.one (.int .i64)), .v (.one .bool), .v (.one (.int .i64)), .v (.one .any), .v (.one .sl), .v (.one (.int .i64)), .v (.one .ptr), .v (.agg [(.int .i64), (.int .i64)]), .v (.one .bool), .v (.one (.int .i64)), .v (.one (.int .i64))]
def A82 : Ann := (.seq none .z (.seq none (.seq none .z (.block none (.loop [8] (.seq none .z (.seq none (.cond .z .z) (.seq none (.block none (.seq none .z (.seq none .z (.cond (.seq none .z .z) .z)))) .z)))))) (.seq none .z .z)))
theorem F82_eq (as1 : Option Addr) (ns1 cs1 : Nat) (f2 : Value) (w : World) (R : Value → World → Prop) : F82 as1 ns1 cs1 f2 w R = denF Go.Proofs.Try.prog T82 Go.Proofs.Try.f82 A82 [.slice as1 ns1 cs1, f2] w R := by kernel_rfl
theorem F82_ok (as1 : Option Addr) (ns1 cs1 : Nat) (f2 : Value) {w : World} {R : Value → World → Prop} (h : F82 as1 ns1 cs1 f2 w R) : CallP Go.Proofs.Try.prog 82 [.slice as1 ns1 cs1, f2] w R :=
  calls_den (fun _ => drawn (by kernel_rfl)) Go.Proofs.Try.func82 (Nat.le_of_ble_eq_true (by kernel_rfl)) ((F82_eq as1 ns1 cs1 f2 w R).mp h)
end Go.Pl.Try

/- What 'slices.ContainsFunc[[][2]int,[2]int]' does, read off its translation by gen.py. -/
namespace Go.Pl.Try
set_option linter.unusedVariables false
set_option maxRecDepth 100000
def F68 (as1 : Option Addr) (ns1 cs1 : Nat) (f2 : Value) (w : World) (R : Value → World → Prop) : Prop :=
  CallP Pg 82 [.slice as1 ns1 cs1, f2] w fun v3 w4 => ∃ (x5 : Int), v3 = .int .i64 x5 ∧
  R (.bool (decide ((0 : Int) ≤ x5))) w4
def T68 : List Sh := [.v (.one .sl), .v (.one .any), .v (.one .any), .v (.one .any), .v (.one .bool), .v (.one .sl), .v (.one .any), .v (.one (.int .i64)), .v (.one .bool)]
def A68 : Ann := (.seq none .z (.seq none .z .z))
theorem F68_eq (as1 : Option Addr) (ns1 cs1 : Nat) (f2 : Value) (w : World) (R : Value → World → Prop) : F68 as1 ns1 cs1 f2 w R = denF Go.Proofs.Try.prog T68 Go.Proofs.Try.f68 A68 [.slice as1 ns1 cs1, f2] w R := by kernel_rfl
theorem F68_ok (as1 : Option Addr) (ns1 cs1 : Nat) (f2 : Value) {w : World} {R : Value → World → Prop} (h : F68 as1 ns1 cs1 f2 w R) : CallP Go.Proofs.Try.prog 68 [.slice as1 ns1 cs1, f2] w R :=
  calls_den (fun _ => drawn (by kernel_rfl)) Go.Proofs.Try.func68 (Nat.le_of_ble_eq_true (by kernel_rfl)) ((F68_eq as1 ns1 cs1 f2 w R).mp h)
end Go.Pl.Try

/- What 'slices.Clone[[]int,int]' does, read off its translation by gen.py. -/
namespace Go.Pl.Try
set_option linter.unusedVariables false
set_option maxRecDepth 100000
def F52 (as1 : Option Addr) (ns1 cs1 : Nat) (w : World) (R : Value → World → Prop) : Prop :=
  ∃ (x2 : Bool), Sem.run Pg (do eqGuard .eql 34 (.tmp 3) (.const (.slice none 0 0)) (.slice as1 ns1 cs1) (.slice none 0 0); binOp .eql 34 (.slice as1 ns1 cs1) (.slice none 0 0)) w = .ok (.bool x2) w ∧
  sp x2
  (R (.slice none 0 0) w)
  (AlP 3 [] w fun b3 w4 =>
  ∃ (ax5 : Option Addr) (nx5 cx5 : Nat), ∃ w6 : World, Sem.run Pg (Builtin.append_ #[34, 34] 34 ⟨[.slice (some ⟨b3, 0, none⟩) 0 0, .slice as1 ns1 cs1]⟩) w4 = .ok (.slice ax5 nx5 cx5) w6 ∧
  R (.slice ax5 nx5 cx5) w6)
def T52 : List Sh := [.v (.one .sl), .v (.one .any), .v (.one .sl), .v (.one .sl), .v (.one .bool), .v (.one .sl), .v (.one .sl), .v (.one .sl)]
def A52 : Ann := (.seq none .z (.seq none (.seq none .z (.cond (.seq none .z .z) .z)) (.seq none .z .z)))
theorem F52_eq (as1 : Option Addr) (ns1 cs1 : Nat) (w : World) (R : Value → World → Prop) : F52 as1 ns1 cs1 w R = denF Go.Proofs.Try.prog T52 Go.Proofs.Try.f52 A52 [.slice as1 ns1 cs1] w R := by kernel_rfl
theorem F52_ok (as1 : Option Addr) (ns1 cs1 : Nat) {w : World} {R : Value → World → Prop} (h : F52 as1 ns1 cs1 w R) : CallP Go.Proofs.Try.prog 52 [.slice as1 ns1 cs1] w R :=
  calls_den (fun _ => drawn (by kernel_rfl)) Go.Proofs.Try.func52 (Nat.le_of_ble_eq_true (by kernel_rfl)) ((F52_eq as1 ns1 cs1 w R).mp h)
end Go.Pl.Try
