/- Joined texts of the proof, part 6: WIdx, Mem4, F56, F32, F58, F59, WSsa1, F17, F25, F35, F37, F36, F45, F54, F55, F63, F76, F77. -/
import Derived.Test.YtbacmadoenicnaaS05
set_option maxRecDepth 2000
set_option linter.unusedVariables false
set_option linter.unusedSimpArgs false
set_option linter.unusedSectionVars false
/- 'slices.IndexFunc', 'slices.ContainsFunc' and 'slices.Clone', walked. -/
namespace Go.Pl.Try
open M
set_option linter.unusedVariables false
def RTwo (_ : World) (vs : List Value) (x : Int × Int) : Prop := vs = [.int .i64 x.1, .int .i64 x.2]
theorem RdTwo.ext {w w' : World} {a : Option Addr} {n : Nat} {xs : List (Int × Int)} (h : RdS 2 RTwo w a n xs) (hx : Ext w w') : RdS 2 RTwo w' a n xs := RdS.ext (w := w) (R := RTwo) (fun _ _ h => h) hx h
theorem any_take_step {α : Type} {p : α → Bool} {xs : List α} {j : Nat} {x : α} (hx : xs[j]? = some x) (h : (xs.take j).any p = false) : (xs.take (j + 1)).any p = p x := by
  have hj := (List.getElem?_eq_some_iff.1 hx).1
  rw [List.take_add_one, List.any_append, h, hx]
  simp
theorem any_of_take {α : Type} {p : α → Bool} {xs : List α} {j : Nat} (h : (xs.take j).any p = true) : xs.any p = true := by
  obtain ⟨x, hx, hp⟩ := List.any_eq_true.1 h
  exact List.any_eq_true.2 ⟨x, List.take_subset j xs hx, hp⟩
theorem idxIns_w {a : Option Addr} {n c : Nat} {xs : List Ins} {w : World} {f : Value} (p : Ins → Bool) (h : RdS 7 RIns w a n xs) (hf : ∀ x ∈ xs, ∀ vs w1, RIns w1 vs x → Ext w w1 → CallV Pg f [.agg ⟨vs⟩] w1 fun v w2 => v = .bool (p x) ∧ Ext w1 w2) :
    CallP Pg 53 [.slice a n c, f] w fun v w' => ∃ i, v = .int .i64 i ∧ decide (0 ≤ i) = xs.any p ∧ Ext w w' := by
  refine F53_ok _ _ _ _ ?_
  have hl := h.len
  have hle := h.le
  refine ⟨fun i w5 m => ∃ j : Nat, i = j ∧ j ≤ n ∧ m = n - j ∧ Ext w w5 ∧ (xs.take j).any p = false, ⟨n, 0, rfl, by omega, by omega, Ext.refl _, by simp⟩, ?_⟩
  rintro i w5 m ⟨j, rfl, hj, rfl, hw, hany⟩
  refine sp_dec (fun hlt => ?_) (fun hge => ?_)
  · have hjn : j < n := by omega
    obtain ⟨x, hx⟩ : ∃ x, xs[j]? = some x := ⟨_, List.getElem?_eq_getElem (by omega)⟩
    have hxm := List.mem_of_getElem? hx
    have hstep := any_take_step (p := p) hx hany
    obtain ⟨b, o, vs, ha, hrow, hvl, ai, ni, ci, rfl, hargs⟩ := h.at_ _ _ hx
    have hR : RIns w5 _ x := ⟨ai, ni, ci, rfl, hargs.ext hw⟩
    refine ⟨by omega, by omega, ptAt_of ha ⟨_, _, _, _, _, _, _, _, _, hw.row hrow, ?_⟩⟩
    refine (hf x hxm _ w5 hR hw).mono ?_
    rintro v w6 ⟨rfl, hw6⟩
    refine ⟨_, rfl, ?_⟩
    cases hp : p x with
    | true => exact ⟨_, rfl, by rw [hp] at hstep; rw [any_of_take hstep]; simp, hw.trans hw6⟩
    | false => exact ⟨n - (j + 1), by omega, j + 1, wrap_succ (by omega), by omega, rfl, hw.trans hw6, by rw [hstep, hp]⟩
  · have : j = n := by omega
    subst this
    rw [List.take_of_length_le (by omega)] at hany
    exact ⟨_, rfl, by rw [hany]; decide, hw⟩
theorem hasIns_w {a : Option Addr} {n c : Nat} {xs : List Ins} {w : World} {f : Value} (p : Ins → Bool) (h : RdS 7 RIns w a n xs) (hf : ∀ x ∈ xs, ∀ vs w1, RIns w1 vs x → Ext w w1 → CallV Pg f [.agg ⟨vs⟩] w1 fun v w2 => v = .bool (p x) ∧ Ext w1 w2) :
    CallP Pg 28 [.slice a n c, f] w fun v w' => v = .bool (xs.any p) ∧ Ext w w' := by
  refine F28_ok _ _ _ _ ?_
  refine Calls.mono (idxIns_w p h hf) ?_
  rintro e w' ⟨v, rfl, i, rfl, hi, hx⟩
  exact ⟨_, rfl, _, rfl, by rw [hi], hx⟩
theorem idxInt_w {a : Option Addr} {n c : Nat} {xs : List Int} {w : World} {f : Value} (p : Int → Bool) (h : RdS 1 (RI .i64) w a n xs) (hf : ∀ x ∈ xs, ∀ w1, Ext w w1 → CallV Pg f [.int .i64 x] w1 fun v w2 => v = .bool (p x) ∧ Ext w1 w2) :
    CallP Pg 72 [.slice a n c, f] w fun v w' => ∃ i, v = .int .i64 i ∧ decide (0 ≤ i) = xs.any p ∧ Ext w w' := by
  refine F72_ok _ _ _ _ ?_
  have hl := h.len
  have hle := h.le
  refine ⟨fun i w5 m => ∃ j : Nat, i = j ∧ j ≤ n ∧ m = n - j ∧ Ext w w5 ∧ (xs.take j).any p = false, ⟨n, 0, rfl, by omega, by omega, Ext.refl _, by simp⟩, ?_⟩
  rintro i w5 m ⟨j, rfl, hj, rfl, hw, hany⟩
  refine sp_dec (fun hlt => ?_) (fun hge => ?_)
  · have hjn : j < n := by omega
    obtain ⟨x, hx⟩ : ∃ x, xs[j]? = some x := ⟨_, List.getElem?_eq_getElem (by omega)⟩
    have hxm := List.mem_of_getElem? hx
    have hstep := any_take_step (p := p) hx hany
    obtain ⟨b, o, ha, hc⟩ := RdI.at h hx
    refine ⟨by omega, by omega, ptAt_of ha ⟨_, hw.cel hc, ?_⟩⟩
    refine (hf x hxm w5 hw).mono ?_
    rintro v w6 ⟨rfl, hw6⟩
    refine ⟨_, rfl, ?_⟩
    cases hp : p x with
    | true => exact ⟨_, rfl, by rw [hp] at hstep; rw [any_of_take hstep]; simp, hw.trans hw6⟩
    | false => exact ⟨n - (j + 1), by omega, j + 1, wrap_succ (by omega), by omega, rfl, hw.trans hw6, by rw [hstep, hp]⟩
  · have : j = n := by omega
    subst this
    rw [List.take_of_length_le (by omega)] at hany
    exact ⟨_, rfl, by rw [hany]; decide, hw⟩
theorem hasInt_w {a : Option Addr} {n c : Nat} {xs : List Int} {w : World} {f : Value} (p : Int → Bool) (h : RdS 1 (RI .i64) w a n xs) (hf : ∀ x ∈ xs, ∀ w1, Ext w w1 → CallV Pg f [.int .i64 x] w1 fun v w2 => v = .bool (p x) ∧ Ext w1 w2) :
    CallP Pg 41 [.slice a n c, f] w fun v w' => v = .bool (xs.any p) ∧ Ext w w' := by
  refine F41_ok _ _ _ _ ?_
  refine Calls.mono (idxInt_w p h hf) ?_
  rintro e w' ⟨v, rfl, i, rfl, hi, hx⟩
  exact ⟨_, rfl, _, rfl, by rw [hi], hx⟩
theorem idxI64_w {a : Option Addr} {n c : Nat} {xs : List Int} {w : World} {f : Value} (p : Int → Bool) (h : RdS 1 (RI .i64) w a n xs) (hf : ∀ x ∈ xs, ∀ w1, Ext w w1 → CallV Pg f [.int .i64 x] w1 fun v w2 => v = .bool (p x) ∧ Ext w1 w2) :
    CallP Pg 81 [.slice a n c, f] w fun v w' => ∃ i, v = .int .i64 i ∧ decide (0 ≤ i) = xs.any p ∧ Ext w w' := by
  refine F81_ok _ _ _ _ ?_
  have hl := h.len
  have hle := h.le
  refine ⟨fun i w5 m => ∃ j : Nat, i = j ∧ j ≤ n ∧ m = n - j ∧ Ext w w5 ∧ (xs.take j).any p = false, ⟨n, 0, rfl, by omega, by omega, Ext.refl _, by simp⟩, ?_⟩
  rintro i w5 m ⟨j, rfl, hj, rfl, hw, hany⟩
  refine sp_dec (fun hlt => ?_) (fun hge => ?_)
  · have hjn : j < n := by omega
    obtain ⟨x, hx⟩ : ∃ x, xs[j]? = some x := ⟨_, List.getElem?_eq_getElem (by omega)⟩
    have hxm := List.mem_of_getElem? hx
    have hstep := any_take_step (p := p) hx hany
    obtain ⟨b, o, ha, hc⟩ := RdI.at h hx
    refine ⟨by omega, by omega, ptAt_of ha ⟨_, hw.cel hc, ?_⟩⟩
    refine (hf x hxm w5 hw).mono ?_
    rintro v w6 ⟨rfl, hw6⟩
    refine ⟨_, rfl, ?_⟩
    cases hp : p x with
    | true => exact ⟨_, rfl, by rw [hp] at hstep; rw [any_of_take hstep]; simp, hw.trans hw6⟩
    | false => exact ⟨n - (j + 1), by omega, j + 1, wrap_succ (by omega), by omega, rfl, hw.trans hw6, by rw [hstep, hp]⟩
  · have : j = n := by omega
    subst this
    rw [List.take_of_length_le (by omega)] at hany
    exact ⟨_, rfl, by rw [hany]; decide, hw⟩
theorem hasI64_w {a : Option Addr} {n c : Nat} {xs : List Int} {w : World} {f : Value} (p : Int → Bool) (h : RdS 1 (RI .i64) w a n xs) (hf : ∀ x ∈ xs, ∀ w1, Ext w w1 → CallV Pg f [.int .i64 x] w1 fun v w2 => v = .bool (p x) ∧ Ext w1 w2) :
    CallP Pg 66 [.slice a n c, f] w fun v w' => v = .bool (xs.any p) ∧ Ext w w' := by
  refine F66_ok _ _ _ _ ?_
  refine Calls.mono (idxI64_w p h hf) ?_
  rintro e w' ⟨v, rfl, i, rfl, hi, hx⟩
  exact ⟨_, rfl, _, rfl, by rw [hi], hx⟩
theorem idxTwo_w {a : Option Addr} {n c : Nat} {xs : List (Int × Int)} {w : World} {f : Value} (p : (Int × Int) → Bool) (h : RdS 2 RTwo w a n xs) (hf : ∀ x ∈ xs, ∀ vs w1, RTwo w1 vs x → Ext w w1 → CallV Pg f [.agg ⟨vs⟩] w1 fun v w2 => v = .bool (p x) ∧ Ext w1 w2) :
    CallP Pg 82 [.slice a n c, f] w fun v w' => ∃ i, v = .int .i64 i ∧ decide (0 ≤ i) = xs.any p ∧ Ext w w' := by
  refine F82_ok _ _ _ _ ?_
  have hl := h.len
  have hle := h.le
  refine ⟨fun i w5 m => ∃ j : Nat, i = j ∧ j ≤ n ∧ m = n - j ∧ Ext w w5 ∧ (xs.take j).any p = false, ⟨n, 0, rfl, by omega, by omega, Ext.refl _, by simp⟩, ?_⟩
  rintro i w5 m ⟨j, rfl, hj, rfl, hw, hany⟩
  refine sp_dec (fun hlt => ?_) (fun hge => ?_)
  · have hjn : j < n := by omega
    obtain ⟨x, hx⟩ : ∃ x, xs[j]? = some x := ⟨_, List.getElem?_eq_getElem (by omega)⟩
    have hxm := List.mem_of_getElem? hx
    have hstep := any_take_step (p := p) hx hany
    obtain ⟨b, o, vs, ha, hrow, hvl, rfl⟩ := h.at_ _ _ hx
    refine ⟨by omega, by omega, ptAt_of ha ⟨_, _, hw.row hrow, ?_⟩⟩
    refine (hf x hxm _ w5 rfl hw).mono ?_
    rintro v w6 ⟨rfl, hw6⟩
    refine ⟨_, rfl, ?_⟩
    cases hp : p x with
    | true => exact ⟨_, rfl, by rw [hp] at hstep; rw [any_of_take hstep]; simp, hw.trans hw6⟩
    | false => exact ⟨n - (j + 1), by omega, j + 1, wrap_succ (by omega), by omega, rfl, hw.trans hw6, by rw [hstep, hp]⟩
  · have : j = n := by omega
    subst this
    rw [List.take_of_length_le (by omega)] at hany
    exact ⟨_, rfl, by rw [hany]; decide, hw⟩
theorem hasTwo_w {a : Option Addr} {n c : Nat} {xs : List (Int × Int)} {w : World} {f : Value} (p : (Int × Int) → Bool) (h : RdS 2 RTwo w a n xs) (hf : ∀ x ∈ xs, ∀ vs w1, RTwo w1 vs x → Ext w w1 → CallV Pg f [.agg ⟨vs⟩] w1 fun v w2 => v = .bool (p x) ∧ Ext w1 w2) :
    CallP Pg 68 [.slice a n c, f] w fun v w' => v = .bool (xs.any p) ∧ Ext w w' := by
  refine F68_ok _ _ _ _ ?_
  refine Calls.mono (idxTwo_w p h hf) ?_
  rintro e w' ⟨v, rfl, i, rfl, hi, hx⟩
  exact ⟨_, rfl, _, rfl, by rw [hi], hx⟩
theorem srcI {w : World} {a : Option Addr} {n : Nat} {xs : List Int} (h : RdI w a n xs) : Src w 1 a n (xs.map (Value.int .i64)) := by
  refine ⟨by simp [h.len], ?_⟩
  by_cases h0 : n = 0
  · exact .inl h0
  · right
    have hx : 0 < xs.length := by rw [h.len]; omega
    obtain ⟨b, o, ha, hc⟩ := RdI.at h (i := 0) (List.getElem?_eq_getElem hx)
    refine ⟨b, o, ha, fun j v hj => ?_⟩
    rw [List.getElem?_map] at hj
    obtain ⟨x, hx, rfl⟩ := Option.map_eq_some_iff.1 hj
    obtain ⟨b', o', ha', hc'⟩ := RdI.at h hx
    rw [ha] at ha'
    cases ha'
    have := hc'
    simp only [Nat.mul_one] at this
    exact this
theorem one_ints (xs : List Int) : (xs.map (Value.int .i64)).all (·.oneCell') = true := by simp [Value.oneCell']
theorem cloneI_w {a : Option Addr} {n c : Nat} {xs : List Int} {w : World} (h : RdI w a n xs) (hn : n ≤ 4294967296) :
    CallP Pg 52 [.slice a n c] w fun v w' => ∃ a' c' r, v = .slice a' n c' ∧ Sls 1 a' n c' (xs.map (Value.int .i64)) r ∧ Hp w w' (r.L 3 (xs.map (Value.int .i64))) := by
  refine F52_ok _ _ _ ?_
  refine ⟨a.isNone, ?_, ?_⟩
  · exact eql_slice_nil (e := 3) (by kernel_rfl) _ _ _ _ _ _
  · refine sp_of (fun hnil => ?_) (fun hnil => ?_)
    · have ha : a = none := by cases a with | none => rfl | some _ => cases hnil
      subst ha
      have hn0 : n = 0 := by
        rcases Nat.eq_zero_or_pos n with h0 | h0
        · exact h0
        · obtain ⟨b, o, ha, _⟩ := RdI.at h (i := 0) (List.getElem?_eq_getElem (by rw [h.len]; exact h0))
          cases ha
      subst hn0
      have : xs = [] := List.eq_nil_of_length_eq_zero h.len
      subst this
      exact ⟨none, 0, .emp, rfl, Sls.nil _ _, Hp.refl w⟩
    · refine alp (Hp.refl w) fun b3 w4 h4 => ?_
      obtain ⟨a', c', w', r', h1, h2, h3⟩ := app2 (ty := 34) slInts (by omega) (Sls.nil 1 (some ⟨b3, 0, none⟩)) [] (L := [(b3, Cl 3 [])]) h4 (srcI (RdI.ext h h4.ext)) (one_ints xs) (by simp only [maxLen]; omega) (by omega) (cx := c)
      refine ⟨_, _, _, w', by simpa using h1, a', c', r', rfl, ?_, ?_⟩
      · simpa using h2
      · have := h3.sub (L' := r'.L 3 (xs.map (Value.int .i64))) (by simp)
        exact this
end Go.Pl.Try

/- Maps with integer keys by what they hold, in whatever order. -/
namespace Go.Pl
set_option linter.unusedVariables false
theorem mget_mem {m : List (Int × Value)} {k : Int} {v : Value} (hn : (m.map Prod.fst).Nodup) (h : (k, v) ∈ m) : mget m k = some v := by
  induction m with
  | nil => cases h
  | cons p m ih =>
    simp only [List.map_cons, List.nodup_cons] at hn
    rcases List.mem_cons.1 h with rfl | h
    · simp [mget]
    · have hne : p.1 ≠ k := fun e => hn.1 (List.mem_map.2 ⟨(k, v), h, e.symm⟩)
      have h1 : (p.1 == k) = false := by simp [hne]
      have := ih hn.2 h
      unfold mget at this ⊢
      rw [List.find?_cons, h1]
      exact this
theorem mem_of_mget {m : List (Int × Value)} {k : Int} {v : Value} (h : mget m k = some v) : (k, v) ∈ m := by
  unfold mget at h
  obtain ⟨p, hp, rfl⟩ := Option.map_eq_some_iff.1 h
  have h1 := List.find?_some hp
  have h2 := List.mem_of_find?_eq_some hp
  have : p.1 = k := by simpa using h1
  subst this
  exact h2
theorem mget_none {m : List (Int × Value)} {k : Int} : mget m k = none ↔ ∀ p ∈ m, p.1 ≠ k := by
  unfold mget
  rw [Option.map_eq_none_iff, List.find?_eq_none]
  simp
theorem mget_mput (m : List (Int × Value)) (k x : Int) (v : Value) : mget (mput m k v) x = if x = k then some v else mget m x := by
  unfold mput
  split
  · rename_i h
    induction m with
    | nil => simp at h
    | cons p m ih =>
      by_cases hp : p.1 = k
      · by_cases hx : x = k
        · subst hx; simp [mget, hp]
        · have h1 : (k == x) = false := by simp; exact fun e => hx e.symm
          have h2 : (p.1 == x) = false := by simp [hp]; exact fun e => hx e.symm
          simp only [List.map_cons, hp, if_true, mget, List.find?_cons, h1, hx, if_false]
          -- the rest
          have hrest : ∀ m : List (Int × Value), List.find? (fun p => p.1 == x) (m.map fun p => if p.1 = k then (k, v) else p) = List.find? (fun p => p.1 == x) m := by
            intro m
            induction m with
            | nil => rfl
            | cons q m ih2 =>
              simp only [List.map_cons, List.find?_cons]
              by_cases hq : q.1 = k
              · simp [hq, h1, ih2]
              · simp only [hq, if_false, ih2]
          rw [hrest]
      · have h' : m.any (fun p => p.1 == k) = true := by
          simp only [List.any_cons] at h
          have : (p.1 == k) = false := by simp [hp]
          simpa [this] using h
        have := ih h'
        simp only [List.map_cons, hp, if_false, mget, List.find?_cons] at this ⊢
        by_cases hx : p.1 = x
        · subst hx
          simp [hp]
        · have h1 : (p.1 == x) = false := by simp [hx]
          simp only [h1]
          exact this
  · rename_i h
    by_cases hx : x = k
    · subst hx
      have : m.find? (fun p => p.1 == x) = none := by
        rw [List.find?_eq_none]
        intro p hp hpx
        exact h (List.any_eq_true.2 ⟨p, hp, hpx⟩)
      simp [mget, List.find?_append, this]
    · have : (k == x) = false := by simp; exact fun e => hx e.symm
      simp [mget, List.find?_append, this, hx]
theorem mget_mdel (m : List (Int × Value)) (k x : Int) : mget (mdel m k) x = if x = k then none else mget m x := by
  unfold mdel mget
  by_cases hx : x = k
  · subst hx
    have : (m.filter fun p => !(p.1 == x)).find? (fun p => p.1 == x) = none := by
      rw [List.find?_eq_none]
      intro p hp
      have := (List.mem_filter.1 hp).2
      simpa using this
    simp [this]
  · have : (m.filter fun p => !(p.1 == k)).find? (fun p => p.1 == x) = m.find? (fun p => p.1 == x) := by
      rw [List.find?_filter]
      congr 1
      funext p
      by_cases hp : p.1 = x
      · simp [hp, hx]
      · simp [hp]
    rw [this, if_neg hx]
/-- A map that holds what 'f' says. -/
def MapO (f : Int → Option Value) (o : Obj) : Prop := ∃ m, MpO m o ∧ ∀ k, mget m k = f k
theorem MapO.empty : MapO (fun _ => none) (.map #[] 0) := ⟨[], MpO.empty, fun _ => rfl⟩
theorem MapO.congr {f g : Int → Option Value} {o : Obj} (h : MapO f o) (e : ∀ k, f k = g k) : MapO g o := let ⟨m, h1, h2⟩ := h; ⟨m, h1, fun k => (h2 k).trans (e k)⟩
/-- A map value as an argument. -/
def RMap (w : World) (p : Option Nat) (f : Int → Option Value) : Prop := match p with | none => ∀ k, f k = none | some b => ∃ o, w.heap[b]? = some o ∧ MapO f o
theorem RMap.ext {w w' : World} {p : Option Nat} {f : Int → Option Value} (h : RMap w p f) (hx : Ext w w') : RMap w' p f := by
  cases p with
  | none => exact h
  | some b =>
    obtain ⟨o, h1, h2⟩ := h
    exact ⟨o, by rw [hx.blk b (Array.getElem?_eq_some_iff.1 h1).1]; exact h1, h2⟩
section
variable {P : Program} {w0 w : World} {L : List (Nat × Obj)}
theorem Hp.rmap (h : Hp w0 w L) (i : Nat) {b : Nat} {o : Obj} (hi : L[i]? = some (b, o)) {f : Int → Option Value} (hf : MapO f o) : RMap w (some b) f := ⟨o, h.at i hi, hf⟩
theorem look_map {t e : Nat} (hT : mpT P t e = true) {z : Value} (hz : zeroOf P e = some z) {p : Option Nat} {f : Int → Option Value} (hp : RMap w p f) (k : Int) :
    (Instr.lookup t (.map p) (.int .i64 k) false).run P w = .ok ((f k).getD z) w := by
  cases p with
  | none => rw [look_nil hT hz k false w]; simp [hp k]
  | some b =>
    obtain ⟨o, h1, m, h2, h3⟩ := hp
    rw [look_run hT hz h2 h1 k false, ← h3]; simp
theorem look_map2 {t e : Nat} (hT : mpT P t e = true) {z : Value} (hz : zeroOf P e = some z) {p : Option Nat} {f : Int → Option Value} (hp : RMap w p f) (k : Int) :
    (Instr.lookup t (.map p) (.int .i64 k) true).run P w = .ok (.tuple ⟨[(f k).getD z, .bool (f k).isSome]⟩) w := by
  cases p with
  | none => rw [look_nil hT hz k true w]; simp [hp k]
  | some b =>
    obtain ⟨o, h1, m, h2, h3⟩ := hp
    rw [look_run hT hz h2 h1 k true, ← h3]; simp
theorem upd_map {t e : Nat} (hT : mpT P t e = true) (h : Hp w0 w L) (i : Nat) {b : Nat} {o : Obj} {f : Int → Option Value} (hi : L[i]? = some (b, o)) (hm : MapO f o) (k : Int) (v : Value) :
    ∃ w' o', (Instr.mapUpdate t (.map (some b)) (.int .i64 k) v).run P w = .ok () w' ∧ MapO (fun x => if x = k then some v else f x) o' ∧ Hp w0 w' (L.set i (b, o')) := by
  obtain ⟨m, h1, h2⟩ := hm
  obtain ⟨w', o', h3, h4, h5⟩ := upd_run hT h i hi h1 k v
  exact ⟨w', o', h3, ⟨_, h4, fun x => by rw [mget_mput, h2]⟩, h5⟩
theorem erase_map {α β : Type} (f : α → β) : ∀ (l : List α) (j : Nat), (l.eraseIdx j).map f = (l.map f).eraseIdx j
  | [], j => by simp
  | a :: l, 0 => by simp
  | a :: l, j + 1 => by simp [erase_map f l j]
theorem mpo_del {es : Array MapEntry} {c : Nat} {m : List (Int × Value)} {j : Nat} {k : Int} (hm : MpO m (.map es c)) (hj : m.findIdx? (fun p => p.1 == k) = some j) :
    MpO (mdel m k) (.map (es.eraseIdxIfInBounds j) c) ∧ ∃ e, es.toList[j]? = some e ∧ e.key = .int .i64 k ∧ (es.eraseIdxIfInBounds j).toList = es.toList.filter fun x => !(x.born == e.born) := by
  obtain ⟨es', c', he', he, hnd, hbn, hcl⟩ := hm
  cases he'
  obtain ⟨hjm, hjk, hjf⟩ := List.findIdx?_eq_some_iff_getElem.1 hj
  have hlen : es.toList.length = m.length := by simpa using congrArg List.length he
  have hje : j < es.toList.length := by omega
  have hjs : j < es.size := by simpa using hje
  have herase : (es.eraseIdxIfInBounds j).toList = es.toList.eraseIdx j := by
    simp [Array.eraseIdxIfInBounds, hjs]
  have hmerase : mdel m k = m.eraseIdx j := by
    unfold mdel
    have hk : m[j].1 = k := by simpa using hjk
    clear he hlen hje hj hjs herase hjk
    induction m generalizing j with
    | nil => simp at hjm
    | cons p m ih =>
      simp only [List.map_cons, List.nodup_cons] at hnd
      cases j with
      | zero =>
        simp only [List.getElem_cons_zero] at hk
        have : m.filter (fun p => !(p.1 == k)) = m := by
          apply List.filter_eq_self.2
          intro q hq
          simp only [Bool.not_eq_true', beq_eq_false_iff_ne]
          intro e
          exact hnd.1 (by rw [hk, ← e]; exact List.mem_map_of_mem hq)
        simp [List.filter_cons, hk, this]
      | succ j =>
        simp only [List.getElem_cons_succ] at hk
        have hp : p.1 ≠ k := fun e => hnd.1 (by rw [e, ← hk]; exact List.mem_map_of_mem (List.getElem_mem _))
        simp only [List.filter_cons, hp, beq_iff_eq, Bool.not_eq_true', beq_eq_false_iff_ne, ne_eq, not_false_eq_true, if_true, List.eraseIdx_cons_succ]
        congr 1
        refine ih hnd.2 (by simpa using hjm) ?_ hk
        intro j' hlt
        have := hjf (j' + 1) (by omega)
        simpa using this
  have hkv : (es.toList[j]'hje).key = .int .i64 k := by
    have := congrArg (fun l => l[j]?) he
    simp only [List.getElem?_map, List.getElem?_eq_getElem hje, List.getElem?_eq_getElem hjm, Option.map_some, Option.some.injEq, Prod.mk.injEq] at this
    rw [this.1]
    have : m[j].1 = k := by simpa using hjk
    rw [this]
  have hfil : es.toList.eraseIdx j = es.toList.filter fun x => !(x.born == (es.toList[j]'hje).born) := by
    clear hcl he hlen hjs herase hkv
    generalize es.toList = l at hbn hje
    clear hjm hjf hjk hj hmerase
    induction l generalizing j with
    | nil => simp at hje
    | cons p l ih =>
      simp only [List.map_cons, List.nodup_cons] at hbn
      cases j with
      | zero =>
        have : l.filter (fun x => !(x.born == p.born)) = l := by
          apply List.filter_eq_self.2
          intro q hq
          simp only [Bool.not_eq_true', beq_eq_false_iff_ne]
          intro e
          exact hbn.1 (by rw [← e]; exact List.mem_map_of_mem hq)
        simp [List.filter_cons, this]
      | succ j =>
        have hlt : j < l.length := by simpa using hje
        have hp : p.born ≠ l[j].born := fun e => hbn.1 (by rw [e]; exact List.mem_map_of_mem (List.getElem_mem _))
        simp only [List.getElem_cons_succ, List.eraseIdx_cons_succ]
        rw [List.filter_cons_of_pos (by simp [hp])]
        congr 1
        exact ih hbn.2 hlt
  refine ⟨⟨_, c, rfl, ?_, ?_, ?_, ?_⟩, es.toList[j]'hje, List.getElem?_eq_getElem hje, hkv, by rw [herase, hfil]⟩
  · rw [herase, hmerase, erase_map, erase_map, he]
  · exact hnd.sublist (by unfold mdel; exact List.Sublist.map _ List.filter_sublist)
  · rw [herase, hfil]; exact hbn.sublist (List.Sublist.map _ List.filter_sublist)
  · intro x hx
    rw [herase, hfil] at hx
    exact hcl x (List.mem_filter.1 hx).1
/-- A key goes from a map that is gone through; it has been come to already, or there is none. -/
theorem del_rg {t e kt2 ty : Nat} (hT : mpT P t e = true) (h : Hp w0 w L) (i : Nat) {b : Nat} {om oi : Obj} {m left : List (Int × Value)} (hi : L[i]? = some (b, om)) (hr : Rg b m left om oi) (k : Int) (hk : ∀ p ∈ left, p.1 ≠ k) :
    ∃ w' om', (Builtin.delete_ #[t, kt2] ty ⟨[.map (some b), .int .i64 k]⟩).run P w = .ok (.tuple #[]) w' ∧ Rg b (mdel m k) left om' oi ∧ Hp w0 w' (L.set i (b, om')) := by
  obtain ⟨kt, ht, hkk⟩ := mpT_inv hT
  obtain ⟨es, c, seen, rfl, hm, rfl, hperm⟩ := hr
  have hb := h.at i hi
  have he : es.toList.map (fun e => (e.key, e.val)) = m.map (fun p => (Value.int .i64 p.1, p.2)) := by
    obtain ⟨_, _, e1, e2, _⟩ := hm; cases e1; exact e2
  rcases idx_cases k m with ⟨j, v, h1, h2, h3⟩ | ⟨h1, h2, h3⟩
  · obtain ⟨hm', x, hx, hxk, hes⟩ := mpo_del hm h1
    obtain ⟨w', hrn, hs, hb', ho⟩ := setObj_run (P := P) hb (.map (es.eraseIdxIfInBounds j) c)
    refine ⟨w', _, ?_, ⟨_, c, seen, rfl, hm', rfl, ?_⟩, h.turn i hi hs hb' ho⟩
    · simp [Builtin.delete_, run_und w ht, getObj_run hb, checkKey_run hkk, findKey_run hkk he, h1, h2, hrn]
    · have : (es.eraseIdxIfInBounds j).toList.filter (fun e => !seen.contains e.born) = es.toList.filter fun e => !seen.contains e.born := by
        rw [hes, List.filter_filter]
        apply List.filter_congr
        intro y hy
        by_cases hyb : y.born = x.born
        · -- it is the one
          have hbn : (es.toList.map MapEntry.born).Nodup := by obtain ⟨_, _, e1, _, _, e2, _⟩ := hm; cases e1; exact e2
          have hf1 := born_find hbn (e := x) (List.mem_of_getElem? hx)
          have hf2 := born_find hbn (e := y) hy
          rw [hyb, hf1] at hf2
          cases hf2
          have : seen.contains x.born = true := by
            cases hc : seen.contains x.born with
            | true => rfl
            | false =>
              exfalso
              have hmem : x ∈ es.toList.filter fun e => !seen.contains e.born := List.mem_filter.2 ⟨hy, by rw [hc]; rfl⟩
              have := hperm.subset (List.mem_map.2 ⟨x, hmem, rfl⟩)
              obtain ⟨q, hq, hqe⟩ := List.mem_map.1 this
              simp only [Prod.mk.injEq] at hqe
              have hqk := hqe.1
              rw [hxk] at hqk
              cases hqk
              exact hk q hq rfl
          have h2' : x.born ∈ seen := by simpa using this
          simp [h2']
        · simp [hyb]
      rw [this]; exact hperm
  · obtain ⟨w', hrn, hs, hb', ho⟩ := setObj_run (P := P) hb (.map es c)
    have hmd : mdel m k = m := by
      unfold mdel
      apply List.filter_eq_self.2
      intro q hq
      simpa using h3 q hq
    refine ⟨w', _, ?_, ⟨es, c, seen, rfl, by rw [hmd]; exact hm, rfl, hperm⟩, h.turn i hi hs hb' ho⟩
    simp [Builtin.delete_, run_und w ht, getObj_run hb, checkKey_run hkk, findKey_run hkk he, h1, hrn]
/-- Going through a map that stays: 'left' is what is still to come of 'm'. -/
def Going (w : World) (p : Option Nat) (m left : List (Int × Value)) (oi : Obj) : Prop :=
  match p with
  | none => m = [] ∧ left = [] ∧ oi = .mapIter none 0 #[] 0
  | some b => ∃ om, w.heap[b]? = some om ∧ Rg b m left om oi
theorem go_range {t e : Nat} (hT : mpT P t e = true) (h : Hp w0 w L) {p : Option Nat} {f : Int → Option Value} (hp : RMap w p f) :
    ∃ r w' oi m, (Instr.range t (.map p)).run P w = .ok (.pointer (some ⟨r, 0, none⟩)) w' ∧ Hp w0 w' ((r, oi) :: L) ∧ Going w' p m m oi ∧ (∀ k, mget m k = f k) ∧ (m.map Prod.fst).Nodup ∧ Ext w w' ∧ ∀ b, p = some b → r ≠ b := by
  cases p with
  | none =>
    obtain ⟨kt, ht, hk⟩ := mpT_inv hT
    refine ⟨w.heap.size, w.alloc (.mapIter none 0 #[] 0), .mapIter none 0 #[] 0, [], ?_, h.al _, ⟨rfl, rfl, rfl⟩, fun k => by rw [hp k]; rfl, by simp, ext_alloc w _, fun b hb => by cases hb⟩
    unfold Instr.range
    simp only [Sem.run_bind, run_und w ht, Result.andThen_ok, Sem.run_pure]
    rfl
  | some b =>
    obtain ⟨o, h1, m, h2, h3⟩ := hp
    obtain ⟨r, w', oi, h4, h5, h6, h7⟩ := range_run hT h h1 h2
    have hlt := (Array.getElem?_eq_some_iff.1 h1).1
    refine ⟨r, w', oi, m, h4, h5, ⟨o, by rw [h7.blk b hlt]; exact h1, h6⟩, h3, ?_, h7, ?_⟩
    · obtain ⟨_, _, _, _, e2, _⟩ := h2; exact e2
    · intro b' hb' e2
      cases hb'
      subst e2
      have h8 := h5.at 0 rfl
      rw [h7.blk r hlt, h1] at h8
      obtain ⟨es, cl, seen, e3, _, e4, _⟩ := h6
      cases h8
      rw [e3] at e4
      cases e4
theorem go_next {ty : Nat} (h : Hp w0 w L) (i : Nat) {r : Nat} {oi : Obj} (hi : L[i]? = some (r, oi)) {p : Option Nat} {m left : List (Int × Value)} (hrb : ∀ b, p = some b → r ≠ b) (hg : Going w p m left oi) :
    (left = [] ∧ (Instr.next (.pointer (some ⟨r, 0, none⟩)) false ty).run P w = .ok (.tuple ⟨[.bool false]⟩) w) ∨
    ∃ k v left' w' oi', left.Perm ((k, v) :: left') ∧ (Instr.next (.pointer (some ⟨r, 0, none⟩)) false ty).run P w = .ok (.tuple ⟨[.bool true, .int .i64 k, v]⟩) w' ∧ Hp w0 w' (L.set i (r, oi')) ∧ Going w' p m left' oi' ∧ (k, v) ∈ m ∧
      (Instr.entry (.pointer (some ⟨r, 0, none⟩))).run P w' = .ok (.tuple ⟨[.int .i64 k, v]⟩) w' ∧ w'.heap.size = w.heap.size ∧ ∀ b, b ≠ r → w'.heap[b]? = w.heap[b]? := by
  cases p with
  | none =>
    obtain ⟨rfl, rfl, rfl⟩ := hg
    left
    refine ⟨rfl, ?_⟩
    have g1 : (getObj r).run P w = .ok (.mapIter none 0 #[] 0) w := by simp [getObj, Sem.run, h.at i hi]
    unfold Instr.next
    simp only [Sem.run_bind, Sem.run_pure, g1, Result.andThen_ok]
  | some b =>
    obtain ⟨om, hb, hr⟩ := hg
    have hrb' := hrb b rfl
    rcases next_run (P := P) (ty := ty) h i hi hb hrb' hr with ⟨h1, h2⟩ | ⟨k, v, left', w', oi', h1, h2, h3, h4, h5, h6, h7, h8⟩
    · exact .inl ⟨h1, h2⟩
    · exact .inr ⟨k, v, left', w', oi', h1, h2, h3, ⟨om, by rw [h8 b (Ne.symm hrb')]; exact hb, h4⟩, h5, h6, h7, h8⟩
end
end Go.Pl

/- What 'palings/ssa.after' does, read off its translation by gen.py. -/
namespace Go.Pl.Try
set_option linter.unusedVariables false
set_option maxRecDepth 100000
def F56 (in1 : Option Nat) (ab2 : Option Addr) (nb2 cb2 : Nat) (ab3 : Option Addr) (nb3 cb3 : Nat) (b4 : Int) (b5 : Int) (ab6 : Option Addr) (nb6 cb6 : Nat) (b7 : Int) (w : World) (R : Value → World → Prop) : Prop :=
  AlP 47 [.slice ab2 nb2 cb2, .slice ab3 nb3 cb3, .int .i64 b4, .int .i64 b5, .slice ab6 nb6 cb6, .int .i64 b7] w fun b8 w9 =>
  AlM w9 fun b10 w11 =>
  ∃ (x12 : Option Addr), ∃ w13 : World, Sem.run Pg (Instr.range 56 (.map in1)) w11 = .ok (.pointer x12) w13 ∧
  ∃ J14 : World → Nat → Prop, (∃ m16, J14 w13 m16) ∧
  ∀ w15 m16, J14 w15 m16 →
  (∃ w18 : World, Sem.run Pg (Instr.next (.pointer x12) false 0) w15 = .ok (.tuple ⟨[.bool false]⟩) w18 ∧
  ∃ (ax25 : Option Addr) (nx25 cx25 : Nat), cel w18 b8 0 = some (.slice ax25 nx25 cx25) ∧
  ∃ J26 : Int → World → Nat → Prop, (∃ m29, J26 0 w18 m29) ∧
  ∀ (x27 : Int), ∀ w28 m29, J26 x27 w28 m29 →
  sp (decide ((x27 : Int) < (nx25 : Nat)))
  (0 ≤ (x27 : Int) ∧ (x27 : Int) < (nx25 : Nat) ∧
  ptAt ax25 fun b31 o32 =>
  ∃ (x33 : Int), cel w28 b31 (o32 + x27.toNat * 1) = some (.int .i64 x33) ∧
  ∃ w34 : World, Sem.run Pg (Instr.mapUpdate 56 (.map (some b10)) (.int .i64 x33) (.bool true)) w28 = .ok () w34 ∧
  ∃ m30, m30 < m29 ∧ J26 (IntKind.wrap .i64 (x27 + 1)) w34 m30)
  (∃ (ax35 : Option Addr) (nx35 cx35 : Nat), cel w28 b8 1 = some (.slice ax35 nx35 cx35) ∧
  ∃ J36 : Int → World → Nat → Prop, (∃ m39, J36 0 w28 m39) ∧
  ∀ (x37 : Int), ∀ w38 m39, J36 x37 w38 m39 →
  sp (decide ((x37 : Int) < (nx35 : Nat)))
  (∀ K41 : World → Prop, (∀ w42, (
  ∃ m40, m40 < m39 ∧ J36 (IntKind.wrap .i64 (x37 + 1)) w42 m40) → K41 w42) →
  0 ≤ (x37 : Int) ∧ (x37 : Int) < (nx35 : Nat) ∧
  ptAt ax35 fun b43 o44 =>
  ∃ (x45 : Int) (x46 : Int) (ax47 : Option Addr) (nx47 cx47 : Nat) (x48 : Int) (x49 : Int) (x50 : Int) (x51 : Int), Row w38 b43 (o44 + x37.toNat * 7) [.int .i64 x45, .int .i64 x46, .slice ax47 nx47 cx47, .int .i64 x48, .int .i64 x49, .int .i64 x50, .int .i64 x51] ∧
  AlP 37 [.int .i64 0, .int .i64 0, .slice none 0 0, .int .i64 0, .int .i64 0, .int .i64 0, .int .i64 0] w38 fun b52 w53 =>
  StP b52 0 [.int .i64 x45, .int .i64 x46, .slice ax47 nx47 cx47, .int .i64 x48, .int .i64 x49, .int .i64 x50, .int .i64 x51] w53 fun w54 =>
  ∃ (x55 : Int), cel w54 b52 1 = some (.int .i64 x55) ∧
  sp (!decide ((x55 : Int) = 0))
  (∃ (x56 : Int), cel w54 b52 1 = some (.int .i64 x56) ∧
  ∃ w57 : World, Sem.run Pg (Instr.mapUpdate 56 (.map (some b10)) (.int .i64 x56) (.bool true)) w54 = .ok () w57 ∧
  K41 w57)
  (K41 w54))
  (R (.map (some b10)) w38))) ∨
  (∃ (k20 v21 : Value) (w19 : World), Sem.run Pg (Instr.next (.pointer x12) false 0) w15 = .ok (.tuple ⟨[.bool true, k20, v21]⟩) w19 ∧
  ∃ (x58 : Int) (x59 : Bool), Sem.run Pg (Instr.entry (.pointer x12)) w19 = .ok (.tuple ⟨[.int .i64 x58, .bool x59]⟩) w19 ∧
  ∃ w60 : World, Sem.run Pg (Instr.mapUpdate 56 (.map (some b10)) (.int .i64 x58) (.bool true)) w19 = .ok () w60 ∧
  ∃ m17, m17 < m16 ∧ J14 w60 m17)
def T56 : List Sh := [.v (.one .map), .v (.agg [.sl, .sl, (.int .i64), (.int .i64), .sl, (.int .i64)]), .v (.one .any), .v (.one .ptr), .v (.one .map), .v (.one .map), .v (.one (.int .i64)), .v (.one .any), .v (.one (.int .i64)), .v (.one .any), .v (.one .ptr), .v (.one .map), .v (.one .map), .v (.one .ptr), .v (.one .any), .v (.one .bool), .t [(.one (.int .i64)), (.one .bool)], .v (.one (.int .i64)), .v (.one .map), .v (.one (.int .i64)), .v (.one .ptr), .v (.one .sl), .v (.one (.int .i64)), .v (.one (.int .i64)), .v (.one .bool), .v (.one .ptr), .v (.one (.int .i64)), .v (.one .map), .v (.one (.int .i64)), .v (.one (.int .i64)), .v (.one .ptr), .v (.one .sl), .v (.one (.int .i64)), .v (.one (.int .i64)), .v (.one .bool), .v (.one .ptr), .v (.agg [(.int .i64), (.int .i64), .sl, (.int .i64), (.int .i64), (.int .i64), (.int .i64)]), .v (.one .ptr), .v (.one (.int .i64)), .v (.one .bool), .v (.one .map), .v (.one .ptr), .v (.one (.int .i64)), .v (.one (.int .i64)), .v (.one .map)]
def A56 : Ann := (.seq none .z (.seq none .z (.seq none (.seq none .z (.block none (.loop [] (.seq none .z (.seq none (.cond .z .z) (.block none (.seq none .z .z))))))) (.seq none (.seq none .z (.block none (.loop [23] (.seq none .z (.seq none (.cond .z .z) (.seq none (.block none (.seq none .z .z)) .z)))))) (.seq none (.seq none .z (.block none (.loop [33] (.seq none .z (.seq none (.cond .z .z) (.seq none (.block (some []) (.seq none .z (.seq none .z (.cond .z .z)))) .z)))))) (.seq none .z .z))))))
theorem F56_eq (in1 : Option Nat) (ab2 : Option Addr) (nb2 cb2 : Nat) (ab3 : Option Addr) (nb3 cb3 : Nat) (b4 : Int) (b5 : Int) (ab6 : Option Addr) (nb6 cb6 : Nat) (b7 : Int) (w : World) (R : Value → World → Prop) : F56 in1 ab2 nb2 cb2 ab3 nb3 cb3 b4 b5 ab6 nb6 cb6 b7 w R = denF Go.Proofs.Try.prog T56 Go.Proofs.Try.f56 A56 [.map in1, .agg ⟨[.slice ab2 nb2 cb2, .slice ab3 nb3 cb3, .int .i64 b4, .int .i64 b5, .slice ab6 nb6 cb6, .int .i64 b7]⟩] w R := by kernel_rfl
theorem F56_ok (in1 : Option Nat) (ab2 : Option Addr) (nb2 cb2 : Nat) (ab3 : Option Addr) (nb3 cb3 : Nat) (b4 : Int) (b5 : Int) (ab6 : Option Addr) (nb6 cb6 : Nat) (b7 : Int) {w : World} {R : Value → World → Prop} (h : F56 in1 ab2 nb2 cb2 ab3 nb3 cb3 b4 b5 ab6 nb6 cb6 b7 w R) : CallP Go.Proofs.Try.prog 56 [.map in1, .agg ⟨[.slice ab2 nb2 cb2, .slice ab3 nb3 cb3, .int .i64 b4, .int .i64 b5, .slice ab6 nb6 cb6, .int .i64 b7]⟩] w R :=
  calls_den (fun _ => drawn (by kernel_rfl)) Go.Proofs.Try.func56 (Nat.le_of_ble_eq_true (by kernel_rfl)) ((F56_eq in1 ab2 nb2 cb2 ab3 nb3 cb3 b4 b5 ab6 nb6 cb6 b7 w R).mp h)
end Go.Pl.Try

/- What 'palings/ssa.used' does, read off its translation by gen.py. -/
namespace Go.Pl.Try
set_option linter.unusedVariables false
set_option maxRecDepth 100000
def F32 (x1 : Option Nat) (ax2 : Option Addr) (nx2 cx2 : Nat) (ax3 : Option Addr) (nx3 cx3 : Nat) (x4 : Int) (x5 : Int) (ax6 : Option Addr) (nx6 cx6 : Nat) (x7 : Int) (w : World) (R : Value → World → Prop) : Prop :=
  AlP 47 [.slice ax2 nx2 cx2, .slice ax3 nx3 cx3, .int .i64 x4, .int .i64 x5, .slice ax6 nx6 cx6, .int .i64 x7] w fun b8 w9 =>
  AlM w9 fun b10 w11 =>
  AlP 56 [.map none] w11 fun b12 w13 =>
  StP b12 0 [.map (some b10)] w13 fun w14 =>
  ∃ (x15 : Option Addr), ∃ w16 : World, Sem.run Pg (Instr.range 56 (.map x1)) w14 = .ok (.pointer x15) w16 ∧
  ∃ J17 : World → Nat → Prop, (∃ m19, J17 w16 m19) ∧
  ∀ w18 m19, J17 w18 m19 →
  (∃ w21 : World, Sem.run Pg (Instr.next (.pointer x15) false 0) w18 = .ok (.tuple ⟨[.bool false]⟩) w21 ∧
  ∃ (ax29 : Option Addr) (nx29 cx29 : Nat), cel w21 b8 0 = some (.slice ax29 nx29 cx29) ∧
  ∃ J30 : Int → World → Nat → Prop, (∃ m33, J30 0 w21 m33) ∧
  ∀ (x31 : Int), ∀ w32 m33, J30 x31 w32 m33 →
  sp (decide ((x31 : Int) < (nx29 : Nat)))
  (0 ≤ (x31 : Int) ∧ (x31 : Int) < (nx29 : Nat) ∧
  ptAt ax29 fun b35 o36 =>
  ∃ (x37 : Int), cel w32 b35 (o36 + x31.toNat * 1) = some (.int .i64 x37) ∧
  ∃ (x38 : Option Nat), cel w32 b12 0 = some (.map x38) ∧
  ∃ w39 : World, Sem.run Pg (Instr.mapUpdate 56 (.map x38) (.int .i64 x37) (.bool true)) w32 = .ok () w39 ∧
  ∃ m34, m34 < m33 ∧ J30 (IntKind.wrap .i64 (x31 + 1)) w39 m34)
  (∃ (ax40 : Option Addr) (nx40 cx40 : Nat), cel w32 b8 1 = some (.slice ax40 nx40 cx40) ∧
  ∃ J41 : Int → World → Nat → Prop, (∃ m44, J41 0 w32 m44) ∧
  ∀ (x42 : Int), ∀ w43 m44, J41 x42 w43 m44 →
  sp (decide ((x42 : Int) < (nx40 : Nat)))
  (∀ K46 : World → Prop, (∀ w47, (
  ∃ m45, m45 < m44 ∧ J41 (IntKind.wrap .i64 (x42 + 1)) w47 m45) → K46 w47) →
  0 ≤ (x42 : Int) ∧ (x42 : Int) < (nx40 : Nat) ∧
  ptAt ax40 fun b48 o49 =>
  ∃ (x50 : Int) (x51 : Int) (ax52 : Option Addr) (nx52 cx52 : Nat) (x53 : Int) (x54 : Int) (x55 : Int) (x56 : Int), Row w43 b48 (o49 + x42.toNat * 7) [.int .i64 x50, .int .i64 x51, .slice ax52 nx52 cx52, .int .i64 x53, .int .i64 x54, .int .i64 x55, .int .i64 x56] ∧
  AlP 37 [.int .i64 0, .int .i64 0, .slice none 0 0, .int .i64 0, .int .i64 0, .int .i64 0, .int .i64 0] w43 fun b57 w58 =>
  StP b57 0 [.int .i64 x50, .int .i64 x51, .slice ax52 nx52 cx52, .int .i64 x53, .int .i64 x54, .int .i64 x55, .int .i64 x56] w58 fun w59 =>
  ∃ (ax60 : Option Addr) (nx60 cx60 : Nat), cel w59 b57 2 = some (.slice ax60 nx60 cx60) ∧
  CallV Pg (.func (.func 58) ⟨[]⟩ ⟨[.pointer (some ⟨b12, 0, none⟩)]⟩) [.slice ax60 nx60 cx60] w59 fun v61 w62 => ∃ (x63 : Bool), v61 = .bool x63 ∧
  sp (!x63)
  (R (.bool false) w62)
  (∃ (x64 : Int), cel w62 b57 1 = some (.int .i64 x64) ∧
  sp (!decide ((x64 : Int) = 0))
  (∃ (x65 : Option Nat), cel w62 b12 0 = some (.map x65) ∧
  ∃ (x66 : Int), cel w62 b57 1 = some (.int .i64 x66) ∧
  ∃ w67 : World, Sem.run Pg (Instr.mapUpdate 56 (.map x65) (.int .i64 x66) (.bool true)) w62 = .ok () w67 ∧
  K46 w67)
  (K46 w62)))
  (∃ (ax68 : Option Addr) (nx68 cx68 : Nat), cel w43 b8 4 = some (.slice ax68 nx68 cx68) ∧
  ∃ J69 : Int → World → Nat → Prop, (∃ m72, J69 0 w43 m72) ∧
  ∀ (x70 : Int), ∀ w71 m72, J69 x70 w71 m72 →
  sp (decide ((x70 : Int) < (nx68 : Nat)))
  (0 ≤ (x70 : Int) ∧ (x70 : Int) < (nx68 : Nat) ∧
  ptAt ax68 fun b74 o75 =>
  ∃ (x76 : Int) (ax77 : Option Addr) (nx77 cx77 : Nat), Row w71 b74 (o75 + x70.toNat * 2) [.int .i64 x76, .slice ax77 nx77 cx77] ∧
  AlP 41 [.int .i64 0, .slice none 0 0] w71 fun b78 w79 =>
  StP b78 0 [.int .i64 x76, .slice ax77 nx77 cx77] w79 fun w80 =>
  ∃ (ax81 : Option Addr) (nx81 cx81 : Nat), cel w80 b78 1 = some (.slice ax81 nx81 cx81) ∧
  CallV Pg (.func (.func 58) ⟨[]⟩ ⟨[.pointer (some ⟨b12, 0, none⟩)]⟩) [.slice ax81 nx81 cx81] w80 fun v82 w83 => ∃ (x84 : Bool), v82 = .bool x84 ∧
  sp (!x84)
  (R (.bool false) w83)
  (∃ m73, m73 < m72 ∧ J69 (IntKind.wrap .i64 (x70 + 1)) w83 m73))
  (∃ (x85 : Int), cel w71 b8 3 = some (.int .i64 x85) ∧
  sp (decide ((x85 : Int) = 0))
  (R (.bool true) w71)
  (∃ (x86 : Option Nat), cel w71 b12 0 = some (.map x86) ∧
  ∃ (x87 : Int), cel w71 b8 3 = some (.int .i64 x87) ∧
  ∃ (x88 : Bool), Sem.run Pg (Instr.lookup 56 (.map x86) (.int .i64 x87) false) w71 = .ok (.bool x88) w71 ∧
  R (.bool x88) w71))))) ∨
  (∃ (k23 v24 : Value) (w22 : World), Sem.run Pg (Instr.next (.pointer x15) false 0) w18 = .ok (.tuple ⟨[.bool true, k23, v24]⟩) w22 ∧
  ∃ (x89 : Int) (x90 : Bool), Sem.run Pg (Instr.entry (.pointer x15)) w22 = .ok (.tuple ⟨[.int .i64 x89, .bool x90]⟩) w22 ∧
  ∃ (x91 : Option Nat), cel w22 b12 0 = some (.map x91) ∧
  ∃ w92 : World, Sem.run Pg (Instr.mapUpdate 56 (.map x91) (.int .i64 x89) (.bool true)) w22 = .ok () w92 ∧
  ∃ m20, m20 < m19 ∧ J17 w92 m20)
def T32 : List Sh := [.v (.one .map), .v (.agg [.sl, .sl, (.int .i64), (.int .i64), .sl, (.int .i64)]), .v (.one .any), .v (.one .ptr), .v (.one .bool), .v (.one .ptr), .v (.one (.int .i64)), .v (.one .any), .v (.one (.int .i64)), .v (.one .any), .v (.one .any), .v (.one .ptr), .v (.one .any), .v (.one .ptr), .v (.one .map), .v (.one .map), .v (.one .ptr), .v (.one .any), .v (.one .bool), .t [(.one (.int .i64)), (.one .bool)], .v (.one (.int .i64)), .v (.one .map), .v (.one (.int .i64)), .v (.one .ptr), .v (.one .sl), .v (.one (.int .i64)), .v (.one (.int .i64)), .v (.one .bool), .v (.one .ptr), .v (.one (.int .i64)), .v (.one .map), .v (.one (.int .i64)), .v (.one (.int .i64)), .v (.one .any), .v (.one .ptr), .v (.one .sl), .v (.one (.int .i64)), .v (.one (.int .i64)), .v (.one .bool), .v (.one .ptr), .v (.agg [(.int .i64), (.int .i64), .sl, (.int .i64), (.int .i64), (.int .i64), (.int .i64)]), .v (.one .any), .v (.one .ptr), .v (.one .sl), .v (.one .bool), .v (.one .bool), .v (.one .ptr), .v (.one (.int .i64)), .v (.one .bool), .v (.one .map), .v (.one .ptr), .v (.one (.int .i64)), .v (.one (.int .i64)), .v (.one .ptr), .v (.one .ptr), .v (.one .sl), .v (.one (.int .i64)), .v (.one (.int .i64)), .v (.one .bool), .v (.one .ptr), .v (.agg [(.int .i64), .sl]), .v (.one .any), .v (.one .ptr), .v (.one .sl), .v (.one .bool), .v (.one .bool), .v (.one (.int .i64)), .v (.one .ptr), .v (.one .ptr), .v (.one (.int .i64)), .v (.one .bool), .v (.one .bool), .v (.one .map), .v (.one .ptr), .v (.one .ptr), .v (.one (.int .i64)), .v (.one .bool), .v (.one .bool)]
def A32 : Ann := (.seq none .z (.seq none .z (.seq none (.seq none .z (.block none (.loop [] (.seq none .z (.seq none (.cond .z .z) (.block none (.seq none .z .z))))))) (.seq none (.seq none .z (.block none (.loop [26] (.seq none .z (.seq none (.cond .z .z) (.seq none (.block none (.seq none .z .z)) .z)))))) (.seq none .z (.seq none (.seq none .z (.block none (.loop [37] (.seq none .z (.seq none (.cond .z .z) (.seq none (.block (some []) (.seq none .z (.seq none (.seq none .z (.cond (.seq none .z .z) .z)) (.seq none .z (.cond .z .z))))) .z)))))) (.seq none (.seq none .z (.block none (.loop [57] (.seq none .z (.seq none (.cond .z .z) (.seq none (.block none (.seq none .z (.seq none .z (.cond (.seq none .z .z) .z)))) .z)))))) (.seq none .z .z))))))))
theorem F32_eq (x1 : Option Nat) (ax2 : Option Addr) (nx2 cx2 : Nat) (ax3 : Option Addr) (nx3 cx3 : Nat) (x4 : Int) (x5 : Int) (ax6 : Option Addr) (nx6 cx6 : Nat) (x7 : Int) (w : World) (R : Value → World → Prop) : F32 x1 ax2 nx2 cx2 ax3 nx3 cx3 x4 x5 ax6 nx6 cx6 x7 w R = denF Go.Proofs.Try.prog T32 Go.Proofs.Try.f32 A32 [.map x1, .agg ⟨[.slice ax2 nx2 cx2, .slice ax3 nx3 cx3, .int .i64 x4, .int .i64 x5, .slice ax6 nx6 cx6, .int .i64 x7]⟩] w R := by kernel_rfl
theorem F32_ok (x1 : Option Nat) (ax2 : Option Addr) (nx2 cx2 : Nat) (ax3 : Option Addr) (nx3 cx3 : Nat) (x4 : Int) (x5 : Int) (ax6 : Option Addr) (nx6 cx6 : Nat) (x7 : Int) {w : World} {R : Value → World → Prop} (h : F32 x1 ax2 nx2 cx2 ax3 nx3 cx3 x4 x5 ax6 nx6 cx6 x7 w R) : CallP Go.Proofs.Try.prog 32 [.map x1, .agg ⟨[.slice ax2 nx2 cx2, .slice ax3 nx3 cx3, .int .i64 x4, .int .i64 x5, .slice ax6 nx6 cx6, .int .i64 x7]⟩] w R :=
  calls_den (fun _ => drawn (by kernel_rfl)) Go.Proofs.Try.func32 (Nat.le_of_ble_eq_true (by kernel_rfl)) ((F32_eq x1 ax2 nx2 cx2 ax3 nx3 cx3 x4 x5 ax6 nx6 cx6 x7 w R).mp h)
end Go.Pl.Try

/- What 'palings/ssa.used$1' does, read off its translation by gen.py. -/
namespace Go.Pl.Try
set_option linter.unusedVariables false
set_option maxRecDepth 100000
def F58 (alist1 : Option Addr) (nlist1 clist1 : Nat) (b2 : Nat) (o3 : Nat) (w : World) (R : Value → World → Prop) : Prop :=
  CallP Pg 41 [.slice alist1 nlist1 clist1, .func (.func 59) ⟨[]⟩ ⟨[.pointer (some ⟨b2, o3, none⟩)]⟩] w fun v4 w5 => ∃ (x6 : Bool), v4 = .bool x6 ∧
  R (.bool (!x6)) w5
def T58 : List Sh := [.v (.one .sl), .v (.one .ptr), .v (.one .any), .v (.one .bool), .v (.one .sl), .v (.one .any), .v (.one .bool), .v (.one .bool)]
def A58 : Ann := (.seq none .z (.seq none .z .z))
theorem F58_eq (alist1 : Option Addr) (nlist1 clist1 : Nat) (b2 : Nat) (o3 : Nat) (w : World) (R : Value → World → Prop) : F58 alist1 nlist1 clist1 b2 o3 w R = denF Go.Proofs.Try.prog T58 Go.Proofs.Try.f58 A58 [.slice alist1 nlist1 clist1, .pointer (some ⟨b2, o3, none⟩)] w R := by kernel_rfl
theorem F58_ok (alist1 : Option Addr) (nlist1 clist1 : Nat) (b2 : Nat) (o3 : Nat) {w : World} {R : Value → World → Prop} (h : F58 alist1 nlist1 clist1 b2 o3 w R) : CallP Go.Proofs.Try.prog 58 [.slice alist1 nlist1 clist1, .pointer (some ⟨b2, o3, none⟩)] w R :=
  calls_den (fun _ => drawn (by kernel_rfl)) Go.Proofs.Try.func58 (Nat.le_of_ble_eq_true (by kernel_rfl)) ((F58_eq alist1 nlist1 clist1 b2 o3 w R).mp h)
end Go.Pl.Try

/- What 'palings/ssa.used$1$1' does, read off its translation by gen.py. -/
namespace Go.Pl.Try
set_option linter.unusedVariables false
set_option maxRecDepth 100000
def F59 (v1 : Int) (b2 : Nat) (o3 : Nat) (w : World) (R : Value → World → Prop) : Prop :=
  ∃ (x4 : Option Nat), cel w b2 o3 = some (.map x4) ∧
  ∃ (x5 : Bool), Sem.run Pg (Instr.lookup 56 (.map x4) (.int .i64 v1) false) w = .ok (.bool x5) w ∧
  R (.bool (!x5)) w
def T59 : List Sh := [.v (.one (.int .i64)), .v (.one .ptr), .v (.one .any), .v (.one .bool), .v (.one .map), .v (.one (.int .i64)), .v (.one .bool), .v (.one .bool)]
def A59 : Ann := (.seq none .z (.seq none .z .z))
theorem F59_eq (v1 : Int) (b2 : Nat) (o3 : Nat) (w : World) (R : Value → World → Prop) : F59 v1 b2 o3 w R = denF Go.Proofs.Try.prog T59 Go.Proofs.Try.f59 A59 [.int .i64 v1, .pointer (some ⟨b2, o3, none⟩)] w R := by kernel_rfl
theorem F59_ok (v1 : Int) (b2 : Nat) (o3 : Nat) {w : World} {R : Value → World → Prop} (h : F59 v1 b2 o3 w R) : CallP Go.Proofs.Try.prog 59 [.int .i64 v1, .pointer (some ⟨b2, o3, none⟩)] w R :=
  calls_den (fun _ => drawn (by kernel_rfl)) Go.Proofs.Try.func59 (Nat.le_of_ble_eq_true (by kernel_rfl)) ((F59_eq v1 b2 o3 w R).mp h)
end Go.Pl.Try

/- What is known ahead of a block, and what is used: walked. -/
namespace Go.Pl
theorem go_keep {w0 w1 w2 : World} {p : Option Nat} {f : Int → Option Value} {m left : List (Int × Value)} {oi : Obj} (hp : RMap w0 p f) (h1 : Ext w0 w1) (h2 : Ext w0 w2) (h : Going w1 p m left oi) : Going w2 p m left oi := by
  cases p with
  | none => exact h
  | some b =>
    obtain ⟨o, hb, -⟩ := hp
    have hlt := (Array.getElem?_eq_some_iff.1 hb).1
    obtain ⟨om, hb1, hr⟩ := h
    exact ⟨om, by rw [h2.blk b hlt, ← h1.blk b hlt]; exact hb1, hr⟩
def setF (l : List Int) : Int → Option Value := fun k => if k ∈ l then some (.bool true) else none
theorem setF_congr {a b : List Int} (h : ∀ k, k ∈ a ↔ k ∈ b) (k : Int) : setF a k = setF b k := by simp [setF, h k]
theorem setF_add (l : List Int) (k x : Int) : (if x = k then some (Value.bool true) else setF l x) = setF (l ++ [k]) x := by
  unfold setF
  by_cases h : x = k <;> simp [h]
theorem MapO.add {l : List Int} {k : Int} {o : Obj} (h : MapO (fun x => if x = k then some (Value.bool true) else setF l x) o) : MapO (setF (l ++ [k])) o := h.congr fun x => setF_add l k x
theorem setF_nil : MapO (setF []) (.map #[] 0) := MapO.empty.congr fun k => by simp [setF]
theorem getD_setF (l : List Int) (k : Int) : (setF l k).getD (.bool false) = .bool (decide (k ∈ l)) := by unfold setF; by_cases h : k ∈ l <;> simp [h]
end Go.Pl
namespace Go.Pl.Try
open M
set_option linter.unusedVariables false
theorem mpBool : mpT Pg 56 4 = true := by kernel_rfl
theorem mpEnds : mpT Pg 133 3 = true := by kernel_rfl
theorem zI : zeroOf Pg 3 = some (.int .i64 0) := by kernel_rfl
theorem zB : zeroOf Pg 4 = some (.bool false) := by kernel_rfl
theorem dsts_step {is : List Ins} {j : Nat} {i : Ins} (h : is[j]? = some i) : dsts (is.take (j + 1)) = dsts (is.take j) ++ (if i.dst = 0 then [] else [i.dst]) := by
  rw [List.take_add_one, h]
  unfold dsts
  by_cases h0 : i.dst = 0 <;> simp [h0]
theorem mem_keys {m : List (Int × Value)} {S : List Int} (h : ∀ k, mget m k = setF S k) (k : Int) : k ∈ m.map Prod.fst ↔ k ∈ S := by
  have := h k
  constructor
  · intro hk
    obtain ⟨p, hp, rfl⟩ := List.mem_map.1 hk
    by_cases hs : p.1 ∈ S
    · exact hs
    · simp only [setF, hs, if_false] at this
      exact absurd rfl (mget_none.1 this p hp)
  · intro hs
    simp only [setF, hs, if_true] at this
    exact List.mem_map.2 ⟨_, mem_of_mget this, rfl⟩
theorem after_w {w : World} {p : Option Nat} {S : List Int} {vs : List Value} {b : Blk} (hp : RMap w p (setF S)) (hb : RBlock w vs b) :
    CallP Pg 56 [.map p, .agg ⟨vs⟩] w fun v w' => ∃ r o, v = .map (some r) ∧ MapO (setF (after S b)) o ∧ Hp w w' [(r, o)] := by
  obtain ⟨ap, np, cp, ai, ni, ci, ae, ne, ce, rfl, hpa, hia, hea⟩ := hb
  refine F56_ok _ _ _ _ _ _ _ _ _ _ _ _ _ ?_
  unfold F56
  refine alp (Hp.refl w) fun b8 w9 h9 => ?_
  refine alm h9 fun b10 w11 h11 => ?_
  obtain ⟨r, w13, oi, m, hrun, h13, hg, hget, hnd, hx13, hne⟩ := go_range mpBool h11 (hp.ext h11.ext)
  refine ⟨_, w13, hrun, ?_⟩
  refine ⟨fun w' c => ∃ oi' left done o, Hp w w' [(r, oi'), (b10, o), (b8, Cl 47 [.slice ap np cp, .slice ai ni ci, .int .i64 b.fin.kind, .int .i64 b.fin.val, .slice ae ne ce, .int .i64 b.fin.trap])] ∧ Going w' p m left oi' ∧
    MapO (setF done) o ∧ (∀ k, k ∈ S ↔ k ∈ done ∨ k ∈ left.map Prod.fst) ∧ c = left.length, ⟨m.length, oi, m, [], _, h13, hg, setF_nil, fun k => by rw [← mem_keys hget k]; simp, rfl⟩, ?_⟩
  rintro w15 c ⟨oi', left, done, o, h15, hg15, ho, hS, rfl⟩
  rcases go_next (P := Pg) (ty := 0) h15 0 rfl hne hg15 with ⟨rfl, hn⟩ | ⟨k, v, left', w16, oi2, hperm, hn, h16, hg16, hkm, hent, -, -⟩
  · left
    have ho' : MapO (setF S) o := ho.congr (setF_congr fun k => by rw [hS k]; simp)
    refine ⟨w15, hn, _, _, _, h15.cl 2 rfl rfl, ?_⟩
    refine ⟨fun i w' c => ∃ (j : Nat) (o : Obj), i = j ∧ j ≤ np ∧ c = np - j ∧ Hp w w' [(r, oi'), (b10, o), (b8, Cl 47 [.slice ap np cp, .slice ai ni ci, .int .i64 b.fin.kind, .int .i64 b.fin.val, .slice ae ne ce, .int .i64 b.fin.trap])] ∧
      MapO (setF (S ++ b.params.take j)) o, ⟨np, 0, o, rfl, by omega, by omega, h15, by simpa using ho'⟩, ?_⟩
    have hpl := hpa.len
    have hple := hpa.le
    rintro i w28 c ⟨j, o1, rfl, hj, rfl, h28, ho1⟩
    refine sp_dec (fun hlt => ?_) (fun hge => ?_)
    · have hjn : j < np := by omega
      have hx : b.params[j]? = some b.params[j] := List.getElem?_eq_getElem (by omega)
      obtain ⟨bb, ob, ha, hc⟩ := RdI.at hpa hx
      obtain ⟨w34, o2, hu, ho2, h34⟩ := upd_map mpBool h28 1 rfl ho1 b.params[j] (.bool true)
      refine ⟨by omega, by omega, ptAt_of ha ⟨_, h28.ext.cel hc, w34, hu, np - (j + 1), by omega, j + 1, o2, wrap_succ (by omega), by omega, rfl, h34, ?_⟩⟩
      have := ho2.add
      rw [List.take_add_one, hx]
      simpa using this
    · have hjn : j = np := by omega
      subst hjn
      rw [List.take_of_length_le (by omega)] at ho1
      refine ⟨_, _, _, h28.cl 2 rfl rfl, ?_⟩
      refine ⟨fun i w' c => ∃ (j' : Nat) (o : Obj), i = j' ∧ j' ≤ ni ∧ c = ni - j' ∧ Hp w w' [(r, oi'), (b10, o), (b8, Cl 47 [.slice ap j cp, .slice ai ni ci, .int .i64 b.fin.kind, .int .i64 b.fin.val, .slice ae ne ce, .int .i64 b.fin.trap])] ∧
        MapO (setF (S ++ b.params ++ dsts (b.ins.take j'))) o, ⟨ni, 0, o1, rfl, by omega, by omega, h28, by simpa [dsts] using ho1⟩, ?_⟩
      have hil := hia.len
      have hile := hia.le
      rintro i w38 c ⟨j', o2, rfl, hj', rfl, h38, ho2⟩
      refine sp_dec (fun hlt => ?_) (fun hge => ?_)
      · intro K hK
        have hx : b.ins[j']? = some b.ins[j'] := List.getElem?_eq_getElem (by omega)
        generalize b.ins[j'] = x at hx
        obtain ⟨bb, ob, vs, ha, hrow, hvl, aa, na, ca, rfl, hargs⟩ := hia.at_ _ _ hx
        refine ⟨by omega, by omega, ptAt_of ha ⟨_, _, _, _, _, _, _, _, _, h38.ext.row hrow, ?_⟩⟩
        refine alp h38 fun b52 w53 h53 => ?_
        refine stp h53 0 rfl (by simp) rfl fun w54 h54 => ?_
        have hds := dsts_step hx
        refine ⟨_, h54.cl 0 rfl rfl, ?_⟩
        refine sp_of (fun h0 => ?_) (fun h0 => ?_)
        · have h0' : x.dst ≠ 0 := by simpa using h0
          obtain ⟨w57, o3, hu, ho3, h57⟩ := upd_map mpBool h54 2 rfl ho2 x.dst (.bool true)
          refine ⟨_, h54.cl 0 rfl rfl, w57, hu, hK _ ⟨ni - (j' + 1), by omega, j' + 1, o3, wrap_succ (by omega), by omega, rfl, h57.drop 1, ?_⟩⟩
          rw [hds, if_neg h0', ← List.append_assoc]
          exact ho3.add
        · have h0' : x.dst = 0 := by simpa using h0
          refine hK _ ⟨ni - (j' + 1), by omega, j' + 1, o2, wrap_succ (by omega), by omega, rfl, h54.drop 1, ?_⟩
          rw [hds, if_pos h0', List.append_nil]
          exact ho2
      · have : j' = ni := by omega
        subst this
        rw [List.take_of_length_le (by omega)] at ho2
        refine ⟨b10, o2, rfl, ?_, h38.sub (by simp)⟩
        simpa [after, Blk.made] using ho2
  · right
    have hv : v = .bool true := by
      have h1 := mget_mem hnd hkm
      rw [hget] at h1
      unfold setF at h1
      split at h1
      · cases h1; rfl
      · cases h1
    subst hv
    obtain ⟨w17, o2, hu, ho2, h17⟩ := upd_map mpBool h16 1 rfl ho k (.bool true)
    refine ⟨_, _, w16, hn, k, true, hent, w17, hu, left'.length, by rw [hperm.length_eq]; simp, oi2, left', done ++ [k], o2, h17, go_keep hp h16.ext h17.ext hg16, ho2.add, ?_, rfl⟩
    intro x
    rw [hS x, (hperm.map Prod.fst).mem_iff]
    simp only [List.map_cons, List.mem_cons, List.mem_append, List.mem_singleton, List.not_mem_nil, or_false]
    exact or_assoc.symm
theorem used11_w {w : World} {b o : Nat} {p : Option Nat} {S : List Int} (v : Int) (hc : cel w b o = some (.map p)) (hp : RMap w p (setF S)) :
    CallP Pg 59 [.int .i64 v, .pointer (some ⟨b, o, none⟩)] w fun r w' => r = .bool (!decide (v ∈ S)) ∧ w' = w := by
  refine F59_ok _ _ _ ⟨_, hc, decide (v ∈ S), ?_, rfl, rfl⟩
  rw [look_map mpBool zB hp, getD_setF]
theorem used1_w {w : World} {b o : Nat} {p : Option Nat} {S : List Int} {a : Option Addr} {n c : Nat} {xs : List Int} (h : RdI w a n xs) (hc : cel w b o = some (.map p)) (hp : RMap w p (setF S)) :
    CallP Pg 58 [.slice a n c, .pointer (some ⟨b, o, none⟩)] w fun r w' => r = .bool (xs.all fun v => decide (v ∈ S)) ∧ Ext w w' := by
  refine F58_ok _ _ _ _ _ ?_
  refine (hasInt_w (fun v => !decide (v ∈ S)) h ?_).mono ?_
  · intro x _ w1 hx
    refine ⟨by kernel_rfl, ?_⟩
    exact (used11_w x (hx.cel hc) (hp.ext hx)).mono fun v w' ⟨h1, h2⟩ => ⟨h1, by rw [h2]; exact Ext.refl _⟩
  · rintro v w' ⟨rfl, hx⟩
    refine ⟨_, rfl, ?_, hx⟩
    rw [List.any_eq_not_all_not]
    simp
theorem usedIns_mem {a b : List Int} (h : ∀ k, k ∈ a ↔ k ∈ b) : ∀ is, usedIns a is = usedIns b is := by
  intro is
  induction is generalizing a b with
  | nil => rfl
  | cons i is ih =>
    simp only [usedIns]
    have h1 : (i.args.all fun v => decide (v ∈ a)) = (i.args.all fun v => decide (v ∈ b)) := by congr 1; funext v; simp [h v]
    rw [h1]
    congr 1
    by_cases h0 : i.dst = 0
    · simp only [h0, if_true]; exact ih h
    · simp only [h0, if_false]; exact ih fun k => by simp [h k]
theorem used_w {w : World} {p : Option Nat} {S : List Int} {vs : List Value} {b : Blk} (hp : RMap w p (setF S)) (hb : RBlock w vs b) :
    CallP Pg 32 [.map p, .agg ⟨vs⟩] w fun v w' => v = .bool (used S b) ∧ Ext w w' := by
  obtain ⟨ap, np, cp, ai, ni, ci, ae, ne, ce, rfl, hpa, hia, hea⟩ := hb
  refine F32_ok _ _ _ _ _ _ _ _ _ _ _ _ _ ?_
  unfold F32
  refine alp (Hp.refl w) fun b8 w9 h9 => ?_
  refine alm h9 fun b10 w11 h11 => ?_
  refine alp h11 fun b12 w13 h13 => ?_
  refine stp h13 0 rfl (by simp) rfl fun w14 h14 => ?_
  have hpl := hpa.len
  have hple := hpa.le
  have hil := hia.len
  have hile := hia.le
  have hel := hea.len
  have hele := hea.le
  obtain ⟨r, w16, oi, m, hrun, h16, hg, hget, hnd, hx16, hne⟩ := go_range mpBool h14 (hp.ext h14.ext)
  refine ⟨_, w16, hrun, ?_⟩
  generalize hbx : Cl 47 [.slice ap np cp, .slice ai ni ci, .int .i64 b.fin.kind, .int .i64 b.fin.val, .slice ae ne ce, .int .i64 b.fin.trap] = box at *
  refine ⟨fun w' c => ∃ oi' left done o, Hp w w' [(r, oi'), (b12, Cl 56 [.map (some b10)]), (b10, o), (b8, box)] ∧ Going w' p m left oi' ∧
    MapO (setF done) o ∧ (∀ k, k ∈ S ↔ k ∈ done ∨ k ∈ left.map Prod.fst) ∧ c = left.length, ⟨m.length, oi, m, [], _, h16, hg, setF_nil, fun k => by rw [← mem_keys hget k]; simp, rfl⟩, ?_⟩
  rintro w15 c ⟨oi', left, done, o, h15, hg15, ho, hS, rfl⟩
  rcases go_next (P := Pg) (ty := 0) h15 0 rfl hne hg15 with ⟨rfl, hn⟩ | ⟨k, v, left', w16, oi2, hperm, hn, h16, hg16, hkm, hent, -, -⟩
  · left
    have ho' : MapO (setF S) o := ho.congr (setF_congr fun k => by rw [hS k]; simp)
    subst hbx
    refine ⟨w15, hn, _, _, _, h15.cl 3 rfl rfl, ?_⟩
    generalize hbx : Cl 47 [.slice ap np cp, .slice ai ni ci, .int .i64 b.fin.kind, .int .i64 b.fin.val, .slice ae ne ce, .int .i64 b.fin.trap] = box at *
    refine ⟨fun i w' c => ∃ (j : Nat) (o : Obj), i = j ∧ j ≤ np ∧ c = np - j ∧ Hp w w' [(r, oi'), (b12, Cl 56 [.map (some b10)]), (b10, o), (b8, box)] ∧ MapO (setF (S ++ b.params.take j)) o, ⟨np, 0, o, rfl, by omega, by omega, h15, by simpa using ho'⟩, ?_⟩
    rintro i w28 c ⟨j, o1, rfl, hj, rfl, h28, ho1⟩
    refine sp_dec (fun hlt => ?_) (fun hge => ?_)
    · have hjn : j < np := by omega
      have hx : b.params[j]? = some b.params[j] := List.getElem?_eq_getElem (by omega)
      obtain ⟨bb, ob, ha, hc⟩ := RdI.at hpa hx
      obtain ⟨w34, o2, hu, ho2, h34⟩ := upd_map mpBool h28 2 rfl ho1 b.params[j] (.bool true)
      refine ⟨by omega, by omega, ptAt_of ha ⟨_, h28.ext.cel hc, _, h28.cl 1 rfl rfl, w34, hu, np - (j + 1), by omega, j + 1, o2, wrap_succ (by omega), by omega, rfl, h34, ?_⟩⟩
      have := ho2.add
      rw [List.take_add_one, hx]
      simpa using this
    · have hjn : j = np := by omega
      rw [List.take_of_length_le (by omega)] at ho1
      subst hbx
      refine ⟨_, _, _, h28.cl 3 rfl rfl, ?_⟩
      generalize hbx : Cl 47 [.slice ap np cp, .slice ai ni ci, .int .i64 b.fin.kind, .int .i64 b.fin.val, .slice ae ne ce, .int .i64 b.fin.trap] = box at *
      refine ⟨fun i w' c => ∃ (j' : Nat) (o : Obj) (now : List Int), i = j' ∧ j' ≤ ni ∧ c = ni - j' ∧ Hp w w' [(r, oi'), (b12, Cl 56 [.map (some b10)]), (b10, o), (b8, box)] ∧
        MapO (setF now) o ∧ (∀ k, k ∈ now ↔ k ∈ S ++ b.params ++ dsts (b.ins.take j')) ∧ usedIns (S ++ b.params) b.ins = usedIns now (b.ins.drop j'), ⟨ni, 0, o1, S ++ b.params, rfl, by omega, by omega, h28, ho1, by simp [dsts], rfl⟩, ?_⟩
      rintro i w38 c ⟨j', o2, now, rfl, hj', rfl, h38, ho2, hnow, hus⟩
      refine sp_dec (fun hlt => ?_) (fun hge => ?_)
      · intro K hK
        have hx : b.ins[j']? = some b.ins[j'] := List.getElem?_eq_getElem (by omega)
        have hdrop : b.ins.drop j' = b.ins[j'] :: b.ins.drop (j' + 1) := List.drop_eq_getElem_cons (by omega)
        generalize b.ins[j'] = x at hx hdrop
        rw [hdrop] at hus
        simp only [usedIns] at hus
        obtain ⟨bb, ob, vs, ha, hrow, hvl, aa, na, ca, rfl, hargs⟩ := hia.at_ _ _ hx
        refine ⟨by omega, by omega, ptAt_of ha ⟨_, _, _, _, _, _, _, _, _, h38.ext.row hrow, ?_⟩⟩
        refine alp h38 fun b52 w53 h53 => ?_
        refine stp h53 0 rfl (by simp) rfl fun w54 h54 => ?_
        refine ⟨_, _, _, h54.cl 0 rfl rfl, by kernel_rfl, ?_⟩
        refine (used1_w (RdI.ext hargs.rd h54.ext) (h54.cl 2 rfl rfl) (h54.rmap 3 rfl ho2)).mono ?_
        rintro v w62 ⟨rfl, hx62⟩
        have h62 := h54.step hx62
        have hds := dsts_step hx
        refine ⟨_, rfl, sp_of (fun hall => ?_) (fun hall => ?_)⟩
        · refine ⟨?_, h62.ext⟩
          have : (x.args.all fun v => decide (v ∈ now)) = false := by simpa using hall
          rw [used, hus, this]; simp
        · have hall' : (x.args.all fun v => decide (v ∈ now)) = true := by simpa using hall
          rw [hall', Bool.true_and] at hus
          refine ⟨_, h62.cl 0 rfl rfl, sp_of (fun h0 => ?_) (fun h0 => ?_)⟩
          · have h0' : x.dst ≠ 0 := by simpa using h0
            obtain ⟨w57, o3, hu, ho3, h57⟩ := upd_map mpBool h62 3 rfl ho2 x.dst (.bool true)
            refine ⟨_, h62.cl 2 rfl rfl, _, h62.cl 0 rfl rfl, w57, hu, hK _ ⟨ni - (j' + 1), by omega, j' + 1, o3, now ++ [x.dst], wrap_succ (by omega), by omega, rfl, h57.drop 1, ho3.add, ?_, ?_⟩⟩
            · intro k; rw [hds, if_neg h0']
              simp only [List.mem_append, hnow k, or_assoc]
            · rw [hus, if_neg h0']
              exact usedIns_mem (fun k => by simp [or_comm]) _
          · have h0' : x.dst = 0 := by simpa using h0
            refine hK _ ⟨ni - (j' + 1), by omega, j' + 1, o2, now, wrap_succ (by omega), by omega, rfl, h62.drop 1, ho2, ?_, ?_⟩
            · intro k; rw [hds, if_pos h0', List.append_nil]; exact hnow k
            · rw [hus, if_pos h0']
      · have hj'n : j' = ni := by omega
        rw [List.take_of_length_le (by omega)] at hnow
        rw [List.drop_of_length_le (by omega)] at hus
        simp only [usedIns] at hus
        have hnow' : ∀ k, k ∈ now ↔ k ∈ after S b := fun k => by rw [hnow k]; simp [after, Blk.made]
        subst hbx
        refine ⟨_, _, _, h38.cl 3 rfl rfl, ?_⟩
        refine ⟨fun i w' c => ∃ (j : Nat), i = j ∧ j ≤ ne ∧ c = ne - j ∧ Hp w w' [(r, oi'), (b12, Cl 56 [.map (some b10)]), (b10, o2), (b8, Cl 47 [.slice ap np cp, .slice ai ni ci, .int .i64 b.fin.kind, .int .i64 b.fin.val, .slice ae ne ce, .int .i64 b.fin.trap])] ∧
          ((b.fin.ways.take j).all fun w => w.args.all fun v => decide (v ∈ after S b)) = true, ⟨ne, 0, rfl, by omega, by omega, h38, by simp⟩, ?_⟩
        rintro i w71 c ⟨q, rfl, hq, rfl, h71, hways⟩
        refine sp_dec (fun hlt => ?_) (fun hge => ?_)
        · have hx : b.fin.ways[q]? = some b.fin.ways[q] := List.getElem?_eq_getElem (by omega)
          generalize b.fin.ways[q] = x at hx
          obtain ⟨bb, ob, vs, ha, hrow, hvl, aa, na, ca, rfl, hargs⟩ := hea.at_ _ _ hx
          refine ⟨by omega, by omega, ptAt_of ha ⟨_, _, _, _, h71.ext.row hrow, ?_⟩⟩
          refine alp h71 fun b52 w53 h53 => ?_
          refine stp h53 0 rfl (by simp) rfl fun w54 h54 => ?_
          refine ⟨_, _, _, h54.cl 0 rfl rfl, by kernel_rfl, ?_⟩
          refine (used1_w (RdI.ext hargs h54.ext) (h54.cl 2 rfl rfl) (h54.rmap 3 rfl ho2)).mono ?_
          rintro v w62 ⟨rfl, hx62⟩
          have h62 := h54.step hx62
          have heq : (x.args.all fun v => decide (v ∈ now)) = x.args.all fun v => decide (v ∈ after S b) := by congr 1; funext v; simp [hnow' v]
          refine ⟨_, rfl, sp_of (fun hall => ?_) (fun hall => ?_)⟩
          · refine ⟨?_, h62.ext⟩
            have h1 : (x.args.all fun v => decide (v ∈ after S b)) = false := by rw [← heq]; simpa using hall
            have h2 : (b.fin.ways.all fun w => w.args.all fun v => decide (v ∈ after S b)) = false := by
              rw [List.all_eq_false]
              exact ⟨x, List.mem_of_getElem? hx, by rw [h1]; decide⟩
            rw [used, h2]; simp
          · have h1 : (x.args.all fun v => decide (v ∈ after S b)) = true := by rw [← heq]; simpa using hall
            refine ⟨ne - (q + 1), by omega, q + 1, wrap_succ (by omega), by omega, rfl, h62.drop 1, ?_⟩
            rw [List.take_add_one, hx, List.all_append, hways]
            simp [h1]
        · have : q = ne := by omega
          rw [List.take_of_length_le (by omega)] at hways
          refine ⟨_, h71.cl 3 rfl rfl, sp_dec (fun h0 => ?_) (fun h0 => ?_)⟩
          · refine ⟨?_, h71.ext⟩
            rw [used, hus, hways, h0]; simp
          · refine ⟨_, h71.cl 1 rfl rfl, _, h71.cl 3 rfl rfl, decide (b.fin.val ∈ now), ?_, ?_, h71.ext⟩
            · rw [look_map mpBool zB (h71.rmap 2 rfl ho2), getD_setF]
            · rw [used, hus, hways]; simp [h0, hnow' b.fin.val]
  · right
    have hv : v = .bool true := by
      have h1 := mget_mem hnd hkm
      rw [hget] at h1
      unfold setF at h1
      split at h1
      · cases h1; rfl
      · cases h1
    subst hv
    obtain ⟨w17, o2, hu, ho2, h17⟩ := upd_map mpBool h16 2 rfl ho k (.bool true)
    refine ⟨_, _, w16, hn, k, true, hent, _, h16.cl 1 rfl rfl, w17, hu, left'.length, by rw [hperm.length_eq]; simp, oi2, left', done ++ [k], o2, h17, go_keep hp h16.ext h17.ext hg16, ho2.add, ?_, rfl⟩
    intro x
    rw [hS x, (hperm.map Prod.fst).mem_iff]
    simp only [List.map_cons, List.mem_cons, List.mem_append, List.mem_singleton, List.not_mem_nil, or_false]
    exact or_assoc.symm
end Go.Pl.Try

/- What 'palings/taint.May' does, read off its translation by gen.py. -/
namespace Go.Pl.Try
set_option linter.unusedVariables false
set_option maxRecDepth 100000
def F17 (awrites1 : Option Addr) (nwrites1 cwrites1 : Nat) (i2 : Int) (i3 : Int) (ai4 : Option Addr) (ni4 ci4 : Nat) (i5 : Int) (i6 : Int) (i7 : Int) (i8 : Int) (w : World) (R : Value → World → Prop) : Prop :=
  AlP 37 [.int .i64 i2, .int .i64 i3, .slice ai4 ni4 ci4, .int .i64 i5, .int .i64 i6, .int .i64 i7, .int .i64 i8] w fun b9 w10 =>
  ∀ K11 : World → Prop, (∀ w12, (
  R (.int .i64 0) w12) → K11 w12) →
  ∀ K13 : World → Prop, (∀ w14, (
  R (.int .i64 1) w14) → K13 w14) →
  ∃ (x15 : Int), cel w10 b9 0 = some (.int .i64 x15) ∧
  sp (decide ((x15 : Int) = 5))
  (K13 w10)
  (∃ (x16 : Int), cel w10 b9 0 = some (.int .i64 x16) ∧
  sp (decide ((x16 : Int) = 3))
  (∃ (x17 : Int), cel w10 b9 5 = some (.int .i64 x17) ∧
  sp (decide ((0 : Int) ≤ x17))
  (∃ (x18 : Int), cel w10 b9 5 = some (.int .i64 x18) ∧
  sp (decide ((x18 : Int) < (nwrites1 : Nat)))
  (∃ (x19 : Int), cel w10 b9 5 = some (.int .i64 x19) ∧
  0 ≤ (x19 : Int) ∧ (x19 : Int) < (nwrites1 : Nat) ∧
  ptAt awrites1 fun b20 o21 =>
  ∃ (x22 : Bool), cel w10 b20 (o21 + x19.toNat * 1) = some (.bool x22) ∧
  sp x22
  (K13 w10)
  (K11 w10))
  (K11 w10))
  (K11 w10))
  (K11 w10))
def T17 : List Sh := [.v (.one .sl), .v (.agg [(.int .i64), (.int .i64), .sl, (.int .i64), (.int .i64), (.int .i64), (.int .i64)]), .v (.one .any), .v (.one .ptr), .v (.one (.int .i64)), .v (.one .ptr), .v (.one (.int .i64)), .v (.one .bool), .v (.one .bool), .v (.one .ptr), .v (.one (.int .i64)), .v (.one .bool), .v (.one .bool), .v (.one .ptr), .v (.one (.int .i64)), .v (.one .bool), .v (.one .bool), .v (.one .bool), .v (.one .ptr), .v (.one (.int .i64)), .v (.one .sl), .v (.one (.int .i64)), .v (.one .bool), .v (.one .bool), .v (.one .bool), .v (.one .sl), .v (.one .ptr), .v (.one (.int .i64)), .v (.one .ptr), .v (.one .bool), .v (.one .bool), .v (.one .bool)]
def A17 : Ann := (.seq none .z (.seq (some []) (.ifs (some []) none (.seq none .z .z) .z) (.seq none .z .z)))
theorem F17_eq (awrites1 : Option Addr) (nwrites1 cwrites1 : Nat) (i2 : Int) (i3 : Int) (ai4 : Option Addr) (ni4 ci4 : Nat) (i5 : Int) (i6 : Int) (i7 : Int) (i8 : Int) (w : World) (R : Value → World → Prop) : F17 awrites1 nwrites1 cwrites1 i2 i3 ai4 ni4 ci4 i5 i6 i7 i8 w R = denF Go.Proofs.Try.prog T17 Go.Proofs.Try.f17 A17 [.slice awrites1 nwrites1 cwrites1, .agg ⟨[.int .i64 i2, .int .i64 i3, .slice ai4 ni4 ci4, .int .i64 i5, .int .i64 i6, .int .i64 i7, .int .i64 i8]⟩] w R := by kernel_rfl
theorem F17_ok (awrites1 : Option Addr) (nwrites1 cwrites1 : Nat) (i2 : Int) (i3 : Int) (ai4 : Option Addr) (ni4 ci4 : Nat) (i5 : Int) (i6 : Int) (i7 : Int) (i8 : Int) {w : World} {R : Value → World → Prop} (h : F17 awrites1 nwrites1 cwrites1 i2 i3 ai4 ni4 ci4 i5 i6 i7 i8 w R) : CallP Go.Proofs.Try.prog 17 [.slice awrites1 nwrites1 cwrites1, .agg ⟨[.int .i64 i2, .int .i64 i3, .slice ai4 ni4 ci4, .int .i64 i5, .int .i64 i6, .int .i64 i7, .int .i64 i8]⟩] w R :=
  calls_den (fun _ => drawn (by kernel_rfl)) Go.Proofs.Try.func17 (Nat.le_of_ble_eq_true (by kernel_rfl)) ((F17_eq awrites1 nwrites1 cwrites1 i2 i3 ai4 ni4 ci4 i5 i6 i7 i8 w R).mp h)
end Go.Pl.Try

/- What '(palings/ssa.Func).Params' does, read off its translation by gen.py. -/
namespace Go.Pl.Try
set_option linter.unusedVariables false
set_option maxRecDepth 100000
def F25 (f1 : ByteArray) (af2 : Option Addr) (nf2 cf2 : Nat) (w : World) (R : Value → World → Prop) : Prop :=
  AlP 29 [.string f1, .slice af2 nf2 cf2] w fun b3 w4 =>
  ∃ (ax5 : Option Addr) (nx5 cx5 : Nat), cel w4 b3 1 = some (.slice ax5 nx5 cx5) ∧
  sp (decide (((nx5 : Nat) : Int) = 0))
  (R (.slice none 0 0) w4)
  (∃ (ax6 : Option Addr) (nx6 cx6 : Nat), cel w4 b3 1 = some (.slice ax6 nx6 cx6) ∧
  0 ≤ (0 : Int) ∧ (0 : Int) < (nx6 : Nat) ∧
  ptAt ax6 fun b7 o8 =>
  ∃ (ax9 : Option Addr) (nx9 cx9 : Nat), cel w4 b7 o8 = some (.slice ax9 nx9 cx9) ∧
  R (.slice ax9 nx9 cx9) w4)
def T25 : List Sh := [.v (.agg [.str, .sl]), .v (.one .ptr), .v (.one .sl), .v (.one .ptr), .v (.one .sl), .v (.one (.int .i64)), .v (.one .bool), .v (.one .ptr), .v (.one .sl), .v (.one .ptr), .v (.one .ptr), .v (.one .sl)]
def A25 : Ann := (.seq none .z (.seq none (.seq none .z (.cond (.seq none .z .z) .z)) (.seq none .z .z)))
theorem F25_eq (f1 : ByteArray) (af2 : Option Addr) (nf2 cf2 : Nat) (w : World) (R : Value → World → Prop) : F25 f1 af2 nf2 cf2 w R = denF Go.Proofs.Try.prog T25 Go.Proofs.Try.f25 A25 [.agg ⟨[.string f1, .slice af2 nf2 cf2]⟩] w R := by kernel_rfl
theorem F25_ok (f1 : ByteArray) (af2 : Option Addr) (nf2 cf2 : Nat) {w : World} {R : Value → World → Prop} (h : F25 f1 af2 nf2 cf2 w R) : CallP Go.Proofs.Try.prog 25 [.agg ⟨[.string f1, .slice af2 nf2 cf2]⟩] w R :=
  calls_den (fun _ => drawn (by kernel_rfl)) Go.Proofs.Try.func25 (Nat.le_of_ble_eq_true (by kernel_rfl)) ((F25_eq f1 af2 nf2 cf2 w R).mp h)
end Go.Pl.Try

/- What '(*palings/flow.Graph).Len' does, read off its translation by gen.py. -/
namespace Go.Pl.Try
set_option linter.unusedVariables false
set_option maxRecDepth 100000
def F35 (g1 : Option Addr) (w : World) (R : Value → World → Prop) : Prop :=
  ∃ (x2 : Bool), Sem.run Pg (do eqGuard .eql 72 (.tmp 3) (.const (.pointer none)) (.pointer g1) (.pointer none); binOp .eql 72 (.pointer g1) (.pointer none)) w = .ok (.bool x2) w ∧
  sp x2
  (R (.int .i64 0) w)
  (ptAt g1 fun b3 o4 =>
  ∃ (ax5 : Option Addr) (nx5 cx5 : Nat), cel w b3 o4 = some (.slice ax5 nx5 cx5) ∧
  R (.int .i64 (nx5 : Nat)) w)
def T35 : List Sh := [.v (.one .ptr), .v (.one .any), .v (.one (.int .i64)), .v (.one .ptr), .v (.one .bool), .v (.one .ptr), .v (.one .ptr), .v (.one .ptr), .v (.one .sl), .v (.one (.int .i64))]
def A35 : Ann := (.seq none .z (.seq none (.seq none .z (.cond (.seq none .z .z) .z)) (.seq none .z .z)))
theorem F35_eq (g1 : Option Addr) (w : World) (R : Value → World → Prop) : F35 g1 w R = denF Go.Proofs.Try.prog T35 Go.Proofs.Try.f35 A35 [.pointer g1] w R := by kernel_rfl
theorem F35_ok (g1 : Option Addr) {w : World} {R : Value → World → Prop} (h : F35 g1 w R) : CallP Go.Proofs.Try.prog 35 [.pointer g1] w R :=
  calls_den (fun _ => drawn (by kernel_rfl)) Go.Proofs.Try.func35 (Nat.le_of_ble_eq_true (by kernel_rfl)) ((F35_eq g1 w R).mp h)
end Go.Pl.Try

/- What '(*palings/flow.Graph).in' does, read off its translation by gen.py. -/
namespace Go.Pl.Try
set_option linter.unusedVariables false
set_option maxRecDepth 100000
def F37 (g1 : Option Addr) (b2 : Int) (w : World) (R : Value → World → Prop) : Prop :=
  sp (decide ((0 : Int) ≤ b2))
  (CallP Pg 35 [.pointer g1] w fun v3 w4 => ∃ (x5 : Int), v3 = .int .i64 x5 ∧
  sp (decide ((b2 : Int) < x5))
  (ptAt g1 fun b6 o7 =>
  ∃ (ax8 : Option Addr) (nx8 cx8 : Nat), cel w4 b6 (o7 + 2) = some (.slice ax8 nx8 cx8) ∧
  0 ≤ (b2 : Int) ∧ (b2 : Int) < (nx8 : Nat) ∧
  ptAt ax8 fun b9 o10 =>
  ∃ (x11 : Bool), cel w4 b9 (o10 + b2.toNat * 1) = some (.bool x11) ∧
  R (.bool x11) w4)
  (R (.bool false) w4))
  (R (.bool false) w)
def T37 : List Sh := [.v (.one .ptr), .v (.one (.int .i64)), .v (.one .any), .v (.one .any), .v (.one .bool), .v (.one (.int .i64)), .v (.one .bool), .v (.one .bool), .v (.one (.int .i64)), .v (.one .ptr), .v (.one (.int .i64)), .v (.one .bool), .v (.one .bool), .v (.one .bool), .v (.one .ptr), .v (.one .ptr), .v (.one .ptr), .v (.one .sl), .v (.one (.int .i64)), .v (.one .ptr), .v (.one .bool), .v (.one .bool)]
def A37 : Ann := (.seq none .z (.seq none .z .z))
theorem F37_eq (g1 : Option Addr) (b2 : Int) (w : World) (R : Value → World → Prop) : F37 g1 b2 w R = denF Go.Proofs.Try.prog T37 Go.Proofs.Try.f37 A37 [.pointer g1, .int .i64 b2] w R := by kernel_rfl
theorem F37_ok (g1 : Option Addr) (b2 : Int) {w : World} {R : Value → World → Prop} (h : F37 g1 b2 w R) : CallP Go.Proofs.Try.prog 37 [.pointer g1, .int .i64 b2] w R :=
  calls_den (fun _ => drawn (by kernel_rfl)) Go.Proofs.Try.func37 (Nat.le_of_ble_eq_true (by kernel_rfl)) ((F37_eq g1 b2 w R).mp h)
end Go.Pl.Try

/- What '(*palings/flow.Graph).Ins' does, read off its translation by gen.py. -/
namespace Go.Pl.Try
set_option linter.unusedVariables false
set_option maxRecDepth 100000
def F36 (g1 : Option Addr) (b2 : Int) (w : World) (R : Value → World → Prop) : Prop :=
  ∀ K3 : World → Prop, (∀ w4, (
  ptAt g1 fun b5 o6 =>
  ∃ (ax7 : Option Addr) (nx7 cx7 : Nat), cel w4 b5 (o6 + 1) = some (.slice ax7 nx7 cx7) ∧
  0 ≤ (b2 : Int) ∧ (b2 : Int) < (nx7 : Nat) ∧
  ptAt ax7 fun b8 o9 =>
  ∃ (ax10 : Option Addr) (nx10 cx10 : Nat), cel w4 b8 (o9 + b2.toNat * 1) = some (.slice ax10 nx10 cx10) ∧
  ∃ (ax11 : Option Addr) (nx11 cx11 : Nat), ∃ w12 : World, Sem.run Pg (Builtin.append_ #[34, 34] 34 ⟨[.slice none 0 0, .slice ax10 nx10 cx10]⟩) w4 = .ok (.slice ax11 nx11 cx11) w12 ∧
  R (.slice ax11 nx11 cx11) w12) → K3 w4) →
  ∀ K13 : World → Prop, (∀ w14, (
  R (.slice none 0 0) w14) → K13 w14) →
  sp (decide ((b2 : Int) < 0))
  (K13 w)
  (CallP Pg 35 [.pointer g1] w fun v15 w16 => ∃ (x17 : Int), v15 = .int .i64 x17 ∧
  sp (decide ((x17 : Int) ≤ b2))
  (K13 w16)
  (K3 w16))
def T36 : List Sh := [.v (.one .ptr), .v (.one (.int .i64)), .v (.one .any), .v (.one .any), .v (.one .sl), .v (.one (.int .i64)), .v (.one .bool), .v (.one .bool), .v (.one (.int .i64)), .v (.one .ptr), .v (.one (.int .i64)), .v (.one .bool), .v (.one .bool), .v (.one .ptr), .v (.one .ptr), .v (.one .ptr), .v (.one .sl), .v (.one (.int .i64)), .v (.one .ptr), .v (.one .sl), .v (.one .sl)]
def A36 : Ann := (.seq none .z (.seq (some []) (.ifs (some []) none (.seq none .z .z) .z) (.seq none .z .z)))
theorem F36_eq (g1 : Option Addr) (b2 : Int) (w : World) (R : Value → World → Prop) : F36 g1 b2 w R = denF Go.Proofs.Try.prog T36 Go.Proofs.Try.f36 A36 [.pointer g1, .int .i64 b2] w R := by kernel_rfl
theorem F36_ok (g1 : Option Addr) (b2 : Int) {w : World} {R : Value → World → Prop} (h : F36 g1 b2 w R) : CallP Go.Proofs.Try.prog 36 [.pointer g1, .int .i64 b2] w R :=
  calls_den (fun _ => drawn (by kernel_rfl)) Go.Proofs.Try.func36 (Nat.le_of_ble_eq_true (by kernel_rfl)) ((F36_eq g1 b2 w R).mp h)
end Go.Pl.Try

/- What 'palings/taint.Known' does, read off its translation by gen.py. -/
namespace Go.Pl.Try
set_option linter.unusedVariables false
set_option maxRecDepth 100000
def F45 (i1 : Int) (i2 : Int) (ai3 : Option Addr) (ni3 ci3 : Nat) (i4 : Int) (i5 : Int) (i6 : Int) (i7 : Int) (w : World) (R : Value → World → Prop) : Prop :=
  AlP 37 [.int .i64 i1, .int .i64 i2, .slice ai3 ni3 ci3, .int .i64 i4, .int .i64 i5, .int .i64 i6, .int .i64 i7] w fun b8 w9 =>
  ∀ K10 : World → Prop, (∀ w11, (
  R (.slice none 0 0) w11) → K10 w11) →
  ∀ K12 : World → Prop, (∀ w13, (
  ∃ (ax14 : Option Addr) (nx14 cx14 : Nat), cel w13 b8 2 = some (.slice ax14 nx14 cx14) ∧
  ∃ (ax15 : Option Addr) (nx15 cx15 : Nat), Sem.run Pg (Instr.sliceAt 34 (.slice ax14 nx14 cx14) none (some (.int .i64 1)) (some (.int .i64 1))) w13 = .ok (.slice ax15 nx15 cx15) w13 ∧
  R (.slice ax15 nx15 cx15) w13) → K12 w13) →
  ∀ K16 : World → Prop, (∀ w17, (
  ∃ (x18 : Int), cel w17 b8 0 = some (.int .i64 x18) ∧
  sp (decide ((x18 : Int) = 2))
  (∃ (x19 : Int), cel w17 b8 4 = some (.int .i64 x19) ∧
  CallP Pg 76 [.int .i64 x19] w17 fun v20 w21 => ∃ (x22 : Bool), v20 = .bool x22 ∧
  sp x22
  (∃ (ax23 : Option Addr) (nx23 cx23 : Nat), cel w21 b8 2 = some (.slice ax23 nx23 cx23) ∧
  ∃ (ax24 : Option Addr) (nx24 cx24 : Nat), ∃ w25 : World, Sem.run Pg (Builtin.append_ #[34, 34] 34 ⟨[.slice none 0 0, .slice ax23 nx23 cx23]⟩) w21 = .ok (.slice ax24 nx24 cx24) w25 ∧
  R (.slice ax24 nx24 cx24) w25)
  (K10 w21))
  (K10 w17)) → K16 w17) →
  ∃ (x26 : Int), cel w9 b8 0 = some (.int .i64 x26) ∧
  sp (decide ((x26 : Int) = 5))
  (∃ (ax27 : Option Addr) (nx27 cx27 : Nat), cel w9 b8 2 = some (.slice ax27 nx27 cx27) ∧
  sp (decide ((0 : Int) < (nx27 : Nat)))
  (K12 w9)
  (K16 w9))
  (∃ (x28 : Int), cel w9 b8 0 = some (.int .i64 x28) ∧
  sp (decide ((x28 : Int) = 6))
  (∃ (ax29 : Option Addr) (nx29 cx29 : Nat), cel w9 b8 2 = some (.slice ax29 nx29 cx29) ∧
  sp (decide ((0 : Int) < (nx29 : Nat)))
  (K12 w9)
  (K16 w9))
  (K16 w9))
def T45 : List Sh := [.v (.agg [(.int .i64), (.int .i64), .sl, (.int .i64), (.int .i64), (.int .i64), (.int .i64)]), .v (.one .ptr), .v (.one .sl), .v (.one .bool), .v (.one .ptr), .v (.one (.int .i64)), .v (.one .bool), .v (.one .bool), .v (.one .ptr), .v (.one (.int .i64)), .v (.one .bool), .v (.one .bool), .v (.one .bool), .v (.one .ptr), .v (.one .sl), .v (.one (.int .i64)), .v (.one .bool), .v (.one .bool), .v (.one .ptr), .v (.one .sl), .v (.one .sl), .v (.one .bool), .v (.one .ptr), .v (.one (.int .i64)), .v (.one .bool), .v (.one .bool), .v (.one .ptr), .v (.one (.int .i64)), .v (.one .bool), .v (.one .bool), .v (.one .ptr), .v (.one .sl), .v (.one .sl)]
def A45 : Ann := (.seq none .z (.seq none (.block (some []) (.ifs (some []) (some []) (.seq none .z .z) (.ifs none none (.seq none .z .z) .z))) (.seq none .z .z)))
theorem F45_eq (i1 : Int) (i2 : Int) (ai3 : Option Addr) (ni3 ci3 : Nat) (i4 : Int) (i5 : Int) (i6 : Int) (i7 : Int) (w : World) (R : Value → World → Prop) : F45 i1 i2 ai3 ni3 ci3 i4 i5 i6 i7 w R = denF Go.Proofs.Try.prog T45 Go.Proofs.Try.f45 A45 [.agg ⟨[.int .i64 i1, .int .i64 i2, .slice ai3 ni3 ci3, .int .i64 i4, .int .i64 i5, .int .i64 i6, .int .i64 i7]⟩] w R := by kernel_rfl
theorem F45_ok (i1 : Int) (i2 : Int) (ai3 : Option Addr) (ni3 ci3 : Nat) (i4 : Int) (i5 : Int) (i6 : Int) (i7 : Int) {w : World} {R : Value → World → Prop} (h : F45 i1 i2 ai3 ni3 ci3 i4 i5 i6 i7 w R) : CallP Go.Proofs.Try.prog 45 [.agg ⟨[.int .i64 i1, .int .i64 i2, .slice ai3 ni3 ci3, .int .i64 i4, .int .i64 i5, .int .i64 i6, .int .i64 i7]⟩] w R :=
  calls_den (fun _ => drawn (by kernel_rfl)) Go.Proofs.Try.func45 (Nat.le_of_ble_eq_true (by kernel_rfl)) ((F45_eq i1 i2 ai3 ni3 ci3 i4 i5 i6 i7 w R).mp h)
end Go.Pl.Try

/- What 'palings/ssa.shape' does, read off its translation by gen.py. -/
namespace Go.Pl.Try
set_option linter.unusedVariables false
set_option maxRecDepth 100000
def F54 (o1 : Int) (w : World) (R : Value → World → Prop) : Prop :=
  ∀ K2 : Bool → World → Prop, (∀ (x3 : Bool), ∀ w4, (
  sp x3
  (R (.tuple ⟨[.int .i64 0, .bool true]⟩) w4)
  (sp (decide ((o1 : Int) = 2))
  (R (.tuple ⟨[.int .i64 2, .bool true]⟩) w4)
  (sp (decide ((o1 : Int) = 4))
  (R (.tuple ⟨[.int .i64 1, .bool false]⟩) w4)
  (sp (decide ((o1 : Int) = 5))
  (R (.tuple ⟨[.int .i64 1, .bool true]⟩) w4)
  (sp (decide ((o1 : Int) = 6))
  (R (.tuple ⟨[.int .i64 2, .bool false]⟩) w4)
  (sp (decide ((o1 : Int) = 7))
  (R (.tuple ⟨[.int .i64 (-1), .bool true]⟩) w4)
  (R (.tuple ⟨[.int .i64 (-2), .bool false]⟩) w4))))))) → K2 x3 w4) →
  sp (decide ((o1 : Int) = 1))
  (K2 (decide ((o1 : Int) = 1)) w)
  (K2 (decide ((o1 : Int) = 3)) w)
def T54 : List Sh := [.v (.one (.int .i64)), .v (.one .any), .v (.one (.int .i64)), .v (.one .bool), .v (.one (.int .i64)), .v (.one .bool), .v (.one .bool), .v (.one .bool), .v (.one .bool), .v (.one .bool), .v (.one .bool), .v (.one .bool), .v (.one .bool), .v (.one .bool), .v (.one .bool), .v (.one .bool), .v (.one .bool), .v (.one .bool)]
def A54 : Ann := (.seq none .z (.seq none (.seq none .z (.block none (.seq (some [5]) (.seq none .z (.cond .z .z)) (.cond (.seq none .z .z) (.seq none .z (.cond (.seq none .z .z) (.seq none .z (.cond (.seq none .z .z) (.seq none .z (.cond (.seq none .z .z) (.seq none .z (.cond (.seq none .z .z) (.seq none .z (.cond (.seq none .z .z) .z)))))))))))))) (.seq none .z .z)))
theorem F54_eq (o1 : Int) (w : World) (R : Value → World → Prop) : F54 o1 w R = denF Go.Proofs.Try.prog T54 Go.Proofs.Try.f54 A54 [.int .i64 o1] w R := by kernel_rfl
theorem F54_ok (o1 : Int) {w : World} {R : Value → World → Prop} (h : F54 o1 w R) : CallP Go.Proofs.Try.prog 54 [.int .i64 o1] w R :=
  calls_den (fun _ => drawn (by kernel_rfl)) Go.Proofs.Try.func54 (Nat.le_of_ble_eq_true (by kernel_rfl)) ((F54_eq o1 w R).mp h)
end Go.Pl.Try

/- What '(palings/word.Op).Known' does, read off its translation by gen.py. -/
namespace Go.Pl.Try
set_option linter.unusedVariables false
set_option maxRecDepth 100000
def F55 (o1 : Int) (w : World) (R : Value → World → Prop) : Prop :=
  sp (decide ((1 : Int) ≤ o1))
  (R (.bool (decide ((o1 : Int) ≤ 15))) w)
  (R (.bool false) w)
def T55 : List Sh := [.v (.one (.int .i64)), .v (.one .any), .v (.one .bool), .v (.one (.int .i64)), .v (.one .bool), .v (.one .bool), .v (.one (.int .i64)), .v (.one .bool), .v (.one .bool)]
def A55 : Ann := (.seq none .z (.seq none .z .z))
theorem F55_eq (o1 : Int) (w : World) (R : Value → World → Prop) : F55 o1 w R = denF Go.Proofs.Try.prog T55 Go.Proofs.Try.f55 A55 [.int .i64 o1] w R := by kernel_rfl
theorem F55_ok (o1 : Int) {w : World} {R : Value → World → Prop} (h : F55 o1 w R) : CallP Go.Proofs.Try.prog 55 [.int .i64 o1] w R :=
  calls_den (fun _ => drawn (by kernel_rfl)) Go.Proofs.Try.func55 (Nat.le_of_ble_eq_true (by kernel_rfl)) ((F55_eq o1 w R).mp h)
end Go.Pl.Try

/- What 'palings/taint.stays' does, read off its translation by gen.py. -/
namespace Go.Pl.Try
set_option linter.unusedVariables false
set_option maxRecDepth 100000
def F63 (l1 : Int) (w : World) (R : Value → World → Prop) : Prop :=
  sp (decide ((l1 : Int) = 1))
  (R (.int .i64 0) w)
  (R (.int .i64 l1) w)
def T63 : List Sh := [.v (.one (.int .i64)), .v (.one .any), .v (.one (.int .i64)), .v (.one (.int .i64)), .v (.one .bool), .v (.one (.int .i64))]
def A63 : Ann := (.seq none .z (.seq none (.seq none .z (.cond (.seq none .z .z) .z)) (.seq none .z .z)))
theorem F63_eq (l1 : Int) (w : World) (R : Value → World → Prop) : F63 l1 w R = denF Go.Proofs.Try.prog T63 Go.Proofs.Try.f63 A63 [.int .i64 l1] w R := by kernel_rfl
theorem F63_ok (l1 : Int) {w : World} {R : Value → World → Prop} (h : F63 l1 w R) : CallP Go.Proofs.Try.prog 63 [.int .i64 l1] w R :=
  calls_den (fun _ => drawn (by kernel_rfl)) Go.Proofs.Try.func63 (Nat.le_of_ble_eq_true (by kernel_rfl)) ((F63_eq l1 w R).mp h)
end Go.Pl.Try

/- What '(palings/word.Op).Divides' does, read off its translation by gen.py. -/
namespace Go.Pl.Try
set_option linter.unusedVariables false
set_option maxRecDepth 100000
def F76 (o1 : Int) (w : World) (R : Value → World → Prop) : Prop :=
  sp (decide ((o1 : Int) = 4))
  (R (.bool true) w)
  (R (.bool (decide ((o1 : Int) = 5))) w)
def T76 : List Sh := [.v (.one (.int .i64)), .v (.one .any), .v (.one .bool), .v (.one (.int .i64)), .v (.one .bool), .v (.one .bool), .v (.one (.int .i64)), .v (.one .bool), .v (.one .bool)]
def A76 : Ann := (.seq none .z (.seq none .z .z))
theorem F76_eq (o1 : Int) (w : World) (R : Value → World → Prop) : F76 o1 w R = denF Go.Proofs.Try.prog T76 Go.Proofs.Try.f76 A76 [.int .i64 o1] w R := by kernel_rfl
theorem F76_ok (o1 : Int) {w : World} {R : Value → World → Prop} (h : F76 o1 w R) : CallP Go.Proofs.Try.prog 76 [.int .i64 o1] w R :=
  calls_den (fun _ => drawn (by kernel_rfl)) Go.Proofs.Try.func76 (Nat.le_of_ble_eq_true (by kernel_rfl)) ((F76_eq o1 w R).mp h)
end Go.Pl.Try

/- What 'palings/harden.weigh' does, read off its translation by gen.py. -/
namespace Go.Pl.Try
set_option linter.unusedVariables false
set_option maxRecDepth 100000
def F77 (deep1 : Int) (w : World) (R : Value → World → Prop) : Prop :=
  ∃ J2 : Int → Int → World → Nat → Prop, (∃ m6, J2 1 0 w m6) ∧
  ∀ (w3 : Int) (x4 : Int), ∀ w5 m6, J2 w3 x4 w5 m6 →
  sp (decide ((x4 : Int) < mnI deep1 4))
  (∃ m7, m7 < m6 ∧ J2 (IntKind.wrap .i64 (w3 * 10)) (IntKind.wrap .i64 (x4 + 1)) w5 m7)
  (R (.int .i64 w3) w5)
def T77 : List Sh := [.v (.one (.int .i64)), .v (.one .any), .v (.one (.int .i64)), .v (.one (.int .i64)), .v (.one (.int .i64)), .v (.one (.int .i64)), .v (.one (.int .i64)), .v (.one .bool), .v (.one (.int .i64)), .v (.one (.int .i64)), .v (.one (.int .i64)), .v (.one (.int .i64))]
def A77 : Ann := (.seq none .z (.seq none .z (.seq none (.seq none .z (.block none (.loop [3, 6] (.seq none .z (.seq none (.cond .z .z) (.seq none (.block none .z) .z)))))) (.seq none .z .z))))
theorem F77_eq (deep1 : Int) (w : World) (R : Value → World → Prop) : F77 deep1 w R = denF Go.Proofs.Try.prog T77 Go.Proofs.Try.f77 A77 [.int .i64 deep1] w R := by kernel_rfl
theorem F77_ok (deep1 : Int) {w : World} {R : Value → World → Prop} (h : F77 deep1 w R) : CallP Go.Proofs.Try.prog 77 [.int .i64 deep1] w R :=
  calls_den (fun _ => drawn (by kernel_rfl)) Go.Proofs.Try.func77 (Nat.le_of_ble_eq_true (by kernel_rfl)) ((F77_eq deep1 w R).mp h)
end Go.Pl.Try
