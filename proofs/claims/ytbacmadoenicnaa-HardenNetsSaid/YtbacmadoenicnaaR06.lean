/- Joined texts of the proof, part 6: WIdx, F56, F32, F58, F59, WSsa1, F26, F27, F30, F29. -/
import Derived.Test.YtbacmadoenicnaaR05
set_option maxRecDepth 2000
set_option linter.unusedVariables false
set_option linter.unusedSimpArgs false
set_option linter.unusedSectionVars false
/- 'slices.IndexFunc', 'slices.ContainsFunc' and 'slices.Clone', walked. -/
namespace Go.Pl.Try
open M
set_option linter.unusedVariables false
def RTwo (_ : World) (vs : List Value) (x : Int × Int) : Prop := vs = [.int .i64 x.1, .int .i64 x.2]
theorem RdTwo.ext {w w' : World} {a : Option Addr} {n : Nat} {xs : List (Int × Int)} (h : RdS 2 RTwo w a n xs) (hx : Ext w w') : RdS 2 RTwo w' a n xs := RdS.ext (w := w) (R := RTwo) (fun _ _ h => h) hx h
theorem any_take_step {α : Type} {p : α → Bool} {xs : List α} {j : Nat} {x : α} (hx : xs[j]? = some x) (h : (xs.take j).any p = false) : (xs.take (j + 1)).any p = p x := by
  have hj := (List.getElem?_eq_some_iff.1 hx).1
  rw [List.take_add_one, List.any_append, h, hx]
  simp
theorem any_of_take {α : Type} {p : α → Bool} {xs : List α} {j : Nat} (h : (xs.take j).any p = true) : xs.any p = true := by
  obtain ⟨x, hx, hp⟩ := List.any_eq_true.1 h
  exact List.any_eq_true.2 ⟨x, List.take_subset j xs hx, hp⟩
theorem idxIns_w {a : Option Addr} {n c : Nat} {xs : List Ins} {w : World} {f : Value} (p : Ins → Bool) (h : RdS 7 RIns w a n xs) (hf : ∀ x ∈ xs, ∀ vs w1, RIns w1 vs x → Ext w w1 → CallV Pg f [.agg ⟨vs⟩] w1 fun v w2 => v = .bool (p x) ∧ Ext w1 w2) :
    CallP Pg 53 [.slice a n c, f] w fun v w' => ∃ i, v = .int .i64 i ∧ decide (0 ≤ i) = xs.any p ∧ Ext w w' := by
  refine F53_ok _ _ _ _ ?_
  have hl := h.len
  have hle := h.le
  refine ⟨fun i w5 m => ∃ j : Nat, i = j ∧ j ≤ n ∧ m = n - j ∧ Ext w w5 ∧ (xs.take j).any p = false, ⟨n, 0, rfl, by omega, by omega, Ext.refl _, by simp⟩, ?_⟩
  rintro i w5 m ⟨j, rfl, hj, rfl, hw, hany⟩
  refine sp_dec (fun hlt => ?_) (fun hge => ?_)
  · have hjn : j < n := by omega
    obtain ⟨x, hx⟩ : ∃ x, xs[j]? = some x := ⟨_, List.getElem?_eq_getElem (by omega)⟩
    have hxm := List.mem_of_getElem? hx
    have hstep := any_take_step (p := p) hx hany
    obtain ⟨b, o, vs, ha, hrow, hvl, ai, ni, ci, rfl, hargs⟩ := h.at_ _ _ hx
    have hR : RIns w5 _ x := ⟨ai, ni, ci, rfl, hargs.ext hw⟩
    refine ⟨by omega, by omega, ptAt_of ha ⟨_, _, _, _, _, _, _, _, _, hw.row hrow, ?_⟩⟩
    refine (hf x hxm _ w5 hR hw).mono ?_
    rintro v w6 ⟨rfl, hw6⟩
    refine ⟨_, rfl, ?_⟩
    cases hp : p x with
    | true => exact ⟨_, rfl, by rw [hp] at hstep; rw [any_of_take hstep]; simp, hw.trans hw6⟩
    | false => exact ⟨n - (j + 1), by omega, j + 1, wrap_succ (by omega), by omega, rfl, hw.trans hw6, by rw [hstep, hp]⟩
  · have : j = n := by omega
    subst this
    rw [List.take_of_length_le (by omega)] at hany
    exact ⟨_, rfl, by rw [hany]; decide, hw⟩
theorem hasIns_w {a : Option Addr} {n c : Nat} {xs : List Ins} {w : World} {f : Value} (p : Ins → Bool) (h : RdS 7 RIns w a n xs) (hf : ∀ x ∈ xs, ∀ vs w1, RIns w1 vs x → Ext w w1 → CallV Pg f [.agg ⟨vs⟩] w1 fun v w2 => v = .bool (p x) ∧ Ext w1 w2) :
    CallP Pg 28 [.slice a n c, f] w fun v w' => v = .bool (xs.any p) ∧ Ext w w' := by
  refine F28_ok _ _ _ _ ?_
  refine Calls.mono (idxIns_w p h hf) ?_
  rintro e w' ⟨v, rfl, i, rfl, hi, hx⟩
  exact ⟨_, rfl, _, rfl, by rw [hi], hx⟩
theorem idxInt_w {a : Option Addr} {n c : Nat} {xs : List Int} {w : World} {f : Value} (p : Int → Bool) (h : RdS 1 (RI .i64) w a n xs) (hf : ∀ x ∈ xs, ∀ w1, Ext w w1 → CallV Pg f [.int .i64 x] w1 fun v w2 => v = .bool (p x) ∧ Ext w1 w2) :
    CallP Pg 72 [.slice a n c, f] w fun v w' => ∃ i, v = .int .i64 i ∧ decide (0 ≤ i) = xs.any p ∧ Ext w w' := by
  refine F72_ok _ _ _ _ ?_
  have hl := h.len
  have hle := h.le
  refine ⟨fun i w5 m => ∃ j : Nat, i = j ∧ j ≤ n ∧ m = n - j ∧ Ext w w5 ∧ (xs.take j).any p = false, ⟨n, 0, rfl, by omega, by omega, Ext.refl _, by simp⟩, ?_⟩
  rintro i w5 m ⟨j, rfl, hj, rfl, hw, hany⟩
  refine sp_dec (fun hlt => ?_) (fun hge => ?_)
  · have hjn : j < n := by omega
    obtain ⟨x, hx⟩ : ∃ x, xs[j]? = some x := ⟨_, List.getElem?_eq_getElem (by omega)⟩
    have hxm := List.mem_of_getElem? hx
    have hstep := any_take_step (p := p) hx hany
    obtain ⟨b, o, ha, hc⟩ := RdI.at h hx
    refine ⟨by omega, by omega, ptAt_of ha ⟨_, hw.cel hc, ?_⟩⟩
    refine (hf x hxm w5 hw).mono ?_
    rintro v w6 ⟨rfl, hw6⟩
    refine ⟨_, rfl, ?_⟩
    cases hp : p x with
    | true => exact ⟨_, rfl, by rw [hp] at hstep; rw [any_of_take hstep]; simp, hw.trans hw6⟩
    | false => exact ⟨n - (j + 1), by omega, j + 1, wrap_succ (by omega), by omega, rfl, hw.trans hw6, by rw [hstep, hp]⟩
  · have : j = n := by omega
    subst this
    rw [List.take_of_length_le (by omega)] at hany
    exact ⟨_, rfl, by rw [hany]; decide, hw⟩
theorem hasInt_w {a : Option Addr} {n c : Nat} {xs : List Int} {w : World} {f : Value} (p : Int → Bool) (h : RdS 1 (RI .i64) w a n xs) (hf : ∀ x ∈ xs, ∀ w1, Ext w w1 → CallV Pg f [.int .i64 x] w1 fun v w2 => v = .bool (p x) ∧ Ext w1 w2) :
    CallP Pg 41 [.slice a n c, f] w fun v w' => v = .bool (xs.any p) ∧ Ext w w' := by
  refine F41_ok _ _ _ _ ?_
  refine Calls.mono (idxInt_w p h hf) ?_
  rintro e w' ⟨v, rfl, i, rfl, hi, hx⟩
  exact ⟨_, rfl, _, rfl, by rw [hi], hx⟩
theorem idxI64_w {a : Option Addr} {n c : Nat} {xs : List Int} {w : World} {f : Value} (p : Int → Bool) (h : RdS 1 (RI .i64) w a n xs) (hf : ∀ x ∈ xs, ∀ w1, Ext w w1 → CallV Pg f [.int .i64 x] w1 fun v w2 => v = .bool (p x) ∧ Ext w1 w2) :
    CallP Pg 81 [.slice a n c, f] w fun v w' => ∃ i, v = .int .i64 i ∧ decide (0 ≤ i) = xs.any p ∧ Ext w w' := by
  refine F81_ok _ _ _ _ ?_
  have hl := h.len
  have hle := h.le
  refine ⟨fun i w5 m => ∃ j : Nat, i = j ∧ j ≤ n ∧ m = n - j ∧ Ext w w5 ∧ (xs.take j).any p = false, ⟨n, 0, rfl, by omega, by omega, Ext.refl _, by simp⟩, ?_⟩
  rintro i w5 m ⟨j, rfl, hj, rfl, hw, hany⟩
  refine sp_dec (fun hlt => ?_) (fun hge => ?_)
  · have hjn : j < n := by omega
    obtain ⟨x, hx⟩ : ∃ x, xs[j]? = some x := ⟨_, List.getElem?_eq_getElem (by omega)⟩
    have hxm := List.mem_of_getElem? hx
    have hstep := any_take_step (p := p) hx hany
    obtain ⟨b, o, ha, hc⟩ := RdI.at h hx
    refine ⟨by omega, by omega, ptAt_of ha ⟨_, hw.cel hc, ?_⟩⟩
    refine (hf x hxm w5 hw).mono ?_
    rintro v w6 ⟨rfl, hw6⟩
    refine ⟨_, rfl, ?_⟩
    cases hp : p x with
    | true => exact ⟨_, rfl, by rw [hp] at hstep; rw [any_of_take hstep]; simp, hw.trans hw6⟩
    | false => exact ⟨n - (j + 1), by omega, j + 1, wrap_succ (by omega), by omega, rfl, hw.trans hw6, by rw [hstep, hp]⟩
  · have : j = n := by omega
    subst this
    rw [List.take_of_length_le (by omega)] at hany
    exact ⟨_, rfl, by rw [hany]; decide, hw⟩
theorem hasI64_w {a : Option Addr} {n c : Nat} {xs : List Int} {w : World} {f : Value} (p : Int → Bool) (h : RdS 1 (RI .i64) w a n xs) (hf : ∀ x ∈ xs, ∀ w1, Ext w w1 → CallV Pg f [.int .i64 x] w1 fun v w2 => v = .bool (p x) ∧ Ext w1 w2) :
    CallP Pg 66 [.slice a n c, f] w fun v w' => v = .bool (xs.any p) ∧ Ext w w' := by
  refine F66_ok _ _ _ _ ?_
  refine Calls.mono (idxI64_w p h hf) ?_
  rintro e w' ⟨v, rfl, i, rfl, hi, hx⟩
  exact ⟨_, rfl, _, rfl, by rw [hi], hx⟩
theorem idxTwo_w {a : Option Addr} {n c : Nat} {xs : List (Int × Int)} {w : World} {f : Value} (p : (Int × Int) → Bool) (h : RdS 2 RTwo w a n xs) (hf : ∀ x ∈ xs, ∀ vs w1, RTwo w1 vs x → Ext w w1 → CallV Pg f [.agg ⟨vs⟩] w1 fun v w2 => v = .bool (p x) ∧ Ext w1 w2) :
    CallP Pg 82 [.slice a n c, f] w fun v w' => ∃ i, v = .int .i64 i ∧ decide (0 ≤ i) = xs.any p ∧ Ext w w' := by
  refine F82_ok _ _ _ _ ?_
  have hl := h.len
  have hle := h.le
  refine ⟨fun i w5 m => ∃ j : Nat, i = j ∧ j ≤ n ∧ m = n - j ∧ Ext w w5 ∧ (xs.take j).any p = false, ⟨n, 0, rfl, by omega, by omega, Ext.refl _, by simp⟩, ?_⟩
  rintro i w5 m ⟨j, rfl, hj, rfl, hw, hany⟩
  refine sp_dec (fun hlt => ?_) (fun hge => ?_)
  · have hjn : j < n := by omega
    obtain ⟨x, hx⟩ : ∃ x, xs[j]? = some x := ⟨_, List.getElem?_eq_getElem (by omega)⟩
    have hxm := List.mem_of_getElem? hx
    have hstep := any_take_step (p := p) hx hany
    obtain ⟨b, o, vs, ha, hrow, hvl, rfl⟩ := h.at_ _ _ hx
    refine ⟨by omega, by omega, ptAt_of ha ⟨_, _, hw.row hrow, ?_⟩⟩
    refine (hf x hxm _ w5 rfl hw).mono ?_
    rintro v w6 ⟨rfl, hw6⟩
    refine ⟨_, rfl, ?_⟩
    cases hp : p x with
    | true => exact ⟨_, rfl, by rw [hp] at hstep; rw [any_of_take hstep]; simp, hw.trans hw6⟩
    | false => exact ⟨n - (j + 1), by omega, j + 1, wrap_succ (by omega), by omega, rfl, hw.trans hw6, by rw [hstep, hp]⟩
  · have : j = n := by omega
    subst this
    rw [List.take_of_length_le (by omega)] at hany
    exact ⟨_, rfl, by rw [hany]; decide, hw⟩
theorem hasTwo_w {a : Option Addr} {n c : Nat} {xs : List (Int × Int)} {w : World} {f : Value} (p : (Int × Int) → Bool) (h : RdS 2 RTwo w a n xs) (hf : ∀ x ∈ xs, ∀ vs w1, RTwo w1 vs x → Ext w w1 → CallV Pg f [.agg ⟨vs⟩] w1 fun v w2 => v = .bool (p x) ∧ Ext w1 w2) :
    CallP Pg 68 [.slice a n c, f] w fun v w' => v = .bool (xs.any p) ∧ Ext w w' := by
  refine F68_ok _ _ _ _ ?_
  refine Calls.mono (idxTwo_w p h hf) ?_
  rintro e w' ⟨v, rfl, i, rfl, hi, hx⟩
  exact ⟨_, rfl, _, rfl, by rw [hi], hx⟩
theorem srcI {w : World} {a : Option Addr} {n : Nat} {xs : List Int} (h : RdI w a n xs) : Src w 1 a n (xs.map (Value.int .i64)) := by
  refine ⟨by simp [h.len], ?_⟩
  by_cases h0 : n = 0
  · exact .inl h0
  · right
    have hx : 0 < xs.length := by rw [h.len]; omega
    obtain ⟨b, o, ha, hc⟩ := RdI.at h (i := 0) (List.getElem?_eq_getElem hx)
    refine ⟨b, o, ha, fun j v hj => ?_⟩
    rw [List.getElem?_map] at hj
    obtain ⟨x, hx, rfl⟩ := Option.map_eq_some_iff.1 hj
    obtain ⟨b', o', ha', hc'⟩ := RdI.at h hx
    rw [ha] at ha'
    cases ha'
    have := hc'
    simp only [Nat.mul_one] at this
    exact this
theorem one_ints (xs : List Int) : (xs.map (Value.int .i64)).all (·.oneCell') = true := by simp [Value.oneCell']
theorem cloneI_w {a : Option Addr} {n c : Nat} {xs : List Int} {w : World} (h : RdI w a n xs) (hn : n ≤ 4294967296) :
    CallP Pg 52 [.slice a n c] w fun v w' => ∃ a' c' r, v = .slice a' n c' ∧ Sls 1 a' n c' (xs.map (Value.int .i64)) r ∧ Hp w w' (r.L 3 (xs.map (Value.int .i64))) := by
  refine F52_ok _ _ _ ?_
  refine ⟨a.isNone, ?_, ?_⟩
  · exact eql_slice_nil (e := 3) (by kernel_rfl) _ _ _ _ _ _
  · refine sp_of (fun hnil => ?_) (fun hnil => ?_)
    · have ha : a = none := by cases a with | none => rfl | some _ => cases hnil
      subst ha
      have hn0 : n = 0 := by
        rcases Nat.eq_zero_or_pos n with h0 | h0
        · exact h0
        · obtain ⟨b, o, ha, _⟩ := RdI.at h (i := 0) (List.getElem?_eq_getElem (by rw [h.len]; exact h0))
          cases ha
      subst hn0
      have : xs = [] := List.eq_nil_of_length_eq_zero h.len
      subst this
      exact ⟨none, 0, .emp, rfl, Sls.nil _ _, Hp.refl w⟩
    · refine alp (Hp.refl w) fun b3 w4 h4 => ?_
      obtain ⟨a', c', w', r', h1, h2, h3⟩ := app2 (ty := 34) slInts (by omega) (Sls.nil 1 (some ⟨b3, 0, none⟩)) [] (L := [(b3, Cl 3 [])]) h4 (srcI (RdI.ext h h4.ext)) (one_ints xs) (by simp only [maxLen]; omega) (by omega) (cx := c)
      refine ⟨_, _, _, w', by simpa using h1, a', c', r', rfl, ?_, ?_⟩
      · simpa using h2
      · have := h3.sub (L' := r'.L 3 (xs.map (Value.int .i64))) (by simp)
        exact this
end Go.Pl.Try

/- What 'palings/ssa.after' does, read off its translation by gen.py. -/
namespace Go.Pl.Try
set_option linter.unusedVariables false
set_option maxRecDepth 100000
def F56 (in1 : Option Nat) (ab2 : Option Addr) (nb2 cb2 : Nat) (ab3 : Option Addr) (nb3 cb3 : Nat) (b4 : Int) (b5 : Int) (ab6 : Option Addr) (nb6 cb6 : Nat) (b7 : Int) (w : World) (R : Value → World → Prop) : Prop :=
  AlP 47 [.slice ab2 nb2 cb2, .slice ab3 nb3 cb3, .int .i64 b4, .int .i64 b5, .slice ab6 nb6 cb6, .int .i64 b7] w fun b8 w9 =>
  AlM w9 fun b10 w11 =>
  ∃ (x12 : Option Addr), ∃ w13 : World, Sem.run Pg (Instr.range 56 (.map in1)) w11 = .ok (.pointer x12) w13 ∧
  ∃ J14 : World → Nat → Prop, (∃ m16, J14 w13 m16) ∧
  ∀ w15 m16, J14 w15 m16 →
  (∃ w18 : World, Sem.run Pg (Instr.next (.pointer x12) false 0) w15 = .ok (.tuple ⟨[.bool false]⟩) w18 ∧
  ∃ (ax25 : Option Addr) (nx25 cx25 : Nat), cel w18 b8 0 = some (.slice ax25 nx25 cx25) ∧
  ∃ J26 : Int → World → Nat → Prop, (∃ m29, J26 0 w18 m29) ∧
  ∀ (x27 : Int), ∀ w28 m29, J26 x27 w28 m29 →
  sp (decide ((x27 : Int) < (nx25 : Nat)))
  (0 ≤ (x27 : Int) ∧ (x27 : Int) < (nx25 : Nat) ∧
  ptAt ax25 fun b31 o32 =>
  ∃ (x33 : Int), cel w28 b31 (o32 + x27.toNat * 1) = some (.int .i64 x33) ∧
  ∃ w34 : World, Sem.run Pg (Instr.mapUpdate 56 (.map (some b10)) (.int .i64 x33) (.bool true)) w28 = .ok () w34 ∧
  ∃ m30, m30 < m29 ∧ J26 (IntKind.wrap .i64 (x27 + 1)) w34 m30)
  (∃ (ax35 : Option Addr) (nx35 cx35 : Nat), cel w28 b8 1 = some (.slice ax35 nx35 cx35) ∧
  ∃ J36 : Int → World → Nat → Prop, (∃ m39, J36 0 w28 m39) ∧
  ∀ (x37 : Int), ∀ w38 m39, J36 x37 w38 m39 →
  sp (decide ((x37 : Int) < (nx35 : Nat)))
  (∀ K41 : World → Prop, (∀ w42, (
  ∃ m40, m40 < m39 ∧ J36 (IntKind.wrap .i64 (x37 + 1)) w42 m40) → K41 w42) →
  0 ≤ (x37 : Int) ∧ (x37 : Int) < (nx35 : Nat) ∧
  ptAt ax35 fun b43 o44 =>
  ∃ (x45 : Int) (x46 : Int) (ax47 : Option Addr) (nx47 cx47 : Nat) (x48 : Int) (x49 : Int) (x50 : Int) (x51 : Int), Row w38 b43 (o44 + x37.toNat * 7) [.int .i64 x45, .int .i64 x46, .slice ax47 nx47 cx47, .int .i64 x48, .int .i64 x49, .int .i64 x50, .int .i64 x51] ∧
  AlP 37 [.int .i64 0, .int .i64 0, .slice none 0 0, .int .i64 0, .int .i64 0, .int .i64 0, .int .i64 0] w38 fun b52 w53 =>
  StP b52 0 [.int .i64 x45, .int .i64 x46, .slice ax47 nx47 cx47, .int .i64 x48, .int .i64 x49, .int .i64 x50, .int .i64 x51] w53 fun w54 =>
  ∃ (x55 : Int), cel w54 b52 1 = some (.int .i64 x55) ∧
  sp (!decide ((x55 : Int) = 0))
  (∃ (x56 : Int), cel w54 b52 1 = some (.int .i64 x56) ∧
  ∃ w57 : World, Sem.run Pg (Instr.mapUpdate 56 (.map (some b10)) (.int .i64 x56) (.bool true)) w54 = .ok () w57 ∧
  K41 w57)
  (K41 w54))
  (R (.map (some b10)) w38))) ∨
  (∃ (k20 v21 : Value) (w19 : World), Sem.run Pg (Instr.next (.pointer x12) false 0) w15 = .ok (.tuple ⟨[.bool true, k20, v21]⟩) w19 ∧
  ∃ (x58 : Int) (x59 : Bool), Sem.run Pg (Instr.entry (.pointer x12)) w19 = .ok (.tuple ⟨[.int .i64 x58, .bool x59]⟩) w19 ∧
  ∃ w60 : World, Sem.run Pg (Instr.mapUpdate 56 (.map (some b10)) (.int .i64 x58) (.bool true)) w19 = .ok () w60 ∧
  ∃ m17, m17 < m16 ∧ J14 w60 m17)
def T56 : List Sh := [.v (.one .map), .v (.agg [.sl, .sl, (.int .i64), (.int .i64), .sl, (.int .i64)]), .v (.one .any), .v (.one .ptr), .v (.one .map), .v (.one .map), .v (.one (.int .i64)), .v (.one .any), .v (.one (.int .i64)), .v (.one .any), .v (.one .ptr), .v (.one .map), .v (.one .map), .v (.one .ptr), .v (.one .any), .v (.one .bool), .t [(.one (.int .i64)), (.one .bool)], .v (.one (.int .i64)), .v (.one .map), .v (.one (.int .i64)), .v (.one .ptr), .v (.one .sl), .v (.one (.int .i64)), .v (.one (.int .i64)), .v (.one .bool), .v (.one .ptr), .v (.one (.int .i64)), .v (.one .map), .v (.one (.int .i64)), .v (.one (.int .i64)), .v (.one .ptr), .v (.one .sl), .v (.one (.int .i64)), .v (.one (.int .i64)), .v (.one .bool), .v (.one .ptr), .v (.agg [(.int .i64), (.int .i64), .sl, (.int .i64), (.int .i64), (.int .i64), (.int .i64)]), .v (.one .ptr), .v (.one (.int .i64)), .v (.one .bool), .v (.one .map), .v (.one .ptr), .v (.one (.int .i64)), .v (.one (.int .i64)), .v (.one .map)]
def A56 : Ann := (.seq none .z (.seq none .z (.seq none (.seq none .z (.block none (.loop [] (.seq none .z (.seq none (.cond .z .z) (.block none (.seq none .z .z))))))) (.seq none (.seq none .z (.block none (.loop [23] (.seq none .z (.seq none (.cond .z .z) (.seq none (.block none (.seq none .z .z)) .z)))))) (.seq none (.seq none .z (.block none (.loop [33] (.seq none .z (.seq none (.cond .z .z) (.seq none (.block (some []) (.seq none .z (.seq none .z (.cond .z .z)))) .z)))))) (.seq none .z .z))))))
theorem F56_eq (in1 : Option Nat) (ab2 : Option Addr) (nb2 cb2 : Nat) (ab3 : Option Addr) (nb3 cb3 : Nat) (b4 : Int) (b5 : Int) (ab6 : Option Addr) (nb6 cb6 : Nat) (b7 : Int) (w : World) (R : Value → World → Prop) : F56 in1 ab2 nb2 cb2 ab3 nb3 cb3 b4 b5 ab6 nb6 cb6 b7 w R = denF Go.Proofs.Try.prog T56 Go.Proofs.Try.f56 A56 [.map in1, .agg ⟨[.slice ab2 nb2 cb2, .slice ab3 nb3 cb3, .int .i64 b4, .int .i64 b5, .slice ab6 nb6 cb6, .int .i64 b7]⟩] w R := by kernel_rfl
theorem F56_ok (in1 : Option Nat) (ab2 : Option Addr) (nb2 cb2 : Nat) (ab3 : Option Addr) (nb3 cb3 : Nat) (b4 : Int) (b5 : Int) (ab6 : Option Addr) (nb6 cb6 : Nat) (b7 : Int) {w : World} {R : Value → World → Prop} (h : F56 in1 ab2 nb2 cb2 ab3 nb3 cb3 b4 b5 ab6 nb6 cb6 b7 w R) : CallP Go.Proofs.Try.prog 56 [.map in1, .agg ⟨[.slice ab2 nb2 cb2, .slice ab3 nb3 cb3, .int .i64 b4, .int .i64 b5, .slice ab6 nb6 cb6, .int .i64 b7]⟩] w R :=
  calls_den (fun _ => drawn (by kernel_rfl)) Go.Proofs.Try.func56 (Nat.le_of_ble_eq_true (by kernel_rfl)) ((F56_eq in1 ab2 nb2 cb2 ab3 nb3 cb3 b4 b5 ab6 nb6 cb6 b7 w R).mp h)
end Go.Pl.Try

/- What 'palings/ssa.used' does, read off its translation by gen.py. -/
namespace Go.Pl.Try
set_option linter.unusedVariables false
set_option maxRecDepth 100000
def F32 (x1 : Option Nat) (ax2 : Option Addr) (nx2 cx2 : Nat) (ax3 : Option Addr) (nx3 cx3 : Nat) (x4 : Int) (x5 : Int) (ax6 : Option Addr) (nx6 cx6 : Nat) (x7 : Int) (w : World) (R : Value → World → Prop) : Prop :=
  AlP 47 [.slice ax2 nx2 cx2, .slice ax3 nx3 cx3, .int .i64 x4, .int .i64 x5, .slice ax6 nx6 cx6, .int .i64 x7] w fun b8 w9 =>
  AlM w9 fun b10 w11 =>
  AlP 56 [.map none] w11 fun b12 w13 =>
  StP b12 0 [.map (some b10)] w13 fun w14 =>
  ∃ (x15 : Option Addr), ∃ w16 : World, Sem.run Pg (Instr.range 56 (.map x1)) w14 = .ok (.pointer x15) w16 ∧
  ∃ J17 : World → Nat → Prop, (∃ m19, J17 w16 m19) ∧
  ∀ w18 m19, J17 w18 m19 →
  (∃ w21 : World, Sem.run Pg (Instr.next (.pointer x15) false 0) w18 = .ok (.tuple ⟨[.bool false]⟩) w21 ∧
  ∃ (ax29 : Option Addr) (nx29 cx29 : Nat), cel w21 b8 0 = some (.slice ax29 nx29 cx29) ∧
  ∃ J30 : Int → World → Nat → Prop, (∃ m33, J30 0 w21 m33) ∧
  ∀ (x31 : Int), ∀ w32 m33, J30 x31 w32 m33 →
  sp (decide ((x31 : Int) < (nx29 : Nat)))
  (0 ≤ (x31 : Int) ∧ (x31 : Int) < (nx29 : Nat) ∧
  ptAt ax29 fun b35 o36 =>
  ∃ (x37 : Int), cel w32 b35 (o36 + x31.toNat * 1) = some (.int .i64 x37) ∧
  ∃ (x38 : Option Nat), cel w32 b12 0 = some (.map x38) ∧
  ∃ w39 : World, Sem.run Pg (Instr.mapUpdate 56 (.map x38) (.int .i64 x37) (.bool true)) w32 = .ok () w39 ∧
  ∃ m34, m34 < m33 ∧ J30 (IntKind.wrap .i64 (x31 + 1)) w39 m34)
  (∃ (ax40 : Option Addr) (nx40 cx40 : Nat), cel w32 b8 1 = some (.slice ax40 nx40 cx40) ∧
  ∃ J41 : Int → World → Nat → Prop, (∃ m44, J41 0 w32 m44) ∧
  ∀ (x42 : Int), ∀ w43 m44, J41 x42 w43 m44 →
  sp (decide ((x42 : Int) < (nx40 : Nat)))
  (∀ K46 : World → Prop, (∀ w47, (
  ∃ m45, m45 < m44 ∧ J41 (IntKind.wrap .i64 (x42 + 1)) w47 m45) → K46 w47) →
  0 ≤ (x42 : Int) ∧ (x42 : Int) < (nx40 : Nat) ∧
  ptAt ax40 fun b48 o49 =>
  ∃ (x50 : Int) (x51 : Int) (ax52 : Option Addr) (nx52 cx52 : Nat) (x53 : Int) (x54 : Int) (x55 : Int) (x56 : Int), Row w43 b48 (o49 + x42.toNat * 7) [.int .i64 x50, .int .i64 x51, .slice ax52 nx52 cx52, .int .i64 x53, .int .i64 x54, .int .i64 x55, .int .i64 x56] ∧
  AlP 37 [.int .i64 0, .int .i64 0, .slice none 0 0, .int .i64 0, .int .i64 0, .int .i64 0, .int .i64 0] w43 fun b57 w58 =>
  StP b57 0 [.int .i64 x50, .int .i64 x51, .slice ax52 nx52 cx52, .int .i64 x53, .int .i64 x54, .int .i64 x55, .int .i64 x56] w58 fun w59 =>
  ∃ (ax60 : Option Addr) (nx60 cx60 : Nat), cel w59 b57 2 = some (.slice ax60 nx60 cx60) ∧
  CallV Pg (.func (.func 58) ⟨[]⟩ ⟨[.pointer (some ⟨b12, 0, none⟩)]⟩) [.slice ax60 nx60 cx60] w59 fun v61 w62 => ∃ (x63 : Bool), v61 = .bool x63 ∧
  sp (!x63)
  (R (.bool false) w62)
  (∃ (x64 : Int), cel w62 b57 1 = some (.int .i64 x64) ∧
  sp (!decide ((x64 : Int) = 0))
  (∃ (x65 : Option Nat), cel w62 b12 0 = some (.map x65) ∧
  ∃ (x66 : Int), cel w62 b57 1 = some (.int .i64 x66) ∧
  ∃ w67 : World, Sem.run Pg (Instr.mapUpdate 56 (.map x65) (.int .i64 x66) (.bool true)) w62 = .ok () w67 ∧
  K46 w67)
  (K46 w62)))
  (∃ (ax68 : Option Addr) (nx68 cx68 : Nat), cel w43 b8 4 = some (.slice ax68 nx68 cx68) ∧
  ∃ J69 : Int → World → Nat → Prop, (∃ m72, J69 0 w43 m72) ∧
  ∀ (x70 : Int), ∀ w71 m72, J69 x70 w71 m72 →
  sp (decide ((x70 : Int) < (nx68 : Nat)))
  (0 ≤ (x70 : Int) ∧ (x70 : Int) < (nx68 : Nat) ∧
  ptAt ax68 fun b74 o75 =>
  ∃ (x76 : Int) (ax77 : Option Addr) (nx77 cx77 : Nat), Row w71 b74 (o75 + x70.toNat * 2) [.int .i64 x76, .slice ax77 nx77 cx77] ∧
  AlP 41 [.int .i64 0, .slice none 0 0] w71 fun b78 w79 =>
  StP b78 0 [.int .i64 x76, .slice ax77 nx77 cx77] w79 fun w80 =>
  ∃ (ax81 : Option Addr) (nx81 cx81 : Nat), cel w80 b78 1 = some (.slice ax81 nx81 cx81) ∧
  CallV Pg (.func (.func 58) ⟨[]⟩ ⟨[.pointer (some ⟨b12, 0, none⟩)]⟩) [.slice ax81 nx81 cx81] w80 fun v82 w83 => ∃ (x84 : Bool), v82 = .bool x84 ∧
  sp (!x84)
  (R (.bool false) w83)
  (∃ m73, m73 < m72 ∧ J69 (IntKind.wrap .i64 (x70 + 1)) w83 m73))
  (∃ (x85 : Int), cel w71 b8 3 = some (.int .i64 x85) ∧
  sp (decide ((x85 : Int) = 0))
  (R (.bool true) w71)
  (∃ (x86 : Option Nat), cel w71 b12 0 = some (.map x86) ∧
  ∃ (x87 : Int), cel w71 b8 3 = some (.int .i64 x87) ∧
  ∃ (x88 : Bool), Sem.run Pg (Instr.lookup 56 (.map x86) (.int .i64 x87) false) w71 = .ok (.bool x88) w71 ∧
  R (.bool x88) w71))))) ∨
  (∃ (k23 v24 : Value) (w22 : World), Sem.run Pg (Instr.next (.pointer x15) false 0) w18 = .ok (.tuple ⟨[.bool true, k23, v24]⟩) w22 ∧
  ∃ (x89 : Int) (x90 : Bool), Sem.run Pg (Instr.entry (.pointer x15)) w22 = .ok (.tuple ⟨[.int .i64 x89, .bool x90]⟩) w22 ∧
  ∃ (x91 : Option Nat), cel w22 b12 0 = some (.map x91) ∧
  ∃ w92 : World, Sem.run Pg (Instr.mapUpdate 56 (.map x91) (.int .i64 x89) (.bool true)) w22 = .ok () w92 ∧
  ∃ m20, m20 < m19 ∧ J17 w92 m20)
def T32 : List Sh := [.v (.one .map), .v (.agg [.sl, .sl, (.int .i64), (.int .i64), .sl, (.int .i64)]), .v (.one .any), .v (.one .ptr), .v (.one .bool), .v (.one .ptr), .v (.one (.int .i64)), .v (.one .any), .v (.one (.int .i64)), .v (.one .any), .v (.one .any), .v (.one .ptr), .v (.one .any), .v (.one .ptr), .v (.one .map), .v (.one .map), .v (.one .ptr), .v (.one .any), .v (.one .bool), .t [(.one (.int .i64)), (.one .bool)], .v (.one (.int .i64)), .v (.one .map), .v (.one (.int .i64)), .v (.one .ptr), .v (.one .sl), .v (.one (.int .i64)), .v (.one (.int .i64)), .v (.one .bool), .v (.one .ptr), .v (.one (.int .i64)), .v (.one .map), .v (.one (.int .i64)), .v (.one (.int .i64)), .v (.one .any), .v (.one .ptr), .v (.one .sl), .v (.one (.int .i64)), .v (.one (.int .i64)), .v (.one .bool), .v (.one .ptr), .v (.agg [(.int .i64), (.int .i64), .sl, (.int .i64), (.int .i64), (.int .i64), (.int .i64)]), .v (.one .any), .v (.one .ptr), .v (.one .sl), .v (.one .bool), .v (.one .bool), .v (.one .ptr), .v (.one (.int .i64)), .v (.one .bool), .v (.one .map), .v (.one .ptr), .v (.one (.int .i64)), .v (.one (.int .i64)), .v (.one .ptr), .v (.one .ptr), .v (.one .sl), .v (.one (.int .i64)), .v (.one (.int .i64)), .v (.one .bool), .v (.one .ptr), .v (.agg [(.int .i64), .sl]), .v (.one .any), .v (.one .ptr), .v (.one .sl), .v (.one .bool), .v (.one .bool), .v (.one (.int .i64)), .v (.one .ptr), .v (.one .ptr), .v (.one (.int .i64)), .v (.one .bool), .v (.one .bool), .v (.one .map), .v (.one .ptr), .v (.one .ptr), .v (.one (.int .i64)), .v (.one .bool), .v (.one .bool)]
def A32 : Ann := (.seq none .z (.seq none .z (.seq none (.seq none .z (.block none (.loop [] (.seq none .z (.seq none (.cond .z .z) (.block none (.seq none .z .z))))))) (.seq none (.seq none .z (.block none (.loop [26] (.seq none .z (.seq none (.cond .z .z) (.seq none (.block none (.seq none .z .z)) .z)))))) (.seq none .z (.seq none (.seq none .z (.block none (.loop [37] (.seq none .z (.seq none (.cond .z .z) (.seq none (.block (some []) (.seq none .z (.seq none (.seq none .z (.cond (.seq none .z .z) .z)) (.seq none .z (.cond .z .z))))) .z)))))) (.seq none (.seq none .z (.block none (.loop [57] (.seq none .z (.seq none (.cond .z .z) (.seq none (.block none (.seq none .z (.seq none .z (.cond (.seq none .z .z) .z)))) .z)))))) (.seq none .z .z))))))))
theorem F32_eq (x1 : Option Nat) (ax2 : Option Addr) (nx2 cx2 : Nat) (ax3 : Option Addr) (nx3 cx3 : Nat) (x4 : Int) (x5 : Int) (ax6 : Option Addr) (nx6 cx6 : Nat) (x7 : Int) (w : World) (R : Value → World → Prop) : F32 x1 ax2 nx2 cx2 ax3 nx3 cx3 x4 x5 ax6 nx6 cx6 x7 w R = denF Go.Proofs.Try.prog T32 Go.Proofs.Try.f32 A32 [.map x1, .agg ⟨[.slice ax2 nx2 cx2, .slice ax3 nx3 cx3, .int .i64 x4, .int .i64 x5, .slice ax6 nx6 cx6, .int .i64 x7]⟩] w R := by kernel_rfl
theorem F32_ok (x1 : Option Nat) (ax2 : Option Addr) (nx2 cx2 : Nat) (ax3 : Option Addr) (nx3 cx3 : Nat) (x4 : Int) (x5 : Int) (ax6 : Option Addr) (nx6 cx6 : Nat) (x7 : Int) {w : World} {R : Value → World → Prop} (h : F32 x1 ax2 nx2 cx2 ax3 nx3 cx3 x4 x5 ax6 nx6 cx6 x7 w R) : CallP Go.Proofs.Try.prog 32 [.map x1, .agg ⟨[.slice ax2 nx2 cx2, .slice ax3 nx3 cx3, .int .i64 x4, .int .i64 x5, .slice ax6 nx6 cx6, .int .i64 x7]⟩] w R :=
  calls_den (fun _ => drawn (by kernel_rfl)) Go.Proofs.Try.func32 (Nat.le_of_ble_eq_true (by kernel_rfl)) ((F32_eq x1 ax2 nx2 cx2 ax3 nx3 cx3 x4 x5 ax6 nx6 cx6 x7 w R).mp h)
end Go.Pl.Try

/- What 'palings/ssa.used$1' does, read off its translation by gen.py. -/
namespace Go.Pl.Try
set_option linter.unusedVariables false
set_option maxRecDepth 100000
def F58 (alist1 : Option Addr) (nlist1 clist1 : Nat) (b2 : Nat) (o3 : Nat) (w : World) (R : Value → World → Prop) : Prop :=
  CallP Pg 41 [.slice alist1 nlist1 clist1, .func (.func 59) ⟨[]⟩ ⟨[.pointer (some ⟨b2, o3, none⟩)]⟩] w fun v4 w5 => ∃ (x6 : Bool), v4 = .bool x6 ∧
  R (.bool (!x6)) w5
def T58 : List Sh := [.v (.one .sl), .v (.one .ptr), .v (.one .any), .v (.one .bool), .v (.one .sl), .v (.one .any), .v (.one .bool), .v (.one .bool)]
def A58 : Ann := (.seq none .z (.seq none .z .z))
theorem F58_eq (alist1 : Option Addr) (nlist1 clist1 : Nat) (b2 : Nat) (o3 : Nat) (w : World) (R : Value → World → Prop) : F58 alist1 nlist1 clist1 b2 o3 w R = denF Go.Proofs.Try.prog T58 Go.Proofs.Try.f58 A58 [.slice alist1 nlist1 clist1, .pointer (some ⟨b2, o3, none⟩)] w R := by kernel_rfl
theorem F58_ok (alist1 : Option Addr) (nlist1 clist1 : Nat) (b2 : Nat) (o3 : Nat) {w : World} {R : Value → World → Prop} (h : F58 alist1 nlist1 clist1 b2 o3 w R) : CallP Go.Proofs.Try.prog 58 [.slice alist1 nlist1 clist1, .pointer (some ⟨b2, o3, none⟩)] w R :=
  calls_den (fun _ => drawn (by kernel_rfl)) Go.Proofs.Try.func58 (Nat.le_of_ble_eq_true (by kernel_rfl)) ((F58_eq alist1 nlist1 clist1 b2 o3 w R).mp h)
end Go.Pl.Try

/- What 'palings/ssa.used$1$1' does, read off its translation by gen.py. -/
namespace Go.Pl.Try
set_option linter.unusedVariables false
set_option maxRecDepth 100000
def F59 (v1 : Int) (b2 : Nat) (o3 : Nat) (w : World) (R : Value → World → Prop) : Prop :=
  ∃ (x4 : Option Nat), cel w b2 o3 = some (.map x4) ∧
  ∃ (x5 : Bool), Sem.run Pg (Instr.lookup 56 (.map x4) (.int .i64 v1) false) w = .ok (.bool x5) w ∧
  R (.bool (!x5)) w
def T59 : List Sh := [.v (.one (.int .i64)), .v (.one .ptr), .v (.one .any), .v (.one .bool), .v (.one .map), .v (.one (.int .i64)), .v (.one .bool), .v (.one .bool)]
def A59 : Ann := (.seq none .z (.seq none .z .z))
theorem F59_eq (v1 : Int) (b2 : Nat) (o3 : Nat) (w : World) (R : Value → World → Prop) : F59 v1 b2 o3 w R = denF Go.Proofs.Try.prog T59 Go.Proofs.Try.f59 A59 [.int .i64 v1, .pointer (some ⟨b2, o3, none⟩)] w R := by kernel_rfl
theorem F59_ok (v1 : Int) (b2 : Nat) (o3 : Nat) {w : World} {R : Value → World → Prop} (h : F59 v1 b2 o3 w R) : CallP Go.Proofs.Try.prog 59 [.int .i64 v1, .pointer (some ⟨b2, o3, none⟩)] w R :=
  calls_den (fun _ => drawn (by kernel_rfl)) Go.Proofs.Try.func59 (Nat.le_of_ble_eq_true (by kernel_rfl)) ((F59_eq v1 b2 o3 w R).mp h)
end Go.Pl.Try

/- What is known ahead of a block, and what is used: walked. -/
namespace Go.Pl
theorem go_keep {w0 w1 w2 : World} {p : Option Nat} {f : Int → Option Value} {m left : List (Int × Value)} {oi : Obj} (hp : RMap w0 p f) (h1 : Ext w0 w1) (h2 : Ext w0 w2) (h : Going w1 p m left oi) : Going w2 p m left oi := by
  cases p with
  | none => exact h
  | some b =>
    obtain ⟨o, hb, -⟩ := hp
    have hlt := (Array.getElem?_eq_some_iff.1 hb).1
    obtain ⟨om, hb1, hr⟩ := h
    exact ⟨om, by rw [h2.blk b hlt, ← h1.blk b hlt]; exact hb1, hr⟩
def setF (l : List Int) : Int → Option Value := fun k => if k ∈ l then some (.bool true) else none
theorem setF_congr {a b : List Int} (h : ∀ k, k ∈ a ↔ k ∈ b) (k : Int) : setF a k = setF b k := by simp [setF, h k]
theorem setF_add (l : List Int) (k x : Int) : (if x = k then some (Value.bool true) else setF l x) = setF (l ++ [k]) x := by
  unfold setF
  by_cases h : x = k <;> simp [h]
theorem MapO.add {l : List Int} {k : Int} {o : Obj} (h : MapO (fun x => if x = k then some (Value.bool true) else setF l x) o) : MapO (setF (l ++ [k])) o := h.congr fun x => setF_add l k x
theorem setF_nil : MapO (setF []) (.map #[] 0) := MapO.empty.congr fun k => by simp [setF]
theorem getD_setF (l : List Int) (k : Int) : (setF l k).getD (.bool false) = .bool (decide (k ∈ l)) := by unfold setF; by_cases h : k ∈ l <;> simp [h]
end Go.Pl
namespace Go.Pl.Try
open M
set_option linter.unusedVariables false
theorem mpBool : mpT Pg 56 4 = true := by kernel_rfl
theorem mpEnds : mpT Pg 133 3 = true := by kernel_rfl
theorem zI : zeroOf Pg 3 = some (.int .i64 0) := by kernel_rfl
theorem zB : zeroOf Pg 4 = some (.bool false) := by kernel_rfl
theorem dsts_step {is : List Ins} {j : Nat} {i : Ins} (h : is[j]? = some i) : dsts (is.take (j + 1)) = dsts (is.take j) ++ (if i.dst = 0 then [] else [i.dst]) := by
  rw [List.take_add_one, h]
  unfold dsts
  by_cases h0 : i.dst = 0 <;> simp [h0]
theorem mem_keys {m : List (Int × Value)} {S : List Int} (h : ∀ k, mget m k = setF S k) (k : Int) : k ∈ m.map Prod.fst ↔ k ∈ S := by
  have := h k
  constructor
  · intro hk
    obtain ⟨p, hp, rfl⟩ := List.mem_map.1 hk
    by_cases hs : p.1 ∈ S
    · exact hs
    · simp only [setF, hs, if_false] at this
      exact absurd rfl (mget_none.1 this p hp)
  · intro hs
    simp only [setF, hs, if_true] at this
    exact List.mem_map.2 ⟨_, mem_of_mget this, rfl⟩
theorem after_w {w : World} {p : Option Nat} {S : List Int} {vs : List Value} {b : Blk} (hp : RMap w p (setF S)) (hb : RBlock w vs b) :
    CallP Pg 56 [.map p, .agg ⟨vs⟩] w fun v w' => ∃ r o, v = .map (some r) ∧ MapO (setF (after S b)) o ∧ Hp w w' [(r, o)] := by
  obtain ⟨ap, np, cp, ai, ni, ci, ae, ne, ce, rfl, hpa, hia, hea⟩ := hb
  refine F56_ok _ _ _ _ _ _ _ _ _ _ _ _ _ ?_
  unfold F56
  refine alp (Hp.refl w) fun b8 w9 h9 => ?_
  refine alm h9 fun b10 w11 h11 => ?_
  obtain ⟨r, w13, oi, m, hrun, h13, hg, hget, hnd, hx13, hne⟩ := go_range mpBool h11 (hp.ext h11.ext)
  refine ⟨_, w13, hrun, ?_⟩
  refine ⟨fun w' c => ∃ oi' left done o, Hp w w' [(r, oi'), (b10, o), (b8, Cl 47 [.slice ap np cp, .slice ai ni ci, .int .i64 b.fin.kind, .int .i64 b.fin.val, .slice ae ne ce, .int .i64 b.fin.trap])] ∧ Going w' p m left oi' ∧
    MapO (setF done) o ∧ (∀ k, k ∈ S ↔ k ∈ done ∨ k ∈ left.map Prod.fst) ∧ c = left.length, ⟨m.length, oi, m, [], _, h13, hg, setF_nil, fun k => by rw [← mem_keys hget k]; simp, rfl⟩, ?_⟩
  rintro w15 c ⟨oi', left, done, o, h15, hg15, ho, hS, rfl⟩
  rcases go_next (P := Pg) (ty := 0) h15 0 rfl hne hg15 with ⟨rfl, hn⟩ | ⟨k, v, left', w16, oi2, hperm, hn, h16, hg16, hkm, hent, -, -⟩
  · left
    have ho' : MapO (setF S) o := ho.congr (setF_congr fun k => by rw [hS k]; simp)
    refine ⟨w15, hn, _, _, _, h15.cl 2 rfl rfl, ?_⟩
    refine ⟨fun i w' c => ∃ (j : Nat) (o : Obj), i = j ∧ j ≤ np ∧ c = np - j ∧ Hp w w' [(r, oi'), (b10, o), (b8, Cl 47 [.slice ap np cp, .slice ai ni ci, .int .i64 b.fin.kind, .int .i64 b.fin.val, .slice ae ne ce, .int .i64 b.fin.trap])] ∧
      MapO (setF (S ++ b.params.take j)) o, ⟨np, 0, o, rfl, by omega, by omega, h15, by simpa using ho'⟩, ?_⟩
    have hpl := hpa.len
    have hple := hpa.le
    rintro i w28 c ⟨j, o1, rfl, hj, rfl, h28, ho1⟩
    refine sp_dec (fun hlt => ?_) (fun hge => ?_)
    · have hjn : j < np := by omega
      have hx : b.params[j]? = some b.params[j] := List.getElem?_eq_getElem (by omega)
      obtain ⟨bb, ob, ha, hc⟩ := RdI.at hpa hx
      obtain ⟨w34, o2, hu, ho2, h34⟩ := upd_map mpBool h28 1 rfl ho1 b.params[j] (.bool true)
      refine ⟨by omega, by omega, ptAt_of ha ⟨_, h28.ext.cel hc, w34, hu, np - (j + 1), by omega, j + 1, o2, wrap_succ (by omega), by omega, rfl, h34, ?_⟩⟩
      have := ho2.add
      rw [List.take_add_one, hx]
      simpa using this
    · have hjn : j = np := by omega
      subst hjn
      rw [List.take_of_length_le (by omega)] at ho1
      refine ⟨_, _, _, h28.cl 2 rfl rfl, ?_⟩
      refine ⟨fun i w' c => ∃ (j' : Nat) (o : Obj), i = j' ∧ j' ≤ ni ∧ c = ni - j' ∧ Hp w w' [(r, oi'), (b10, o), (b8, Cl 47 [.slice ap j cp, .slice ai ni ci, .int .i64 b.fin.kind, .int .i64 b.fin.val, .slice ae ne ce, .int .i64 b.fin.trap])] ∧
        MapO (setF (S ++ b.params ++ dsts (b.ins.take j'))) o, ⟨ni, 0, o1, rfl, by omega, by omega, h28, by simpa [dsts] using ho1⟩, ?_⟩
      have hil := hia.len
      have hile := hia.le
      rintro i w38 c ⟨j', o2, rfl, hj', rfl, h38, ho2⟩
      refine sp_dec (fun hlt => ?_) (fun hge => ?_)
      · intro K hK
        have hx : b.ins[j']? = some b.ins[j'] := List.getElem?_eq_getElem (by omega)
        generalize b.ins[j'] = x at hx
        obtain ⟨bb, ob, vs, ha, hrow, hvl, aa, na, ca, rfl, hargs⟩ := hia.at_ _ _ hx
        refine ⟨by omega, by omega, ptAt_of ha ⟨_, _, _, _, _, _, _, _, _, h38.ext.row hrow, ?_⟩⟩
        refine alp h38 fun b52 w53 h53 => ?_
        refine stp h53 0 rfl (by simp) rfl fun w54 h54 => ?_
        have hds := dsts_step hx
        refine ⟨_, h54.cl 0 rfl rfl, ?_⟩
        refine sp_of (fun h0 => ?_) (fun h0 => ?_)
        · have h0' : x.dst ≠ 0 := by simpa using h0
          obtain ⟨w57, o3, hu, ho3, h57⟩ := upd_map mpBool h54 2 rfl ho2 x.dst (.bool true)
          refine ⟨_, h54.cl 0 rfl rfl, w57, hu, hK _ ⟨ni - (j' + 1), by omega, j' + 1, o3, wrap_succ (by omega), by omega, rfl, h57.drop 1, ?_⟩⟩
          rw [hds, if_neg h0', ← List.append_assoc]
          exact ho3.add
        · have h0' : x.dst = 0 := by simpa using h0
          refine hK _ ⟨ni - (j' + 1), by omega, j' + 1, o2, wrap_succ (by omega), by omega, rfl, h54.drop 1, ?_⟩
          rw [hds, if_pos h0', List.append_nil]
          exact ho2
      · have : j' = ni := by omega
        subst this
        rw [List.take_of_length_le (by omega)] at ho2
        refine ⟨b10, o2, rfl, ?_, h38.sub (by simp)⟩
        simpa [after, Blk.made] using ho2
  · right
    have hv : v = .bool true := by
      have h1 := mget_mem hnd hkm
      rw [hget] at h1
      unfold setF at h1
      split at h1
      · cases h1; rfl
      · cases h1
    subst hv
    obtain ⟨w17, o2, hu, ho2, h17⟩ := upd_map mpBool h16 1 rfl ho k (.bool true)
    refine ⟨_, _, w16, hn, k, true, hent, w17, hu, left'.length, by rw [hperm.length_eq]; simp, oi2, left', done ++ [k], o2, h17, go_keep hp h16.ext h17.ext hg16, ho2.add, ?_, rfl⟩
    intro x
    rw [hS x, (hperm.map Prod.fst).mem_iff]
    simp only [List.map_cons, List.mem_cons, List.mem_append, List.mem_singleton, List.not_mem_nil, or_false]
    exact or_assoc.symm
theorem used11_w {w : World} {b o : Nat} {p : Option Nat} {S : List Int} (v : Int) (hc : cel w b o = some (.map p)) (hp : RMap w p (setF S)) :
    CallP Pg 59 [.int .i64 v, .pointer (some ⟨b, o, none⟩)] w fun r w' => r = .bool (!decide (v ∈ S)) ∧ w' = w := by
  refine F59_ok _ _ _ ⟨_, hc, decide (v ∈ S), ?_, rfl, rfl⟩
  rw [look_map mpBool zB hp, getD_setF]
theorem used1_w {w : World} {b o : Nat} {p : Option Nat} {S : List Int} {a : Option Addr} {n c : Nat} {xs : List Int} (h : RdI w a n xs) (hc : cel w b o = some (.map p)) (hp : RMap w p (setF S)) :
    CallP Pg 58 [.slice a n c, .pointer (some ⟨b, o, none⟩)] w fun r w' => r = .bool (xs.all fun v => decide (v ∈ S)) ∧ Ext w w' := by
  refine F58_ok _ _ _ _ _ ?_
  refine (hasInt_w (fun v => !decide (v ∈ S)) h ?_).mono ?_
  · intro x _ w1 hx
    refine ⟨by kernel_rfl, ?_⟩
    exact (used11_w x (hx.cel hc) (hp.ext hx)).mono fun v w' ⟨h1, h2⟩ => ⟨h1, by rw [h2]; exact Ext.refl _⟩
  · rintro v w' ⟨rfl, hx⟩
    refine ⟨_, rfl, ?_, hx⟩
    rw [List.any_eq_not_all_not]
    simp
theorem usedIns_mem {a b : List Int} (h : ∀ k, k ∈ a ↔ k ∈ b) : ∀ is, usedIns a is = usedIns b is := by
  intro is
  induction is generalizing a b with
  | nil => rfl
  | cons i is ih =>
    simp only [usedIns]
    have h1 : (i.args.all fun v => decide (v ∈ a)) = (i.args.all fun v => decide (v ∈ b)) := by congr 1; funext v; simp [h v]
    rw [h1]
    congr 1
    by_cases h0 : i.dst = 0
    · simp only [h0, if_true]; exact ih h
    · simp only [h0, if_false]; exact ih fun k => by simp [h k]
theorem used_w {w : World} {p : Option Nat} {S : List Int} {vs : List Value} {b : Blk} (hp : RMap w p (setF S)) (hb : RBlock w vs b) :
    CallP Pg 32 [.map p, .agg ⟨vs⟩] w fun v w' => v = .bool (used S b) ∧ Ext w w' := by
  obtain ⟨ap, np, cp, ai, ni, ci, ae, ne, ce, rfl, hpa, hia, hea⟩ := hb
  refine F32_ok _ _ _ _ _ _ _ _ _ _ _ _ _ ?_
  unfold F32
  refine alp (Hp.refl w) fun b8 w9 h9 => ?_
  refine alm h9 fun b10 w11 h11 => ?_
  refine alp h11 fun b12 w13 h13 => ?_
  refine stp h13 0 rfl (by simp) rfl fun w14 h14 => ?_
  have hpl := hpa.len
  have hple := hpa.le
  have hil := hia.len
  have hile := hia.le
  have hel := hea.len
  have hele := hea.le
  obtain ⟨r, w16, oi, m, hrun, h16, hg, hget, hnd, hx16, hne⟩ := go_range mpBool h14 (hp.ext h14.ext)
  refine ⟨_, w16, hrun, ?_⟩
  generalize hbx : Cl 47 [.slice ap np cp, .slice ai ni ci, .int .i64 b.fin.kind, .int .i64 b.fin.val, .slice ae ne ce, .int .i64 b.fin.trap] = box at *
  refine ⟨fun w' c => ∃ oi' left done o, Hp w w' [(r, oi'), (b12, Cl 56 [.map (some b10)]), (b10, o), (b8, box)] ∧ Going w' p m left oi' ∧
    MapO (setF done) o ∧ (∀ k, k ∈ S ↔ k ∈ done ∨ k ∈ left.map Prod.fst) ∧ c = left.length, ⟨m.length, oi, m, [], _, h16, hg, setF_nil, fun k => by rw [← mem_keys hget k]; simp, rfl⟩, ?_⟩
  rintro w15 c ⟨oi', left, done, o, h15, hg15, ho, hS, rfl⟩
  rcases go_next (P := Pg) (ty := 0) h15 0 rfl hne hg15 with ⟨rfl, hn⟩ | ⟨k, v, left', w16, oi2, hperm, hn, h16, hg16, hkm, hent, -, -⟩
  · left
    have ho' : MapO (setF S) o := ho.congr (setF_congr fun k => by rw [hS k]; simp)
    subst hbx
    refine ⟨w15, hn, _, _, _, h15.cl 3 rfl rfl, ?_⟩
    generalize hbx : Cl 47 [.slice ap np cp, .slice ai ni ci, .int .i64 b.fin.kind, .int .i64 b.fin.val, .slice ae ne ce, .int .i64 b.fin.trap] = box at *
    refine ⟨fun i w' c => ∃ (j : Nat) (o : Obj), i = j ∧ j ≤ np ∧ c = np - j ∧ Hp w w' [(r, oi'), (b12, Cl 56 [.map (some b10)]), (b10, o), (b8, box)] ∧ MapO (setF (S ++ b.params.take j)) o, ⟨np, 0, o, rfl, by omega, by omega, h15, by simpa using ho'⟩, ?_⟩
    rintro i w28 c ⟨j, o1, rfl, hj, rfl, h28, ho1⟩
    refine sp_dec (fun hlt => ?_) (fun hge => ?_)
    · have hjn : j < np := by omega
      have hx : b.params[j]? = some b.params[j] := List.getElem?_eq_getElem (by omega)
      obtain ⟨bb, ob, ha, hc⟩ := RdI.at hpa hx
      obtain ⟨w34, o2, hu, ho2, h34⟩ := upd_map mpBool h28 2 rfl ho1 b.params[j] (.bool true)
      refine ⟨by omega, by omega, ptAt_of ha ⟨_, h28.ext.cel hc, _, h28.cl 1 rfl rfl, w34, hu, np - (j + 1), by omega, j + 1, o2, wrap_succ (by omega), by omega, rfl, h34, ?_⟩⟩
      have := ho2.add
      rw [List.take_add_one, hx]
      simpa using this
    · have hjn : j = np := by omega
      rw [List.take_of_length_le (by omega)] at ho1
      subst hbx
      refine ⟨_, _, _, h28.cl 3 rfl rfl, ?_⟩
      generalize hbx : Cl 47 [.slice ap np cp, .slice ai ni ci, .int .i64 b.fin.kind, .int .i64 b.fin.val, .slice ae ne ce, .int .i64 b.fin.trap] = box at *
      refine ⟨fun i w' c => ∃ (j' : Nat) (o : Obj) (now : List Int), i = j' ∧ j' ≤ ni ∧ c = ni - j' ∧ Hp w w' [(r, oi'), (b12, Cl 56 [.map (some b10)]), (b10, o), (b8, box)] ∧
        MapO (setF now) o ∧ (∀ k, k ∈ now ↔ k ∈ S ++ b.params ++ dsts (b.ins.take j')) ∧ usedIns (S ++ b.params) b.ins = usedIns now (b.ins.drop j'), ⟨ni, 0, o1, S ++ b.params, rfl, by omega, by omega, h28, ho1, by simp [dsts], rfl⟩, ?_⟩
      rintro i w38 c ⟨j', o2, now, rfl, hj', rfl, h38, ho2, hnow, hus⟩
      refine sp_dec (fun hlt => ?_) (fun hge => ?_)
      · intro K hK
        have hx : b.ins[j']? = some b.ins[j'] := List.getElem?_eq_getElem (by omega)
        have hdrop : b.ins.drop j' = b.ins[j'] :: b.ins.drop (j' + 1) := List.drop_eq_getElem_cons (by omega)
        generalize b.ins[j'] = x at hx hdrop
        rw [hdrop] at hus
        simp only [usedIns] at hus
        obtain ⟨bb, ob, vs, ha, hrow, hvl, aa, na, ca, rfl, hargs⟩ := hia.at_ _ _ hx
        refine ⟨by omega, by omega, ptAt_of ha ⟨_, _, _, _, _, _, _, _, _, h38.ext.row hrow, ?_⟩⟩
        refine alp h38 fun b52 w53 h53 => ?_
        refine stp h53 0 rfl (by simp) rfl fun w54 h54 => ?_
        refine ⟨_, _, _, h54.cl 0 rfl rfl, by kernel_rfl, ?_⟩
        refine (used1_w (RdI.ext hargs.rd h54.ext) (h54.cl 2 rfl rfl) (h54.rmap 3 rfl ho2)).mono ?_
        rintro v w62 ⟨rfl, hx62⟩
        have h62 := h54.step hx62
        have hds := dsts_step hx
        refine ⟨_, rfl, sp_of (fun hall => ?_) (fun hall => ?_)⟩
        · refine ⟨?_, h62.ext⟩
          have : (x.args.all fun v => decide (v ∈ now)) = false := by simpa using hall
          rw [used, hus, this]; simp
        · have hall' : (x.args.all fun v => decide (v ∈ now)) = true := by simpa using hall
          rw [hall', Bool.true_and] at hus
          refine ⟨_, h62.cl 0 rfl rfl, sp_of (fun h0 => ?_) (fun h0 => ?_)⟩
          · have h0' : x.dst ≠ 0 := by simpa using h0
            obtain ⟨w57, o3, hu, ho3, h57⟩ := upd_map mpBool h62 3 rfl ho2 x.dst (.bool true)
            refine ⟨_, h62.cl 2 rfl rfl, _, h62.cl 0 rfl rfl, w57, hu, hK _ ⟨ni - (j' + 1), by omega, j' + 1, o3, now ++ [x.dst], wrap_succ (by omega), by omega, rfl, h57.drop 1, ho3.add, ?_, ?_⟩⟩
            · intro k; rw [hds, if_neg h0']
              simp only [List.mem_append, hnow k, or_assoc]
            · rw [hus, if_neg h0']
              exact usedIns_mem (fun k => by simp [or_comm]) _
          · have h0' : x.dst = 0 := by simpa using h0
            refine hK _ ⟨ni - (j' + 1), by omega, j' + 1, o2, now, wrap_succ (by omega), by omega, rfl, h62.drop 1, ho2, ?_, ?_⟩
            · intro k; rw [hds, if_pos h0', List.append_nil]; exact hnow k
            · rw [hus, if_pos h0']
      · have hj'n : j' = ni := by omega
        rw [List.take_of_length_le (by omega)] at hnow
        rw [List.drop_of_length_le (by omega)] at hus
        simp only [usedIns] at hus
        have hnow' : ∀ k, k ∈ now ↔ k ∈ after S b := fun k => by rw [hnow k]; simp [after, Blk.made]
        subst hbx
        refine ⟨_, _, _, h38.cl 3 rfl rfl, ?_⟩
        refine ⟨fun i w' c => ∃ (j : Nat), i = j ∧ j ≤ ne ∧ c = ne - j ∧ Hp w w' [(r, oi'), (b12, Cl 56 [.map (some b10)]), (b10, o2), (b8, Cl 47 [.slice ap np cp, .slice ai ni ci, .int .i64 b.fin.kind, .int .i64 b.fin.val, .slice ae ne ce, .int .i64 b.fin.trap])] ∧
          ((b.fin.ways.take j).all fun w => w.args.all fun v => decide (v ∈ after S b)) = true, ⟨ne, 0, rfl, by omega, by omega, h38, by simp⟩, ?_⟩
        rintro i w71 c ⟨q, rfl, hq, rfl, h71, hways⟩
        refine sp_dec (fun hlt => ?_) (fun hge => ?_)
        · have hx : b.fin.ways[q]? = some b.fin.ways[q] := List.getElem?_eq_getElem (by omega)
          generalize b.fin.ways[q] = x at hx
          obtain ⟨bb, ob, vs, ha, hrow, hvl, aa, na, ca, rfl, hargs⟩ := hea.at_ _ _ hx
          refine ⟨by omega, by omega, ptAt_of ha ⟨_, _, _, _, h71.ext.row hrow, ?_⟩⟩
          refine alp h71 fun b52 w53 h53 => ?_
          refine stp h53 0 rfl (by simp) rfl fun w54 h54 => ?_
          refine ⟨_, _, _, h54.cl 0 rfl rfl, by kernel_rfl, ?_⟩
          refine (used1_w (RdI.ext hargs h54.ext) (h54.cl 2 rfl rfl) (h54.rmap 3 rfl ho2)).mono ?_
          rintro v w62 ⟨rfl, hx62⟩
          have h62 := h54.step hx62
          have heq : (x.args.all fun v => decide (v ∈ now)) = x.args.all fun v => decide (v ∈ after S b) := by congr 1; funext v; simp [hnow' v]
          refine ⟨_, rfl, sp_of (fun hall => ?_) (fun hall => ?_)⟩
          · refine ⟨?_, h62.ext⟩
            have h1 : (x.args.all fun v => decide (v ∈ after S b)) = false := by rw [← heq]; simpa using hall
            have h2 : (b.fin.ways.all fun w => w.args.all fun v => decide (v ∈ after S b)) = false := by
              rw [List.all_eq_false]
              exact ⟨x, List.mem_of_getElem? hx, by rw [h1]; decide⟩
            rw [used, h2]; simp
          · have h1 : (x.args.all fun v => decide (v ∈ after S b)) = true := by rw [← heq]; simpa using hall
            refine ⟨ne - (q + 1), by omega, q + 1, wrap_succ (by omega), by omega, rfl, h62.drop 1, ?_⟩
            rw [List.take_add_one, hx, List.all_append, hways]
            simp [h1]
        · have : q = ne := by omega
          rw [List.take_of_length_le (by omega)] at hways
          refine ⟨_, h71.cl 3 rfl rfl, sp_dec (fun h0 => ?_) (fun h0 => ?_)⟩
          · refine ⟨?_, h71.ext⟩
            rw [used, hus, hways, h0]; simp
          · refine ⟨_, h71.cl 1 rfl rfl, _, h71.cl 3 rfl rfl, decide (b.fin.val ∈ now), ?_, ?_, h71.ext⟩
            · rw [look_map mpBool zB (h71.rmap 2 rfl ho2), getD_setF]
            · rw [used, hus, hways]; simp [h0, hnow' b.fin.val]
  · right
    have hv : v = .bool true := by
      have h1 := mget_mem hnd hkm
      rw [hget] at h1
      unfold setF at h1
      split at h1
      · cases h1; rfl
      · cases h1
    subst hv
    obtain ⟨w17, o2, hu, ho2, h17⟩ := upd_map mpBool h16 2 rfl ho k (.bool true)
    refine ⟨_, _, w16, hn, k, true, hent, _, h16.cl 1 rfl rfl, w17, hu, left'.length, by rw [hperm.length_eq]; simp, oi2, left', done ++ [k], o2, h17, go_keep hp h16.ext h17.ext hg16, ho2.add, ?_, rfl⟩
    intro x
    rw [hS x, (hperm.map Prod.fst).mem_iff]
    simp only [List.map_cons, List.mem_cons, List.mem_append, List.mem_singleton, List.not_mem_nil, or_false]
    exact or_assoc.symm
end Go.Pl.Try

/- What '(palings/ssa.Func).once' does, read off its translation by gen.py. -/
namespace Go.Pl.Try
set_option linter.unusedVariables false
set_option maxRecDepth 100000
def F26 (f1 : ByteArray) (af2 : Option Addr) (nf2 cf2 : Nat) (w : World) (R : Value → World → Prop) : Prop :=
  AlP 29 [.string f1, .slice af2 nf2 cf2] w fun b3 w4 =>
  AlM w4 fun b5 w6 =>
  ∃ (ax7 : Option Addr) (nx7 cx7 : Nat), cel w6 b3 1 = some (.slice ax7 nx7 cx7) ∧
  ∃ J8 : Int → World → Nat → Prop, (∃ m11, J8 0 w6 m11) ∧
  ∀ (x9 : Int), ∀ w10 m11, J8 x9 w10 m11 →
  sp (decide ((x9 : Int) < (nx7 : Nat)))
  (0 ≤ (x9 : Int) ∧ (x9 : Int) < (nx7 : Nat) ∧
  ptAt ax7 fun b13 o14 =>
  ∃ (ax15 : Option Addr) (nx15 cx15 : Nat) (ax16 : Option Addr) (nx16 cx16 : Nat) (x17 : Int) (x18 : Int) (ax19 : Option Addr) (nx19 cx19 : Nat) (x20 : Int), Row w10 b13 (o14 + x9.toNat * 6) [.slice ax15 nx15 cx15, .slice ax16 nx16 cx16, .int .i64 x17, .int .i64 x18, .slice ax19 nx19 cx19, .int .i64 x20] ∧
  AlP 47 [.slice none 0 0, .slice none 0 0, .int .i64 0, .int .i64 0, .slice none 0 0, .int .i64 0] w10 fun b21 w22 =>
  StP b21 0 [.slice ax15 nx15 cx15, .slice ax16 nx16 cx16, .int .i64 x17, .int .i64 x18, .slice ax19 nx19 cx19, .int .i64 x20] w22 fun w23 =>
  ∃ (ax24 : Option Addr) (nx24 cx24 : Nat), cel w23 b21 0 = some (.slice ax24 nx24 cx24) ∧
  CallP Pg 52 [.slice ax24 nx24 cx24] w23 fun v25 w26 => ∃ (ax27 : Option Addr) (nx27 cx27 : Nat), v25 = .slice ax27 nx27 cx27 ∧
  ∃ (ax28 : Option Addr) (nx28 cx28 : Nat), cel w26 b21 1 = some (.slice ax28 nx28 cx28) ∧
  ∃ J29 : Option Addr → Nat → Nat → Int → World → Nat → Prop, (∃ m33, J29 ax27 nx27 cx27 0 w26 m33) ∧
  ∀ (amade30 : Option Addr) (nmade30 cmade30 : Nat) (x31 : Int), ∀ w32 m33, J29 amade30 nmade30 cmade30 x31 w32 m33 →
  sp (decide ((x31 : Int) < (nx28 : Nat)))
  (∀ K35 : Option Addr → Nat → Nat → World → Prop, (∀ (amade36 : Option Addr) (nmade36 cmade36 : Nat), ∀ w37, (
  ∃ m34, m34 < m33 ∧ J29 amade36 nmade36 cmade36 (IntKind.wrap .i64 (x31 + 1)) w37 m34) → K35 amade36 nmade36 cmade36 w37) →
  0 ≤ (x31 : Int) ∧ (x31 : Int) < (nx28 : Nat) ∧
  ptAt ax28 fun b38 o39 =>
  ∃ (x40 : Int) (x41 : Int) (ax42 : Option Addr) (nx42 cx42 : Nat) (x43 : Int) (x44 : Int) (x45 : Int) (x46 : Int), Row w32 b38 (o39 + x31.toNat * 7) [.int .i64 x40, .int .i64 x41, .slice ax42 nx42 cx42, .int .i64 x43, .int .i64 x44, .int .i64 x45, .int .i64 x46] ∧
  AlP 37 [.int .i64 0, .int .i64 0, .slice none 0 0, .int .i64 0, .int .i64 0, .int .i64 0, .int .i64 0] w32 fun b47 w48 =>
  StP b47 0 [.int .i64 x40, .int .i64 x41, .slice ax42 nx42 cx42, .int .i64 x43, .int .i64 x44, .int .i64 x45, .int .i64 x46] w48 fun w49 =>
  ∃ (x50 : Int), cel w49 b47 1 = some (.int .i64 x50) ∧
  sp (!decide ((x50 : Int) = 0))
  (∃ (x51 : Int), cel w49 b47 1 = some (.int .i64 x51) ∧
  AlP 3 [.int .i64 x51] w49 fun b52 w53 =>
  ∃ (ax54 : Option Addr) (nx54 cx54 : Nat), ∃ w55 : World, Sem.run Pg (Builtin.append_ #[34, 34] 34 ⟨[.slice amade30 nmade30 cmade30, .slice (some ⟨b52, 0, none⟩) 1 1]⟩) w53 = .ok (.slice ax54 nx54 cx54) w55 ∧
  K35 ax54 nx54 cx54 w55)
  (K35 amade30 nmade30 cmade30 w49))
  (∃ J56 : Int → World → Nat → Prop, (∃ m59, J56 0 w32 m59) ∧
  ∀ (x57 : Int), ∀ w58 m59, J56 x57 w58 m59 →
  sp (decide ((x57 : Int) < (nmade30 : Nat)))
  (0 ≤ (x57 : Int) ∧ (x57 : Int) < (nmade30 : Nat) ∧
  ptAt amade30 fun b61 o62 =>
  ∃ (x63 : Int), cel w58 b61 (o62 + x57.toNat * 1) = some (.int .i64 x63) ∧
  ∀ K64 : World → Prop, (∀ w65, (
  ∃ w66 : World, Sem.run Pg (Instr.mapUpdate 56 (.map (some b5)) (.int .i64 x63) (.bool true)) w65 = .ok () w66 ∧
  ∃ m60, m60 < m59 ∧ J56 (IntKind.wrap .i64 (x57 + 1)) w66 m60) → K64 w65) →
  ∀ K67 : World → Prop, (∀ w68, (
  R (.bool false) w68) → K67 w68) →
  sp (decide ((x63 : Int) ≤ 0))
  (K67 w58)
  (∃ (x69 : Bool), Sem.run Pg (Instr.lookup 56 (.map (some b5)) (.int .i64 x63) false) w58 = .ok (.bool x69) w58 ∧
  sp x69
  (K67 w58)
  (K64 w58)))
  (∃ m12, m12 < m11 ∧ J8 (IntKind.wrap .i64 (x9 + 1)) w58 m12)))
  (R (.bool true) w10)
def T26 : List Sh := [.v (.agg [.str, .sl]), .v (.one .ptr), .v (.one .bool), .v (.one .map), .v (.one .any), .v (.one .ptr), .v (.one .sl), .v (.one .any), .v (.one .ptr), .v (.one .any), .v (.one (.int .i64)), .v (.one .map), .v (.one .ptr), .v (.one .sl), .v (.one (.int .i64)), .v (.one (.int .i64)), .v (.one .bool), .v (.one .ptr), .v (.agg [.sl, .sl, (.int .i64), (.int .i64), .sl, (.int .i64)]), .v (.one .ptr), .v (.one .sl), .v (.one .sl), .v (.one .ptr), .v (.one .sl), .v (.one (.int .i64)), .v (.one (.int .i64)), .v (.one .bool), .v (.one .ptr), .v (.agg [(.int .i64), (.int .i64), .sl, (.int .i64), (.int .i64), (.int .i64), (.int .i64)]), .v (.one .ptr), .v (.one (.int .i64)), .v (.one .bool), .v (.one .sl), .v (.one .ptr), .v (.one (.int .i64)), .v (.one .sl), .v (.one .sl), .v (.one (.int .i64)), .v (.one .sl), .v (.one (.int .i64)), .v (.one (.int .i64)), .v (.one .bool), .v (.one .ptr), .v (.one (.int .i64)), .v (.one (.int .i64)), .v (.one .bool), .v (.one .bool), .v (.one .map), .v (.one (.int .i64)), .v (.one .bool), .v (.one .bool), .v (.one .map), .v (.one (.int .i64)), .v (.one (.int .i64)), .v (.one (.int .i64))]
def A26 : Ann := (.seq none .z (.seq none .z (.seq none (.seq none .z (.block none (.loop [15] (.seq none .z (.seq none (.cond .z .z) (.seq none (.block none (.seq none .z (.seq none .z (.seq none (.seq none .z (.block none (.loop [6, 25] (.seq none .z (.seq none (.cond .z .z) (.seq none (.block (some [6]) (.seq none .z (.seq none .z (.cond .z .z)))) .z)))))) (.seq none .z (.block none (.loop [40] (.seq none .z (.seq none (.cond .z .z) (.seq none (.block none (.seq none .z (.seq (some []) (.ifs (some []) none (.seq none .z .z) .z) .z))) .z)))))))))) .z)))))) (.seq none .z .z))))
theorem F26_eq (f1 : ByteArray) (af2 : Option Addr) (nf2 cf2 : Nat) (w : World) (R : Value → World → Prop) : F26 f1 af2 nf2 cf2 w R = denF Go.Proofs.Try.prog T26 Go.Proofs.Try.f26 A26 [.agg ⟨[.string f1, .slice af2 nf2 cf2]⟩] w R := by kernel_rfl
theorem F26_ok (f1 : ByteArray) (af2 : Option Addr) (nf2 cf2 : Nat) {w : World} {R : Value → World → Prop} (h : F26 f1 af2 nf2 cf2 w R) : CallP Go.Proofs.Try.prog 26 [.agg ⟨[.string f1, .slice af2 nf2 cf2]⟩] w R :=
  calls_den (fun _ => drawn (by kernel_rfl)) Go.Proofs.Try.func26 (Nat.le_of_ble_eq_true (by kernel_rfl)) ((F26_eq f1 af2 nf2 cf2 w R).mp h)
end Go.Pl.Try

/- What '(palings/ssa.Func).ends' does, read off its translation by gen.py. -/
namespace Go.Pl.Try
set_option linter.unusedVariables false
set_option maxRecDepth 100000
def F27 (x1 : ByteArray) (ax2 : Option Addr) (nx2 cx2 : Nat) (x3 : Int) (x4 : Int) (ax5 : Option Addr) (nx5 cx5 : Nat) (x6 : Int) (w : World) (R : Value → World → Prop) : Prop :=
  AlP 29 [.string x1, .slice ax2 nx2 cx2] w fun b7 w8 =>
  AlP 45 [.int .i64 x3, .int .i64 x4, .slice ax5 nx5 cx5, .int .i64 x6] w8 fun b9 w10 =>
  AlM w10 fun b11 w12 =>
  ∃ w13 : World, Sem.run Pg (Instr.mapUpdate 133 (.map (some b11)) (.int .i64 1) (.int .i64 1)) w12 = .ok () w13 ∧
  ∃ w14 : World, Sem.run Pg (Instr.mapUpdate 133 (.map (some b11)) (.int .i64 2) (.int .i64 2)) w13 = .ok () w14 ∧
  ∃ w15 : World, Sem.run Pg (Instr.mapUpdate 133 (.map (some b11)) (.int .i64 3) (.int .i64 0)) w14 = .ok () w15 ∧
  ∃ w16 : World, Sem.run Pg (Instr.mapUpdate 133 (.map (some b11)) (.int .i64 4) (.int .i64 0)) w15 = .ok () w16 ∧
  ∃ (x17 : Int), cel w16 b9 0 = some (.int .i64 x17) ∧
  ∃ (x18 : Int) (x19 : Bool), Sem.run Pg (Instr.lookup 133 (.map (some b11)) (.int .i64 x17) true) w16 = .ok (.tuple ⟨[.int .i64 x18, .bool x19]⟩) w16 ∧
  ∀ K20 : World → Prop, (∀ w21, (
  ∃ (ax22 : Option Addr) (nx22 cx22 : Nat), cel w21 b9 2 = some (.slice ax22 nx22 cx22) ∧
  ∃ J23 : Int → World → Nat → Prop, (∃ m26, J23 0 w21 m26) ∧
  ∀ (x24 : Int), ∀ w25 m26, J23 x24 w25 m26 →
  sp (decide ((x24 : Int) < (nx22 : Nat)))
  (0 ≤ (x24 : Int) ∧ (x24 : Int) < (nx22 : Nat) ∧
  ptAt ax22 fun b28 o29 =>
  ∃ (x30 : Int) (ax31 : Option Addr) (nx31 cx31 : Nat), Row w25 b28 (o29 + x24.toNat * 2) [.int .i64 x30, .slice ax31 nx31 cx31] ∧
  AlP 41 [.int .i64 0, .slice none 0 0] w25 fun b32 w33 =>
  StP b32 0 [.int .i64 x30, .slice ax31 nx31 cx31] w33 fun w34 =>
  ∀ K35 : Bool → World → Prop, (∀ (x36 : Bool), ∀ w37, (
  sp x36
  (R (.bool false) w37)
  (∃ m27, m27 < m26 ∧ J23 (IntKind.wrap .i64 (x24 + 1)) w37 m27)) → K35 x36 w37) →
  ∃ (x38 : Int), cel w34.drew b32 0 = some (.int .i64 x38) ∧
  sp (decide ((x38 : Int) < 1))
  (K35 true w34.drew)
  (∃ (x39 : Int), cel w34.drew b32 0 = some (.int .i64 x39) ∧
  ∃ (ax40 : Option Addr) (nx40 cx40 : Nat), cel w34.drew b7 1 = some (.slice ax40 nx40 cx40) ∧
  sp (decide (((nx40 : Nat) : Int) ≤ x39))
  (K35 true w34.drew)
  (∃ (ax41 : Option Addr) (nx41 cx41 : Nat), cel w34.drew b32 1 = some (.slice ax41 nx41 cx41) ∧
  ∃ (ax42 : Option Addr) (nx42 cx42 : Nat), cel w34.drew b7 1 = some (.slice ax42 nx42 cx42) ∧
  ∃ (x43 : Int), cel w34.drew b32 0 = some (.int .i64 x43) ∧
  0 ≤ (x43 : Int) ∧ (x43 : Int) < (nx42 : Nat) ∧
  ptAt ax42 fun b44 o45 =>
  ∃ (ax46 : Option Addr) (nx46 cx46 : Nat), cel w34.drew b44 (o45 + x43.toNat * 6) = some (.slice ax46 nx46 cx46) ∧
  K35 (!decide (((nx41 : Nat) : Int) = (nx46 : Nat))) w34.drew)))
  (R (.bool true) w25)) → K20 w21) →
  ∀ K47 : World → Prop, (∀ w48, (
  R (.bool false) w48) → K47 w48) →
  sp (!x19)
  (K47 w16)
  (∃ (ax49 : Option Addr) (nx49 cx49 : Nat), cel w16 b9 2 = some (.slice ax49 nx49 cx49) ∧
  sp (!decide (((nx49 : Nat) : Int) = x18))
  (K47 w16)
  (∃ (x50 : Int), cel w16 b9 0 = some (.int .i64 x50) ∧
  ∃ (x51 : Int), cel w16 b9 3 = some (.int .i64 x51) ∧
  sp (decide ((x51 : Int) = 1))
  (sp (!(decide ((x50 : Int) = 4) == true))
  (K47 w16)
  (∃ (x52 : Int), cel w16 b9 0 = some (.int .i64 x52) ∧
  sp (decide ((x52 : Int) = 2))
  (∃ (x53 : Int), cel w16 b9 1 = some (.int .i64 x53) ∧
  sp (!(true == decide ((0 : Int) < x53)))
  (K47 w16)
  (∃ (x54 : Int), cel w16 b9 1 = some (.int .i64 x54) ∧
  sp (decide ((x54 : Int) < 0))
  (K47 w16)
  (K20 w16)))
  (∃ (x55 : Int), cel w16 b9 0 = some (.int .i64 x55) ∧
  ∃ (x56 : Int), cel w16 b9 1 = some (.int .i64 x56) ∧
  sp (!(decide ((x55 : Int) = 3) == decide ((0 : Int) < x56)))
  (K47 w16)
  (∃ (x57 : Int), cel w16 b9 1 = some (.int .i64 x57) ∧
  sp (decide ((x57 : Int) < 0))
  (K47 w16)
  (K20 w16)))))
  (∃ (x58 : Int), cel w16 b9 3 = some (.int .i64 x58) ∧
  sp (!(decide ((x50 : Int) = 4) == decide ((x58 : Int) = 2)))
  (K47 w16)
  (∃ (x59 : Int), cel w16 b9 0 = some (.int .i64 x59) ∧
  sp (decide ((x59 : Int) = 2))
  (∃ (x60 : Int), cel w16 b9 1 = some (.int .i64 x60) ∧
  sp (!(true == decide ((0 : Int) < x60)))
  (K47 w16)
  (∃ (x61 : Int), cel w16 b9 1 = some (.int .i64 x61) ∧
  sp (decide ((x61 : Int) < 0))
  (K47 w16)
  (K20 w16)))
  (∃ (x62 : Int), cel w16 b9 0 = some (.int .i64 x62) ∧
  ∃ (x63 : Int), cel w16 b9 1 = some (.int .i64 x63) ∧
  sp (!(decide ((x62 : Int) = 3) == decide ((0 : Int) < x63)))
  (K47 w16)
  (∃ (x64 : Int), cel w16 b9 1 = some (.int .i64 x64) ∧
  sp (decide ((x64 : Int) < 0))
  (K47 w16)
  (K20 w16)))))))
def T27 : List Sh := [.v (.agg [.str, .sl]), .v (.agg [(.int .i64), (.int .i64), .sl, (.int .i64)]), .v (.one .ptr), .v (.one .ptr), .v (.one .bool), .v (.one .map), .v (.one (.int .i64)), .v (.one .bool), .v (.one .any), .v (.one .ptr), .v (.one .map), .v (.one .map), .t [(.one (.int .i64)), (.one .bool)], .v (.one .map), .v (.one .ptr), .v (.one (.int .i64)), .t [(.one (.int .i64)), (.one .bool)], .v (.one (.int .i64)), .v (.one .bool), .v (.one .bool), .v (.one .bool), .v (.one .bool), .v (.one .ptr), .v (.one .sl), .v (.one (.int .i64)), .v (.one (.int .i64)), .v (.one .bool), .v (.one .bool), .v (.one .bool), .v (.one .ptr), .v (.one (.int .i64)), .v (.one .bool), .v (.one .ptr), .v (.one (.int .i64)), .v (.one .bool), .v (.one .bool), .v (.one .ptr), .v (.one (.int .i64)), .v (.one .bool), .v (.one .bool), .v (.one .bool), .v (.one .bool), .v (.one .bool), .v (.one .ptr), .v (.one (.int .i64)), .v (.one .bool), .v (.one .bool), .v (.one .ptr), .v (.one (.int .i64)), .v (.one .bool), .v (.one .bool), .v (.one .ptr), .v (.one (.int .i64)), .v (.one .bool), .v (.one .bool), .v (.one .bool), .v (.one .bool), .v (.one .ptr), .v (.one (.int .i64)), .v (.one .bool), .v (.one .bool), .v (.one .ptr), .v (.one .sl), .v (.one (.int .i64)), .v (.one (.int .i64)), .v (.one .bool), .v (.one .ptr), .v (.agg [(.int .i64), .sl]), .v (.one .ptr), .v (.one (.int .i64)), .v (.one .bool), .v (.one .bool), .v (.one .ptr), .v (.one (.int .i64)), .v (.one .ptr), .v (.one .sl), .v (.one (.int .i64)), .v (.one .bool), .v (.one .bool), .v (.one .bool), .v (.one .ptr), .v (.one .sl), .v (.one (.int .i64)), .v (.one .ptr), .v (.one .sl), .v (.one .ptr), .v (.one (.int .i64)), .v (.one .ptr), .v (.one .ptr), .v (.one .sl), .v (.one (.int .i64)), .v (.one .bool), .v (.one .bool), .v (.one (.int .i64))]
def A27 : Ann := (.seq none .z (.seq none .z (.seq none .z (.seq (some []) (.ifs (some []) none (.seq none .z .z) .z) (.seq none (.seq none .z (.block none (.loop [64] (.seq none .z (.seq none (.cond .z .z) (.seq none (.block none (.seq none .z (.seq (some [92]) (.dr [0, 1, 0, 0, 0, 1, 0, 1, 0, 0, 0, 0, 0, 1, 0, 0, 1, 0, 1, 0, 0, 1, 0, 0, 0] [0, 1, 2, 3, 4, 5, 6, 7, 8, 9, 10, 11, 12, 13, 14, 15, 16, 17, 18, 19, 20, 21, 22, 23, 24]) (.cond (.seq none .z .z) .z)))) .z)))))) (.seq none .z .z))))))
theorem F27_eq (x1 : ByteArray) (ax2 : Option Addr) (nx2 cx2 : Nat) (x3 : Int) (x4 : Int) (ax5 : Option Addr) (nx5 cx5 : Nat) (x6 : Int) (w : World) (R : Value → World → Prop) : F27 x1 ax2 nx2 cx2 x3 x4 ax5 nx5 cx5 x6 w R = denF Go.Proofs.Try.prog T27 Go.Proofs.Try.f27 A27 [.agg ⟨[.string x1, .slice ax2 nx2 cx2]⟩, .agg ⟨[.int .i64 x3, .int .i64 x4, .slice ax5 nx5 cx5, .int .i64 x6]⟩] w R := by kernel_rfl
theorem F27_ok (x1 : ByteArray) (ax2 : Option Addr) (nx2 cx2 : Nat) (x3 : Int) (x4 : Int) (ax5 : Option Addr) (nx5 cx5 : Nat) (x6 : Int) {w : World} {R : Value → World → Prop} (h : F27 x1 ax2 nx2 cx2 x3 x4 ax5 nx5 cx5 x6 w R) : CallP Go.Proofs.Try.prog 27 [.agg ⟨[.string x1, .slice ax2 nx2 cx2]⟩, .agg ⟨[.int .i64 x3, .int .i64 x4, .slice ax5 nx5 cx5, .int .i64 x6]⟩] w R :=
  calls_den (fun _ => drawn (by kernel_rfl)) Go.Proofs.Try.func27 (Nat.le_of_ble_eq_true (by kernel_rfl)) ((F27_eq x1 ax2 nx2 cx2 x3 x4 ax5 nx5 cx5 x6 w R).mp h)
end Go.Pl.Try

/- What '(palings/ssa.Prog).right' does, read off its translation by gen.py. -/
namespace Go.Pl.Try
set_option linter.unusedVariables false
set_option maxRecDepth 100000
def F30 (ax1 : Option Addr) (nx1 cx1 : Nat) (ax2 : Option Addr) (nx2 cx2 : Nat) (x3 : Int) (x4 : Int) (x5 : Int) (ax6 : Option Addr) (nx6 cx6 : Nat) (x7 : Int) (x8 : Int) (x9 : Int) (x10 : Int) (w : World) (R : Value → World → Prop) : Prop :=
  AlP 32 [.slice ax1 nx1 cx1, .slice ax2 nx2 cx2, .int .i64 x3] w fun b11 w12 =>
  AlP 37 [.int .i64 x4, .int .i64 x5, .slice ax6 nx6 cx6, .int .i64 x7, .int .i64 x8, .int .i64 x9, .int .i64 x10] w12 fun b13 w14 =>
  ∃ (x15 : Int), cel w14 b13 0 = some (.int .i64 x15) ∧
  CallP Pg 54 [.int .i64 x15] w14 fun v16 w17 => ∃ (x18 : Int) (x19 : Bool), v16 = .tuple ⟨[.int .i64 x18, .bool x19]⟩ ∧
  ∀ K20 : World → Prop, (∀ w21, (
  ∃ (x22 : Int), cel w21 b13 0 = some (.int .i64 x22) ∧
  sp (decide ((x22 : Int) = 2))
  (∃ (x23 : Int), cel w21 b13 4 = some (.int .i64 x23) ∧
  CallP Pg 55 [.int .i64 x23] w21 fun v24 w25 => ∃ (x26 : Bool), v24 = .bool x26 ∧
  R (.bool x26) w25)
  (∀ K27 : Bool → World → Prop, (∀ (x28 : Bool), ∀ w29, (
  sp x28
  (∃ (x30 : Int), cel w29 b13 5 = some (.int .i64 x30) ∧
  sp (decide ((0 : Int) ≤ x30))
  (∃ (x31 : Int), cel w29 b13 5 = some (.int .i64 x31) ∧
  ∃ (ax32 : Option Addr) (nx32 cx32 : Nat), cel w29 b11 0 = some (.slice ax32 nx32 cx32) ∧
  sp (decide ((x31 : Int) < (nx32 : Nat)))
  (∃ (ax33 : Option Addr) (nx33 cx33 : Nat), cel w29 b11 0 = some (.slice ax33 nx33 cx33) ∧
  ∃ (x34 : Int), cel w29 b13 5 = some (.int .i64 x34) ∧
  0 ≤ (x34 : Int) ∧ (x34 : Int) < (nx33 : Nat) ∧
  ptAt ax33 fun b35 o36 =>
  ∃ (x37 : Int), cel w29 b35 (o36 + x34.toNat * 3 + 2) = some (.int .i64 x37) ∧
  R (.bool (decide ((x37 : Int) = 0))) w29)
  (R (.bool false) w29))
  (R (.bool false) w29))
  (∀ K38 : Bool → World → Prop, (∀ (x39 : Bool), ∀ w40, (
  sp x39
  (∃ (x41 : Int), cel w40 b13 5 = some (.int .i64 x41) ∧
  sp (decide ((0 : Int) ≤ x41))
  (∃ (x42 : Int), cel w40 b13 5 = some (.int .i64 x42) ∧
  ∃ (ax43 : Option Addr) (nx43 cx43 : Nat), cel w40 b11 0 = some (.slice ax43 nx43 cx43) ∧
  sp (decide ((x42 : Int) < (nx43 : Nat)))
  (∃ (ax44 : Option Addr) (nx44 cx44 : Nat), cel w40 b11 0 = some (.slice ax44 nx44 cx44) ∧
  ∃ (x45 : Int), cel w40 b13 5 = some (.int .i64 x45) ∧
  0 ≤ (x45 : Int) ∧ (x45 : Int) < (nx44 : Nat) ∧
  ptAt ax44 fun b46 o47 =>
  ∃ (x48 : Int), cel w40 b46 (o47 + x45.toNat * 3 + 2) = some (.int .i64 x48) ∧
  R (.bool (decide ((0 : Int) < x48))) w40)
  (R (.bool false) w40))
  (R (.bool false) w40))
  (sp (decide ((x22 : Int) = 7))
  (∃ (x49 : Int), cel w40.drew b13 6 = some (.int .i64 x49) ∧
  sp (decide ((0 : Int) ≤ x49))
  (∃ (x50 : Int), cel w40.drew b13 6 = some (.int .i64 x50) ∧
  ∃ (ax51 : Option Addr) (nx51 cx51 : Nat), cel w40.drew b11 1 = some (.slice ax51 nx51 cx51) ∧
  sp (decide ((x50 : Int) < (nx51 : Nat)))
  (∃ (ax52 : Option Addr) (nx52 cx52 : Nat), cel w40.drew b11 1 = some (.slice ax52 nx52 cx52) ∧
  ∃ (x53 : Int), cel w40.drew b13 6 = some (.int .i64 x53) ∧
  0 ≤ (x53 : Int) ∧ (x53 : Int) < (nx52 : Nat) ∧
  ptAt ax52 fun b54 o55 =>
  ∃ (ax56 : Option Addr) (nx56 cx56 : Nat), cel w40.drew b54 (o55 + x53.toNat * 2 + 1) = some (.slice ax56 nx56 cx56) ∧
  sp (decide ((0 : Int) < (nx56 : Nat)))
  (∃ (ax57 : Option Addr) (nx57 cx57 : Nat), cel w40.drew b13 2 = some (.slice ax57 nx57 cx57) ∧
  ∃ (ax58 : Option Addr) (nx58 cx58 : Nat), cel w40.drew b11 1 = some (.slice ax58 nx58 cx58) ∧
  ∃ (x59 : Int), cel w40.drew b13 6 = some (.int .i64 x59) ∧
  0 ≤ (x59 : Int) ∧ (x59 : Int) < (nx58 : Nat) ∧
  ptAt ax58 fun b60 o61 =>
  ∃ (ax62 : Option Addr) (nx62 cx62 : Nat), cel w40.drew b60 (o61 + x59.toNat * 2 + 1) = some (.slice ax62 nx62 cx62) ∧
  0 ≤ (0 : Int) ∧ (0 : Int) < (nx62 : Nat) ∧
  ptAt ax62 fun b63 o64 =>
  ∃ (ax65 : Option Addr) (nx65 cx65 : Nat), cel w40.drew b63 o64 = some (.slice ax65 nx65 cx65) ∧
  R (.bool (decide (((nx57 : Nat) : Int) = (nx65 : Nat)))) w40.drew)
  (R (.bool false) w40.drew))
  (R (.bool false) w40.drew))
  (R (.bool false) w40.drew))
  (R (.bool true) w40))) → K38 x39 w40) →
  sp (decide ((x22 : Int) = 5))
  (K38 (decide ((x22 : Int) = 5)) w29)
  (K38 (decide ((x22 : Int) = 6)) w29))) → K27 x28 w29) →
  sp (decide ((x22 : Int) = 3))
  (K27 (decide ((x22 : Int) = 3)) w21)
  (K27 (decide ((x22 : Int) = 4)) w21))) → K20 w21) →
  ∀ K66 : World → Prop, (∀ w67, (
  R (.bool false) w67) → K66 w67) →
  sp (decide ((x18 : Int) = (-2)))
  (K66 w17)
  (sp (decide ((0 : Int) ≤ x18))
  (∃ (ax68 : Option Addr) (nx68 cx68 : Nat), cel w17 b13 2 = some (.slice ax68 nx68 cx68) ∧
  sp (!decide (((nx68 : Nat) : Int) = x18))
  (K66 w17)
  (∃ (x69 : Int), cel w17 b13 1 = some (.int .i64 x69) ∧
  sp (!(x19 == decide ((0 : Int) < x69)))
  (K66 w17)
  (∃ (x70 : Int), cel w17 b13 1 = some (.int .i64 x70) ∧
  sp (decide ((x70 : Int) < 0))
  (K66 w17)
  (K20 w17))))
  (∃ (x71 : Int), cel w17 b13 1 = some (.int .i64 x71) ∧
  sp (!(x19 == decide ((0 : Int) < x71)))
  (K66 w17)
  (∃ (x72 : Int), cel w17 b13 1 = some (.int .i64 x72) ∧
  sp (decide ((x72 : Int) < 0))
  (K66 w17)
  (K20 w17))))
def T30 : List Sh := [.v (.agg [.sl, .sl, (.int .i64)]), .v (.agg [(.int .i64), (.int .i64), .sl, (.int .i64), (.int .i64), (.int .i64), (.int .i64)]), .v (.one .ptr), .v (.one .ptr), .v (.one .bool), .v (.one (.int .i64)), .v (.one .bool), .t [(.one (.int .i64)), (.one .bool)], .v (.one .ptr), .v (.one (.int .i64)), .t [(.one (.int .i64)), (.one .bool)], .v (.one (.int .i64)), .v (.one .bool), .v (.one (.int .i64)), .v (.one .bool), .v (.one .bool), .v (.one (.int .i64)), .v (.one .bool), .v (.one .bool), .v (.one .ptr), .v (.one .sl), .v (.one (.int .i64)), .v (.one (.int .i64)), .v (.one .bool), .v (.one .bool), .v (.one .bool), .v (.one .bool), .v (.one .bool), .v (.one .ptr), .v (.one (.int .i64)), .v (.one .bool), .v (.one .bool), .v (.one .bool), .v (.one .bool), .v (.one .ptr), .v (.one (.int .i64)), .v (.one .bool), .v (.one .bool), .v (.one .ptr), .v (.one (.int .i64)), .v (.one .bool), .v (.one .bool), .v (.one .ptr), .v (.one (.int .i64)), .v (.one .bool), .v (.one .bool), .v (.one .bool), .v (.one .bool), .v (.one .ptr), .v (.one (.int .i64)), .v (.one .bool), .v (.one .bool), .v (.one .ptr), .v (.one (.int .i64)), .v (.one .ptr), .v (.one .sl), .v (.one (.int .i64)), .v (.one .bool), .v (.one .bool), .v (.one .bool), .v (.one .ptr), .v (.one .sl), .v (.one .ptr), .v (.one (.int .i64)), .v (.one .ptr), .v (.one .ptr), .v (.one (.int .i64)), .v (.one .bool), .v (.one .bool), .v (.one .bool), .v (.one .bool), .v (.one .bool), .v (.one .ptr), .v (.one (.int .i64)), .v (.one .bool), .v (.one .bool), .v (.one .ptr), .v (.one (.int .i64)), .v (.one .ptr), .v (.one .sl), .v (.one (.int .i64)), .v (.one .bool), .v (.one .bool), .v (.one .bool), .v (.one .ptr), .v (.one .sl), .v (.one .ptr), .v (.one (.int .i64)), .v (.one .ptr), .v (.one .ptr), .v (.one (.int .i64)), .v (.one .bool), .v (.one .bool), .v (.one .bool), .v (.one .bool), .v (.one .ptr), .v (.one (.int .i64)), .v (.one .bool), .v (.one .bool), .v (.one .ptr), .v (.one (.int .i64)), .v (.one .ptr), .v (.one .sl), .v (.one (.int .i64)), .v (.one .bool), .v (.one .bool), .v (.one .bool), .v (.one .ptr), .v (.one .sl), .v (.one .ptr), .v (.one (.int .i64)), .v (.one .ptr), .v (.one .ptr), .v (.one .sl), .v (.one (.int .i64)), .v (.one .bool), .v (.one .bool), .v (.one .bool), .v (.one .ptr), .v (.one .sl), .v (.one (.int .i64)), .v (.one .ptr), .v (.one .sl), .v (.one .ptr), .v (.one (.int .i64)), .v (.one .ptr), .v (.one .ptr), .v (.one .sl), .v (.one .ptr), .v (.one .ptr), .v (.one .sl), .v (.one (.int .i64)), .v (.one .bool), .v (.one .bool)]
def A30 : Ann := (.seq none .z (.seq none .z (.seq (some []) (.ifs (some []) none (.seq none .z .z) .z) (.seq none (.seq none .z (.block none (.seq none .z (.cond (.seq none .z .z) (.seq (some [45]) (.seq none .z (.cond .z .z)) (.cond (.seq none .z .z) (.seq (some [69]) (.seq none .z (.cond .z .z)) (.cond (.seq none .z .z) (.seq none .z (.cond (.seq none (.dr [0, 1, 0, 0, 0, 1, 0, 1, 0, 0, 0, 0, 0, 1, 0, 1, 0, 0, 1, 0, 0, 0, 0, 0, 1, 0, 0, 1, 0, 1, 0, 0, 1, 0, 0, 1, 0, 0, 0, 0] [0, 1, 2, 3, 4, 5, 6, 7, 8, 9, 10, 11, 12, 13, 14, 15, 16, 17, 18, 19, 20, 21, 22, 23, 24, 25, 26, 27, 28, 29, 30, 31, 32, 33, 34, 35, 36, 37, 38, 39]) .z) .z)))))))))) (.seq none .z .z)))))
theorem F30_eq (ax1 : Option Addr) (nx1 cx1 : Nat) (ax2 : Option Addr) (nx2 cx2 : Nat) (x3 : Int) (x4 : Int) (x5 : Int) (ax6 : Option Addr) (nx6 cx6 : Nat) (x7 : Int) (x8 : Int) (x9 : Int) (x10 : Int) (w : World) (R : Value → World → Prop) : F30 ax1 nx1 cx1 ax2 nx2 cx2 x3 x4 x5 ax6 nx6 cx6 x7 x8 x9 x10 w R = denF Go.Proofs.Try.prog T30 Go.Proofs.Try.f30 A30 [.agg ⟨[.slice ax1 nx1 cx1, .slice ax2 nx2 cx2, .int .i64 x3]⟩, .agg ⟨[.int .i64 x4, .int .i64 x5, .slice ax6 nx6 cx6, .int .i64 x7, .int .i64 x8, .int .i64 x9, .int .i64 x10]⟩] w R := by kernel_rfl
theorem F30_ok (ax1 : Option Addr) (nx1 cx1 : Nat) (ax2 : Option Addr) (nx2 cx2 : Nat) (x3 : Int) (x4 : Int) (x5 : Int) (ax6 : Option Addr) (nx6 cx6 : Nat) (x7 : Int) (x8 : Int) (x9 : Int) (x10 : Int) {w : World} {R : Value → World → Prop} (h : F30 ax1 nx1 cx1 ax2 nx2 cx2 x3 x4 x5 ax6 nx6 cx6 x7 x8 x9 x10 w R) : CallP Go.Proofs.Try.prog 30 [.agg ⟨[.slice ax1 nx1 cx1, .slice ax2 nx2 cx2, .int .i64 x3]⟩, .agg ⟨[.int .i64 x4, .int .i64 x5, .slice ax6 nx6 cx6, .int .i64 x7, .int .i64 x8, .int .i64 x9, .int .i64 x10]⟩] w R :=
  calls_den (fun _ => drawn (by kernel_rfl)) Go.Proofs.Try.func30 (Nat.le_of_ble_eq_true (by kernel_rfl)) ((F30_eq ax1 nx1 cx1 ax2 nx2 cx2 x3 x4 x5 ax6 nx6 cx6 x7 x8 x9 x10 w R).mp h)
end Go.Pl.Try

/- What '(palings/ssa.Prog).Check$1' does, read off its translation by gen.py. -/
namespace Go.Pl.Try
set_option linter.unusedVariables false
set_option maxRecDepth 100000
def F29 (i1 : Int) (i2 : Int) (ai3 : Option Addr) (ni3 ci3 : Nat) (i4 : Int) (i5 : Int) (i6 : Int) (i7 : Int) (b8 : Nat) (o9 : Nat) (w : World) (R : Value → World → Prop) : Prop :=
  AlP 37 [.int .i64 i1, .int .i64 i2, .slice ai3 ni3 ci3, .int .i64 i4, .int .i64 i5, .int .i64 i6, .int .i64 i7] w fun b10 w11 =>
  ∃ (ax12 : Option Addr) (nx12 cx12 : Nat) (ax13 : Option Addr) (nx13 cx13 : Nat) (x14 : Int), Row w11 b8 o9 [.slice ax12 nx12 cx12, .slice ax13 nx13 cx13, .int .i64 x14] ∧
  ∃ (x15 : Int) (x16 : Int) (ax17 : Option Addr) (nx17 cx17 : Nat) (x18 : Int) (x19 : Int) (x20 : Int) (x21 : Int), Row w11 b10 0 [.int .i64 x15, .int .i64 x16, .slice ax17 nx17 cx17, .int .i64 x18, .int .i64 x19, .int .i64 x20, .int .i64 x21] ∧
  CallP Pg 30 [.agg ⟨[.slice ax12 nx12 cx12, .slice ax13 nx13 cx13, .int .i64 x14]⟩, .agg ⟨[.int .i64 x15, .int .i64 x16, .slice ax17 nx17 cx17, .int .i64 x18, .int .i64 x19, .int .i64 x20, .int .i64 x21]⟩] w11 fun v22 w23 => ∃ (x24 : Bool), v22 = .bool x24 ∧
  R (.bool (!x24)) w23
def T29 : List Sh := [.v (.agg [(.int .i64), (.int .i64), .sl, (.int .i64), (.int .i64), (.int .i64), (.int .i64)]), .v (.one .ptr), .v (.one .ptr), .v (.one .bool), .v (.agg [.sl, .sl, (.int .i64)]), .v (.agg [(.int .i64), (.int .i64), .sl, (.int .i64), (.int .i64), (.int .i64), (.int .i64)]), .v (.one .bool), .v (.one .bool)]
def A29 : Ann := (.seq none .z (.seq none .z .z))
theorem F29_eq (i1 : Int) (i2 : Int) (ai3 : Option Addr) (ni3 ci3 : Nat) (i4 : Int) (i5 : Int) (i6 : Int) (i7 : Int) (b8 : Nat) (o9 : Nat) (w : World) (R : Value → World → Prop) : F29 i1 i2 ai3 ni3 ci3 i4 i5 i6 i7 b8 o9 w R = denF Go.Proofs.Try.prog T29 Go.Proofs.Try.f29 A29 [.agg ⟨[.int .i64 i1, .int .i64 i2, .slice ai3 ni3 ci3, .int .i64 i4, .int .i64 i5, .int .i64 i6, .int .i64 i7]⟩, .pointer (some ⟨b8, o9, none⟩)] w R := by kernel_rfl
theorem F29_ok (i1 : Int) (i2 : Int) (ai3 : Option Addr) (ni3 ci3 : Nat) (i4 : Int) (i5 : Int) (i6 : Int) (i7 : Int) (b8 : Nat) (o9 : Nat) {w : World} {R : Value → World → Prop} (h : F29 i1 i2 ai3 ni3 ci3 i4 i5 i6 i7 b8 o9 w R) : CallP Go.Proofs.Try.prog 29 [.agg ⟨[.int .i64 i1, .int .i64 i2, .slice ai3 ni3 ci3, .int .i64 i4, .int .i64 i5, .int .i64 i6, .int .i64 i7]⟩, .pointer (some ⟨b8, o9, none⟩)] w R :=
  calls_den (fun _ => drawn (by kernel_rfl)) Go.Proofs.Try.func29 (Nat.le_of_ble_eq_true (by kernel_rfl)) ((F29_eq i1 i2 ai3 ni3 ci3 i4 i5 i6 i7 b8 o9 w R).mp h)
end Go.Pl.Try
