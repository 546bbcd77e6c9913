/- Joined texts of the proof, part 7: WSmall, F26, F27, F30, F29, WSsa2, F15, WWrites. -/
import Derived.Test.YtbacmadoenicnaaS06
set_option maxRecDepth 2000
set_option linter.unusedVariables false
set_option linter.unusedSimpArgs false
set_option linter.unusedSectionVars false
/- Small functions, walked. -/
namespace Go.Pl.Try
open M
set_option linter.unusedVariables false
theorem known_op (o : Int) (w : World) : CallP Pg 55 [.int .i64 o] w fun v w' => v = .bool (opKnown o) ∧ w' = w := by
  refine F55_ok o (sp_dec (fun h => ⟨?_, rfl⟩) (fun h => ⟨?_, rfl⟩)) <;> simp [opKnown, h]
theorem divides_w (o : Int) (w : World) : CallP Pg 76 [.int .i64 o] w fun v w' => v = .bool (divides o) ∧ w' = w := by
  refine F76_ok o (sp_dec (fun h => ⟨?_, rfl⟩) (fun h => ⟨?_, rfl⟩)) <;> simp [divides, h]
theorem stays_w (l : Int) (w : World) : CallP Pg 63 [.int .i64 l] w fun v w' => v = .int .i64 (stays l) ∧ w' = w := by
  refine F63_ok l (sp_dec (fun h => ⟨?_, rfl⟩) (fun h => ⟨?_, rfl⟩)) <;> simp [stays, h]
theorem shape_w (o : Int) (w : World) : CallP Pg 54 [.int .i64 o] w fun v w' => v = .tuple ⟨[.int .i64 (shapeOf o).1, .bool (shapeOf o).2]⟩ ∧ w' = w := by
  refine F54_ok o ?_
  intro K hK
  have key : ∀ x, x = decide (o = 1 ∨ o = 3) → K x w := by
    intro x hx
    refine hK x w ?_
    subst hx
    refine sp_dec (fun h => ⟨by simp [shapeOf, h], rfl⟩) (fun h => sp_dec (fun h2 => ⟨by simp [shapeOf, h2], rfl⟩) (fun h2 => sp_dec (fun h4 => ⟨by simp [shapeOf, h4], rfl⟩) (fun h4 => sp_dec (fun h5 => ⟨by simp [shapeOf, h5], rfl⟩)
      (fun h5 => sp_dec (fun h6 => ⟨by simp [shapeOf, h6], rfl⟩) (fun h6 => sp_dec (fun h7 => ⟨by simp [shapeOf, h7], rfl⟩) (fun h7 => ⟨by simp [shapeOf, h, h2, h4, h5, h6, h7], rfl⟩))))))
  refine sp_dec (fun h => key _ ?_) (fun h => key _ ?_) <;> simp [h]
theorem may_w {a : Option Addr} {n c : Nat} {writes : List Bool} {w : World} {ai : Option Addr} {ni ci : Nat} (i : Ins) (h : RdBs w a n writes) :
    CallP Pg 17 [.slice a n c, .agg ⟨[.int .i64 i.op, .int .i64 i.dst, .slice ai ni ci, .int .i64 i.num, .int .i64 i.bin, .int .i64 i.arr, .int .i64 i.fn]⟩] w fun v w' => v = .int .i64 (may writes i) ∧ Ext w w' := by
  refine F17_ok _ _ _ _ _ _ _ _ _ _ _ _ ?_
  refine alp (Hp.refl w) fun b w1 h1 => ?_
  intro K0 hK0 K hK
  refine ⟨_, h1.cl 0 rfl rfl, sp_dec (fun h5 => hK _ ⟨?_, h1.ext⟩) (fun h5 => ⟨_, h1.cl 0 rfl rfl, sp_dec (fun h3 => ⟨_, h1.cl 0 rfl rfl, sp_dec (fun h0 => ⟨_, h1.cl 0 rfl rfl, sp_dec (fun hl => ?_) (fun hl => hK0 _ ⟨?_, h1.ext⟩)⟩) (fun h0 => hK0 _ ⟨?_, h1.ext⟩)⟩) (fun h3 => hK0 _ ⟨?_, h1.ext⟩)⟩)⟩
  · simp [may, h5]
  · have hn : i.arr.toNat < n := by omega
    obtain ⟨x, hx⟩ : ∃ x, writes[i.arr.toNat]? = some x := ⟨_, List.getElem?_eq_getElem (by rw [h.len]; exact hn)⟩
    obtain ⟨bb, ob, ha, hc⟩ := h.at hx
    refine ⟨_, h1.cl 0 rfl rfl, h0, hl, ptAt_of ha ⟨x, h1.ext.cel hc, sp_of (fun e => hK _ ⟨?_, h1.ext⟩) (fun e => hK0 _ ⟨?_, h1.ext⟩)⟩⟩
    · simp [may, h3, h0, hx, e]
    · simp [may, h5, hx, e]
  · have : writes[i.arr.toNat]? = none := List.getElem?_eq_none (by rw [h.len]; omega)
    simp [may, h5, this]
  · simp [may, h5, h0]
  · simp [may, h5, h3]
theorem weigh_w (d : Nat) (hd : d ≤ maxLen) (w : World) : CallP Pg 77 [.int .i64 (d : Int)] w fun v w' => v = .int .i64 (weigh d) ∧ w' = w := by
  refine F77_ok _ ?_
  have hm : mnI (d : Int) 4 = ((min d 4 : Nat) : Int) := by unfold mnI; split <;> omega
  refine ⟨fun x i w1 m => w1 = w ∧ ∃ j : Nat, i = j ∧ j ≤ min d 4 ∧ m = min d 4 - j ∧ x = 10 ^ j, ⟨min d 4, rfl, 0, rfl, by omega, by omega, rfl⟩, ?_⟩
  rintro x i w1 m ⟨rfl, j, rfl, hj, rfl, rfl⟩
  rw [hm]
  refine sp_dec (fun hlt => ?_) (fun hge => ?_)
  · have hj4 : j < 4 := by omega
    have hp : (10 : Int) ^ j * 10 ≤ 10000 := by
      have : j = 0 ∨ j = 1 ∨ j = 2 ∨ j = 3 := by omega
      rcases this with rfl | rfl | rfl | rfl <;> decide
    have hp0 : (0 : Int) ≤ 10 ^ j := Int.pow_nonneg (by decide)
    refine ⟨min d 4 - (j + 1), by omega, rfl, j + 1, ?_, by omega, rfl, ?_⟩
    · rw [wrap_in (by omega) (by omega)]; omega
    · rw [wrap_in (by omega) (by omega), Int.pow_succ]
  · have : j = min d 4 := by omega
    exact ⟨by rw [this]; rfl, rfl⟩
theorem params_w (nm : ByteArray) {a : Option Addr} {n c : Nat} {f : Fnc} {w : World} (h : RdBlocks w a n f.blocks) :
    CallP Pg 25 [.agg ⟨[.string nm, .slice a n c]⟩] w fun v w' => ∃ a' n' c', v = .slice a' n' c' ∧ RdI w' a' n' f.params ∧ Ext w w' := by
  refine F25_ok _ _ _ _ ?_
  refine alp (Hp.refl w) fun b w1 h1 => ⟨_, _, _, h1.cl 0 rfl rfl, sp_dec (fun h0 => ?_) (fun h0 => ?_)⟩
  · have : f.blocks = [] := List.eq_nil_of_length_eq_zero (by rw [h.len]; omega)
    exact ⟨_, _, _, rfl, by simp only [Fnc.params, this]; exact RdS.nil _ _ _ _, h1.ext⟩
  · obtain ⟨x, xs, hx⟩ : ∃ x xs, f.blocks = x :: xs := by
      cases hb : f.blocks with
      | nil => rw [hb] at h; have := h.len; simp at this; omega
      | cons x xs => exact ⟨x, xs, rfl⟩
    obtain ⟨bb, ob, vb, ha, hrow, hvl, ap, np, cp, ai, ni, ci, ae, ne, ce, rfl, hp, hi, he⟩ := h.at_ 0 x (by simp [hx])
    refine ⟨_, _, _, h1.cl 0 rfl rfl, by omega, by omega, ptAt_of ha ⟨ap, np, cp, ?_, _, _, _, rfl, ?_, h1.ext⟩⟩
    · have := hrow 0 _ rfl
      simp only [Nat.zero_mul, Nat.add_zero] at this
      exact h1.ext.cel this
    · simp only [Fnc.params, hx]
      exact hp.ext h1.ext
theorem len_w {p : Option Addr} {g : Gr} {w : World} (h : RdG w p g) : CallP Pg 35 [.pointer p] w fun v w' => v = .int .i64 (g.outs.length : Nat) ∧ w' = w := by
  obtain ⟨b, o, ao, no, co, ai, ni, ci, ar, nr, cr, rfl, h1, h2, h3, h4, h5, h6⟩ := h
  refine F35_ok _ ?_
  unfold F35
  refine ⟨false, ?_, ?_⟩
  · exact eql_ptr_nil (e := 114) (by kernel_rfl) _ _ _ _
  · refine sp_false rfl (ptAt_of rfl ?_)
    exact ⟨ao, no, co, h1, by rw [h4.len], rfl⟩
theorem in_w {p : Option Addr} {g : Gr} {w : World} (h : RdG w p g) (hl : g.reach.length = g.outs.length) (i : Int) : CallP Pg 37 [.pointer p, .int .i64 i] w fun v w' => v = .bool (g.has i) ∧ w' = w := by
  refine F37_ok _ _ (sp_dec (fun h0 => ?_) (fun h0 => ⟨by simp [Gr.has, h0], rfl⟩))
  refine Calls.mono (len_w h) ?_
  rintro e w' ⟨v, rfl, rfl, rfl⟩
  refine ⟨_, rfl, _, rfl, sp_dec (fun hlt => ?_) (fun hlt => ⟨by simp [Gr.has, hlt], rfl⟩)⟩
  obtain ⟨b, o, ao, no, co, ai, ni, ci, ar, nr, cr, rfl, h1, h2, h3, h4, h5, h6⟩ := h
  have hi : i.toNat < g.reach.length := by omega
  obtain ⟨bb, ob, ha, hc⟩ := h6.at (List.getElem?_eq_getElem hi)
  refine ptAt_of rfl ⟨_, _, _, h3, h0, by rw [← h6.len]; omega, ptAt_of ha ⟨_, hc, ?_, rfl⟩⟩
  simp [Gr.has, h0, hlt, List.getElem?_eq_getElem hi]
/-- A slice that is made of another one: 'append([]int(nil), xs...)'. -/
theorem copy_run {w : World} {a : Option Addr} {n c : Nat} {xs : List Int} (h : RdI w a n xs) (hn : n ≤ 4294967296) :
    ∃ a' c' w', (Builtin.append_ #[34, 34] 34 ⟨[.slice none 0 0, .slice a n c]⟩).run Pg w = .ok (.slice a' n c') w' ∧ RdI w' a' n xs ∧ Ext w w' := by
  have hsrc : Src w 1 a n (xs.map (Value.int .i64)) := by
    refine ⟨by simp [h.len], ?_⟩
    by_cases h0 : n = 0
    · exact .inl h0
    · right
      have hx : 0 < xs.length := by rw [h.len]; omega
      obtain ⟨b, o, ha, hc⟩ := h.at (i := 0) (List.getElem?_eq_getElem hx)
      refine ⟨b, o, ha, fun j v hj => ?_⟩
      rw [List.getElem?_map] at hj
      obtain ⟨x, hx, rfl⟩ := Option.map_eq_some_iff.1 hj
      obtain ⟨b', o', ha', hc'⟩ := h.at hx
      rw [ha] at ha'
      cases ha'
      have := hc'
      simp only [Nat.mul_one] at this
      exact this
  obtain ⟨a', c', w', r', h1, h2, h3⟩ := app2 (ty := 34) slInts (by omega) (Sls.nil 1 none) [] (L := []) (Hp.refl w) hsrc (by simp [Value.oneCell']) (by simp only [maxLen]; omega) (by omega) (cx := c)
  refine ⟨a', c', w', by simpa using h1, ?_, h3.ext⟩
  simp only [List.nil_append, Nat.zero_add] at h2 h3
  refine h2.rd [] (L := []) h3 h.len fun i x hi => ?_
  have hil := (List.getElem?_eq_some_iff.1 hi).1
  simp only [RI, Nat.mul_one]
  rw [List.drop_eq_getElem_cons (by simpa using hil)]
  simp [(List.getElem?_eq_some_iff.1 hi).2]
theorem ins_w {p : Option Addr} {g : Gr} {w : World} (h : RdG w p g) (hl : g.ins.length = g.outs.length) (hs : ∀ xs ∈ g.ins, xs.length ≤ 4294967296) (i : Int) :
    CallP Pg 36 [.pointer p, .int .i64 i] w fun v w' => ∃ a' n' c', v = .slice a' n' c' ∧ RdI w' a' n' (if 0 ≤ i then g.ins.getD i.toNat [] else []) ∧ Ext w w' := by
  refine F36_ok _ _ ?_
  intro K0 hK0 K hK
  refine sp_dec (fun h0 => hK _ ⟨_, _, _, rfl, ?_, Ext.refl _⟩) (fun h0 => ?_)
  · rw [if_neg (by omega)]; exact RdS.nil _ _ _ _
  refine Calls.mono (len_w h) ?_
  rintro e w' ⟨v, rfl, rfl, rfl⟩
  refine ⟨_, rfl, _, rfl, sp_dec (fun hlt => hK _ ⟨_, _, _, rfl, ?_, Ext.refl _⟩) (fun hlt => ?_)⟩
  · rw [if_pos (by omega), List.getD_eq_getElem?_getD, List.getElem?_eq_none (by omega)]; exact RdS.nil _ _ _ _
  obtain ⟨b, o, ao, no, co, ai, ni, ci, ar, nr, cr, rfl, h1, h2, h3, h4, h5, h6⟩ := h
  have hi : i.toNat < g.ins.length := by omega
  obtain ⟨bb, ob, a', n', c', ha, hc, hr⟩ := h5.at (List.getElem?_eq_getElem hi)
  have hsz := hs _ (List.getElem_mem hi)
  obtain ⟨a2, c2, w2, hrun, hr2, hx2⟩ := copy_run (c := c') hr (by rw [← hr.len]; exact hsz)
  refine hK0 _ (ptAt_of rfl ⟨_, _, _, h2, by omega, by rw [← h5.len]; omega, ptAt_of ha ⟨_, _, _, hc, _, _, _, w2, hrun, _, _, _, rfl, ?_, hx2⟩⟩)
  rw [if_pos (by omega), List.getD_eq_getElem?_getD, List.getElem?_eq_getElem hi]
  exact hr2
end Go.Pl.Try

/- What '(palings/ssa.Func).once' does, read off its translation by gen.py. -/
namespace Go.Pl.Try
set_option linter.unusedVariables false
set_option maxRecDepth 100000
def F26 (f1 : ByteArray) (af2 : Option Addr) (nf2 cf2 : Nat) (w : World) (R : Value → World → Prop) : Prop :=
  AlP 29 [.string f1, .slice af2 nf2 cf2] w fun b3 w4 =>
  AlM w4 fun b5 w6 =>
  ∃ (ax7 : Option Addr) (nx7 cx7 : Nat), cel w6 b3 1 = some (.slice ax7 nx7 cx7) ∧
  ∃ J8 : Int → World → Nat → Prop, (∃ m11, J8 0 w6 m11) ∧
  ∀ (x9 : Int), ∀ w10 m11, J8 x9 w10 m11 →
  sp (decide ((x9 : Int) < (nx7 : Nat)))
  (0 ≤ (x9 : Int) ∧ (x9 : Int) < (nx7 : Nat) ∧
  ptAt ax7 fun b13 o14 =>
  ∃ (ax15 : Option Addr) (nx15 cx15 : Nat) (ax16 : Option Addr) (nx16 cx16 : Nat) (x17 : Int) (x18 : Int) (ax19 : Option Addr) (nx19 cx19 : Nat) (x20 : Int), Row w10 b13 (o14 + x9.toNat * 6) [.slice ax15 nx15 cx15, .slice ax16 nx16 cx16, .int .i64 x17, .int .i64 x18, .slice ax19 nx19 cx19, .int .i64 x20] ∧
  AlP 47 [.slice none 0 0, .slice none 0 0, .int .i64 0, .int .i64 0, .slice none 0 0, .int .i64 0] w10 fun b21 w22 =>
  StP b21 0 [.slice ax15 nx15 cx15, .slice ax16 nx16 cx16, .int .i64 x17, .int .i64 x18, .slice ax19 nx19 cx19, .int .i64 x20] w22 fun w23 =>
  ∃ (ax24 : Option Addr) (nx24 cx24 : Nat), cel w23 b21 0 = some (.slice ax24 nx24 cx24) ∧
  CallP Pg 52 [.slice ax24 nx24 cx24] w23 fun v25 w26 => ∃ (ax27 : Option Addr) (nx27 cx27 : Nat), v25 = .slice ax27 nx27 cx27 ∧
  ∃ (ax28 : Option Addr) (nx28 cx28 : Nat), cel w26 b21 1 = some (.slice ax28 nx28 cx28) ∧
  ∃ J29 : Option Addr → Nat → Nat → Int → World → Nat → Prop, (∃ m33, J29 ax27 nx27 cx27 0 w26 m33) ∧
  ∀ (amade30 : Option Addr) (nmade30 cmade30 : Nat) (x31 : Int), ∀ w32 m33, J29 amade30 nmade30 cmade30 x31 w32 m33 →
  sp (decide ((x31 : Int) < (nx28 : Nat)))
  (∀ K35 : Option Addr → Nat → Nat → World → Prop, (∀ (amade36 : Option Addr) (nmade36 cmade36 : Nat), ∀ w37, (
  ∃ m34, m34 < m33 ∧ J29 amade36 nmade36 cmade36 (IntKind.wrap .i64 (x31 + 1)) w37 m34) → K35 amade36 nmade36 cmade36 w37) →
  0 ≤ (x31 : Int) ∧ (x31 : Int) < (nx28 : Nat) ∧
  ptAt ax28 fun b38 o39 =>
  ∃ (x40 : Int) (x41 : Int) (ax42 : Option Addr) (nx42 cx42 : Nat) (x43 : Int) (x44 : Int) (x45 : Int) (x46 : Int), Row w32 b38 (o39 + x31.toNat * 7) [.int .i64 x40, .int .i64 x41, .slice ax42 nx42 cx42, .int .i64 x43, .int .i64 x44, .int .i64 x45, .int .i64 x46] ∧
  AlP 37 [.int .i64 0, .int .i64 0, .slice none 0 0, .int .i64 0, .int .i64 0, .int .i64 0, .int .i64 0] w32 fun b47 w48 =>
  StP b47 0 [.int .i64 x40, .int .i64 x41, .slice ax42 nx42 cx42, .int .i64 x43, .int .i64 x44, .int .i64 x45, .int .i64 x46] w48 fun w49 =>
  ∃ (x50 : Int), cel w49 b47 1 = some (.int .i64 x50) ∧
  sp (!decide ((x50 : Int) = 0))
  (∃ (x51 : Int), cel w49 b47 1 = some (.int .i64 x51) ∧
  AlP 3 [.int .i64 x51] w49 fun b52 w53 =>
  ∃ (ax54 : Option Addr) (nx54 cx54 : Nat), ∃ w55 : World, Sem.run Pg (Builtin.append_ #[34, 34] 34 ⟨[.slice amade30 nmade30 cmade30, .slice (some ⟨b52, 0, none⟩) 1 1]⟩) w53 = .ok (.slice ax54 nx54 cx54) w55 ∧
  K35 ax54 nx54 cx54 w55)
  (K35 amade30 nmade30 cmade30 w49))
  (∃ J56 : Int → World → Nat → Prop, (∃ m59, J56 0 w32 m59) ∧
  ∀ (x57 : Int), ∀ w58 m59, J56 x57 w58 m59 →
  sp (decide ((x57 : Int) < (nmade30 : Nat)))
  (0 ≤ (x57 : Int) ∧ (x57 : Int) < (nmade30 : Nat) ∧
  ptAt amade30 fun b61 o62 =>
  ∃ (x63 : Int), cel w58 b61 (o62 + x57.toNat * 1) = some (.int .i64 x63) ∧
  ∀ K64 : World → Prop, (∀ w65, (
  ∃ w66 : World, Sem.run Pg (Instr.mapUpdate 56 (.map (some b5)) (.int .i64 x63) (.bool true)) w65 = .ok () w66 ∧
  ∃ m60, m60 < m59 ∧ J56 (IntKind.wrap .i64 (x57 + 1)) w66 m60) → K64 w65) →
  ∀ K67 : World → Prop, (∀ w68, (
  R (.bool false) w68) → K67 w68) →
  sp (decide ((x63 : Int) ≤ 0))
  (K67 w58)
  (∃ (x69 : Bool), Sem.run Pg (Instr.lookup 56 (.map (some b5)) (.int .i64 x63) false) w58 = .ok (.bool x69) w58 ∧
  sp x69
  (K67 w58)
  (K64 w58)))
  (∃ m12, m12 < m11 ∧ J8 (IntKind.wrap .i64 (x9 + 1)) w58 m12)))
  (R (.bool true) w10)
def T26 : List Sh := [.v (.agg [.str, .sl]), .v (.one .ptr), .v (.one .bool), .v (.one .map), .v (.one .any), .v (.one .ptr), .v (.one .sl), .v (.one .any), .v (.one .ptr), .v (.one .any), .v (.one (.int .i64)), .v (.one .map), .v (.one .ptr), .v (.one .sl), .v (.one (.int .i64)), .v (.one (.int .i64)), .v (.one .bool), .v (.one .ptr), .v (.agg [.sl, .sl, (.int .i64), (.int .i64), .sl, (.int .i64)]), .v (.one .ptr), .v (.one .sl), .v (.one .sl), .v (.one .ptr), .v (.one .sl), .v (.one (.int .i64)), .v (.one (.int .i64)), .v (.one .bool), .v (.one .ptr), .v (.agg [(.int .i64), (.int .i64), .sl, (.int .i64), (.int .i64), (.int .i64), (.int .i64)]), .v (.one .ptr), .v (.one (.int .i64)), .v (.one .bool), .v (.one .sl), .v (.one .ptr), .v (.one (.int .i64)), .v (.one .sl), .v (.one .sl), .v (.one (.int .i64)), .v (.one .sl), .v (.one (.int .i64)), .v (.one (.int .i64)), .v (.one .bool), .v (.one .ptr), .v (.one (.int .i64)), .v (.one (.int .i64)), .v (.one .bool), .v (.one .bool), .v (.one .map), .v (.one (.int .i64)), .v (.one .bool), .v (.one .bool), .v (.one .map), .v (.one (.int .i64)), .v (.one (.int .i64)), .v (.one (.int .i64))]
def A26 : Ann := (.seq none .z (.seq none .z (.seq none (.seq none .z (.block none (.loop [15] (.seq none .z (.seq none (.cond .z .z) (.seq none (.block none (.seq none .z (.seq none .z (.seq none (.seq none .z (.block none (.loop [6, 25] (.seq none .z (.seq none (.cond .z .z) (.seq none (.block (some [6]) (.seq none .z (.seq none .z (.cond .z .z)))) .z)))))) (.seq none .z (.block none (.loop [40] (.seq none .z (.seq none (.cond .z .z) (.seq none (.block none (.seq none .z (.seq (some []) (.ifs (some []) none (.seq none .z .z) .z) .z))) .z)))))))))) .z)))))) (.seq none .z .z))))
theorem F26_eq (f1 : ByteArray) (af2 : Option Addr) (nf2 cf2 : Nat) (w : World) (R : Value → World → Prop) : F26 f1 af2 nf2 cf2 w R = denF Go.Proofs.Try.prog T26 Go.Proofs.Try.f26 A26 [.agg ⟨[.string f1, .slice af2 nf2 cf2]⟩] w R := by kernel_rfl
theorem F26_ok (f1 : ByteArray) (af2 : Option Addr) (nf2 cf2 : Nat) {w : World} {R : Value → World → Prop} (h : F26 f1 af2 nf2 cf2 w R) : CallP Go.Proofs.Try.prog 26 [.agg ⟨[.string f1, .slice af2 nf2 cf2]⟩] w R :=
  calls_den (fun _ => drawn (by kernel_rfl)) Go.Proofs.Try.func26 (Nat.le_of_ble_eq_true (by kernel_rfl)) ((F26_eq f1 af2 nf2 cf2 w R).mp h)
end Go.Pl.Try

/- What '(palings/ssa.Func).ends' does, read off its translation by gen.py. -/
namespace Go.Pl.Try
set_option linter.unusedVariables false
set_option maxRecDepth 100000
def F27 (x1 : ByteArray) (ax2 : Option Addr) (nx2 cx2 : Nat) (x3 : Int) (x4 : Int) (ax5 : Option Addr) (nx5 cx5 : Nat) (x6 : Int) (w : World) (R : Value → World → Prop) : Prop :=
  AlP 29 [.string x1, .slice ax2 nx2 cx2] w fun b7 w8 =>
  AlP 45 [.int .i64 x3, .int .i64 x4, .slice ax5 nx5 cx5, .int .i64 x6] w8 fun b9 w10 =>
  AlM w10 fun b11 w12 =>
  ∃ w13 : World, Sem.run Pg (Instr.mapUpdate 133 (.map (some b11)) (.int .i64 1) (.int .i64 1)) w12 = .ok () w13 ∧
  ∃ w14 : World, Sem.run Pg (Instr.mapUpdate 133 (.map (some b11)) (.int .i64 2) (.int .i64 2)) w13 = .ok () w14 ∧
  ∃ w15 : World, Sem.run Pg (Instr.mapUpdate 133 (.map (some b11)) (.int .i64 3) (.int .i64 0)) w14 = .ok () w15 ∧
  ∃ w16 : World, Sem.run Pg (Instr.mapUpdate 133 (.map (some b11)) (.int .i64 4) (.int .i64 0)) w15 = .ok () w16 ∧
  ∃ (x17 : Int), cel w16 b9 0 = some (.int .i64 x17) ∧
  ∃ (x18 : Int) (x19 : Bool), Sem.run Pg (Instr.lookup 133 (.map (some b11)) (.int .i64 x17) true) w16 = .ok (.tuple ⟨[.int .i64 x18, .bool x19]⟩) w16 ∧
  ∀ K20 : World → Prop, (∀ w21, (
  ∃ (ax22 : Option Addr) (nx22 cx22 : Nat), cel w21 b9 2 = some (.slice ax22 nx22 cx22) ∧
  ∃ J23 : Int → World → Nat → Prop, (∃ m26, J23 0 w21 m26) ∧
  ∀ (x24 : Int), ∀ w25 m26, J23 x24 w25 m26 →
  sp (decide ((x24 : Int) < (nx22 : Nat)))
  (0 ≤ (x24 : Int) ∧ (x24 : Int) < (nx22 : Nat) ∧
  ptAt ax22 fun b28 o29 =>
  ∃ (x30 : Int) (ax31 : Option Addr) (nx31 cx31 : Nat), Row w25 b28 (o29 + x24.toNat * 2) [.int .i64 x30, .slice ax31 nx31 cx31] ∧
  AlP 41 [.int .i64 0, .slice none 0 0] w25 fun b32 w33 =>
  StP b32 0 [.int .i64 x30, .slice ax31 nx31 cx31] w33 fun w34 =>
  ∀ K35 : Bool → World → Prop, (∀ (x36 : Bool), ∀ w37, (
  sp x36
  (R (.bool false) w37)
  (∃ m27, m27 < m26 ∧ J23 (IntKind.wrap .i64 (x24 + 1)) w37 m27)) → K35 x36 w37) →
  ∃ (x38 : Int), cel w34.drew b32 0 = some (.int .i64 x38) ∧
  sp (decide ((x38 : Int) < 1))
  (K35 true w34.drew)
  (∃ (x39 : Int), cel w34.drew b32 0 = some (.int .i64 x39) ∧
  ∃ (ax40 : Option Addr) (nx40 cx40 : Nat), cel w34.drew b7 1 = some (.slice ax40 nx40 cx40) ∧
  sp (decide (((nx40 : Nat) : Int) ≤ x39))
  (K35 true w34.drew)
  (∃ (ax41 : Option Addr) (nx41 cx41 : Nat), cel w34.drew b32 1 = some (.slice ax41 nx41 cx41) ∧
  ∃ (ax42 : Option Addr) (nx42 cx42 : Nat), cel w34.drew b7 1 = some (.slice ax42 nx42 cx42) ∧
  ∃ (x43 : Int), cel w34.drew b32 0 = some (.int .i64 x43) ∧
  0 ≤ (x43 : Int) ∧ (x43 : Int) < (nx42 : Nat) ∧
  ptAt ax42 fun b44 o45 =>
  ∃ (ax46 : Option Addr) (nx46 cx46 : Nat), cel w34.drew b44 (o45 + x43.toNat * 6) = some (.slice ax46 nx46 cx46) ∧
  K35 (!decide (((nx41 : Nat) : Int) = (nx46 : Nat))) w34.drew)))
  (R (.bool true) w25)) → K20 w21) →
  ∀ K47 : World → Prop, (∀ w48, (
  R (.bool false) w48) → K47 w48) →
  sp (!x19)
  (K47 w16)
  (∃ (ax49 : Option Addr) (nx49 cx49 : Nat), cel w16 b9 2 = some (.slice ax49 nx49 cx49) ∧
  sp (!decide (((nx49 : Nat) : Int) = x18))
  (K47 w16)
  (∃ (x50 : Int), cel w16 b9 0 = some (.int .i64 x50) ∧
  ∃ (x51 : Int), cel w16 b9 3 = some (.int .i64 x51) ∧
  sp (decide ((x51 : Int) = 1))
  (sp (!(decide ((x50 : Int) = 4) == true))
  (K47 w16)
  (∃ (x52 : Int), cel w16 b9 0 = some (.int .i64 x52) ∧
  sp (decide ((x52 : Int) = 2))
  (∃ (x53 : Int), cel w16 b9 1 = some (.int .i64 x53) ∧
  sp (!(true == decide ((0 : Int) < x53)))
  (K47 w16)
  (∃ (x54 : Int), cel w16 b9 1 = some (.int .i64 x54) ∧
  sp (decide ((x54 : Int) < 0))
  (K47 w16)
  (K20 w16)))
  (∃ (x55 : Int), cel w16 b9 0 = some (.int .i64 x55) ∧
  ∃ (x56 : Int), cel w16 b9 1 = some (.int .i64 x56) ∧
  sp (!(decide ((x55 : Int) = 3) == decide ((0 : Int) < x56)))
  (K47 w16)
  (∃ (x57 : Int), cel w16 b9 1 = some (.int .i64 x57) ∧
  sp (decide ((x57 : Int) < 0))
  (K47 w16)
  (K20 w16)))))
  (∃ (x58 : Int), cel w16 b9 3 = some (.int .i64 x58) ∧
  sp (!(decide ((x50 : Int) = 4) == decide ((x58 : Int) = 2)))
  (K47 w16)
  (∃ (x59 : Int), cel w16 b9 0 = some (.int .i64 x59) ∧
  sp (decide ((x59 : Int) = 2))
  (∃ (x60 : Int), cel w16 b9 1 = some (.int .i64 x60) ∧
  sp (!(true == decide ((0 : Int) < x60)))
  (K47 w16)
  (∃ (x61 : Int), cel w16 b9 1 = some (.int .i64 x61) ∧
  sp (decide ((x61 : Int) < 0))
  (K47 w16)
  (K20 w16)))
  (∃ (x62 : Int), cel w16 b9 0 = some (.int .i64 x62) ∧
  ∃ (x63 : Int), cel w16 b9 1 = some (.int .i64 x63) ∧
  sp (!(decide ((x62 : Int) = 3) == decide ((0 : Int) < x63)))
  (K47 w16)
  (∃ (x64 : Int), cel w16 b9 1 = some (.int .i64 x64) ∧
  sp (decide ((x64 : Int) < 0))
  (K47 w16)
  (K20 w16)))))))
def T27 : List Sh := [.v (.agg [.str, .sl]), .v (.agg [(.int .i64), (.int .i64), .sl, (.int .i64)]), .v (.one .ptr), .v (.one .ptr), .v (.one .bool), .v (.one .map), .v (.one (.int .i64)), .v (.one .bool), .v (.one .any), .v (.one .ptr), .v (.one .map), .v (.one .map), .t [(.one (.int .i64)), (.one .bool)], .v (.one .map), .v (.one .ptr), .v (.one (.int .i64)), .t [(.one (.int .i64)), (.one .bool)], .v (.one (.int .i64)), .v (.one .bool), .v (.one .bool), .v (.one .bool), .v (.one .bool), .v (.one .ptr), .v (.one .sl), .v (.one (.int .i64)), .v (.one (.int .i64)), .v (.one .bool), .v (.one .bool), .v (.one .bool), .v (.one .ptr), .v (.one (.int .i64)), .v (.one .bool), .v (.one .ptr), .v (.one (.int .i64)), .v (.one .bool), .v (.one .bool), .v (.one .ptr), .v (.one (.int .i64)), .v (.one .bool), .v (.one .bool), .v (.one .bool), .v (.one .bool), .v (.one .bool), .v (.one .ptr), .v (.one (.int .i64)), .v (.one .bool), .v (.one .bool), .v (.one .ptr), .v (.one (.int .i64)), .v (.one .bool), .v (.one .bool), .v (.one .ptr), .v (.one (.int .i64)), .v (.one .bool), .v (.one .bool), .v (.one .bool), .v (.one .bool), .v (.one .ptr), .v (.one (.int .i64)), .v (.one .bool), .v (.one .bool), .v (.one .ptr), .v (.one .sl), .v (.one (.int .i64)), .v (.one (.int .i64)), .v (.one .bool), .v (.one .ptr), .v (.agg [(.int .i64), .sl]), .v (.one .ptr), .v (.one (.int .i64)), .v (.one .bool), .v (.one .bool), .v (.one .ptr), .v (.one (.int .i64)), .v (.one .ptr), .v (.one .sl), .v (.one (.int .i64)), .v (.one .bool), .v (.one .bool), .v (.one .bool), .v (.one .ptr), .v (.one .sl), .v (.one (.int .i64)), .v (.one .ptr), .v (.one .sl), .v (.one .ptr), .v (.one (.int .i64)), .v (.one .ptr), .v (.one .ptr), .v (.one .sl), .v (.one (.int .i64)), .v (.one .bool), .v (.one .bool), .v (.one (.int .i64))]
def A27 : Ann := (.seq none .z (.seq none .z (.seq none .z (.seq (some []) (.ifs (some []) none (.seq none .z .z) .z) (.seq none (.seq none .z (.block none (.loop [64] (.seq none .z (.seq none (.cond .z .z) (.seq none (.block none (.seq none .z (.seq (some [92]) (.dr [0, 1, 0, 0, 0, 1, 0, 1, 0, 0, 0, 0, 0, 1, 0, 0, 1, 0, 1, 0, 0, 1, 0, 0, 0] [0, 1, 2, 3, 4, 5, 6, 7, 8, 9, 10, 11, 12, 13, 14, 15, 16, 17, 18, 19, 20, 21, 22, 23, 24]) (.cond (.seq none .z .z) .z)))) .z)))))) (.seq none .z .z))))))
theorem F27_eq (x1 : ByteArray) (ax2 : Option Addr) (nx2 cx2 : Nat) (x3 : Int) (x4 : Int) (ax5 : Option Addr) (nx5 cx5 : Nat) (x6 : Int) (w : World) (R : Value → World → Prop) : F27 x1 ax2 nx2 cx2 x3 x4 ax5 nx5 cx5 x6 w R = denF Go.Proofs.Try.prog T27 Go.Proofs.Try.f27 A27 [.agg ⟨[.string x1, .slice ax2 nx2 cx2]⟩, .agg ⟨[.int .i64 x3, .int .i64 x4, .slice ax5 nx5 cx5, .int .i64 x6]⟩] w R := by kernel_rfl
theorem F27_ok (x1 : ByteArray) (ax2 : Option Addr) (nx2 cx2 : Nat) (x3 : Int) (x4 : Int) (ax5 : Option Addr) (nx5 cx5 : Nat) (x6 : Int) {w : World} {R : Value → World → Prop} (h : F27 x1 ax2 nx2 cx2 x3 x4 ax5 nx5 cx5 x6 w R) : CallP Go.Proofs.Try.prog 27 [.agg ⟨[.string x1, .slice ax2 nx2 cx2]⟩, .agg ⟨[.int .i64 x3, .int .i64 x4, .slice ax5 nx5 cx5, .int .i64 x6]⟩] w R :=
  calls_den (fun _ => drawn (by kernel_rfl)) Go.Proofs.Try.func27 (Nat.le_of_ble_eq_true (by kernel_rfl)) ((F27_eq x1 ax2 nx2 cx2 x3 x4 ax5 nx5 cx5 x6 w R).mp h)
end Go.Pl.Try

/- What '(palings/ssa.Prog).right' does, read off its translation by gen.py. -/
namespace Go.Pl.Try
set_option linter.unusedVariables false
set_option maxRecDepth 100000
def F30 (ax1 : Option Addr) (nx1 cx1 : Nat) (ax2 : Option Addr) (nx2 cx2 : Nat) (x3 : Int) (x4 : Int) (x5 : Int) (ax6 : Option Addr) (nx6 cx6 : Nat) (x7 : Int) (x8 : Int) (x9 : Int) (x10 : Int) (w : World) (R : Value → World → Prop) : Prop :=
  AlP 32 [.slice ax1 nx1 cx1, .slice ax2 nx2 cx2, .int .i64 x3] w fun b11 w12 =>
  AlP 37 [.int .i64 x4, .int .i64 x5, .slice ax6 nx6 cx6, .int .i64 x7, .int .i64 x8, .int .i64 x9, .int .i64 x10] w12 fun b13 w14 =>
  ∃ (x15 : Int), cel w14 b13 0 = some (.int .i64 x15) ∧
  CallP Pg 54 [.int .i64 x15] w14 fun v16 w17 => ∃ (x18 : Int) (x19 : Bool), v16 = .tuple ⟨[.int .i64 x18, .bool x19]⟩ ∧
  ∀ K20 : World → Prop, (∀ w21, (
  ∃ (x22 : Int), cel w21 b13 0 = some (.int .i64 x22) ∧
  sp (decide ((x22 : Int) = 2))
  (∃ (x23 : Int), cel w21 b13 4 = some (.int .i64 x23) ∧
  CallP Pg 55 [.int .i64 x23] w21 fun v24 w25 => ∃ (x26 : Bool), v24 = .bool x26 ∧
  R (.bool x26) w25)
  (∀ K27 : Bool → World → Prop, (∀ (x28 : Bool), ∀ w29, (
  sp x28
  (∃ (x30 : Int), cel w29 b13 5 = some (.int .i64 x30) ∧
  sp (decide ((0 : Int) ≤ x30))
  (∃ (x31 : Int), cel w29 b13 5 = some (.int .i64 x31) ∧
  ∃ (ax32 : Option Addr) (nx32 cx32 : Nat), cel w29 b11 0 = some (.slice ax32 nx32 cx32) ∧
  sp (decide ((x31 : Int) < (nx32 : Nat)))
  (∃ (ax33 : Option Addr) (nx33 cx33 : Nat), cel w29 b11 0 = some (.slice ax33 nx33 cx33) ∧
  ∃ (x34 : Int), cel w29 b13 5 = some (.int .i64 x34) ∧
  0 ≤ (x34 : Int) ∧ (x34 : Int) < (nx33 : Nat) ∧
  ptAt ax33 fun b35 o36 =>
  ∃ (x37 : Int), cel w29 b35 (o36 + x34.toNat * 3 + 2) = some (.int .i64 x37) ∧
  R (.bool (decide ((x37 : Int) = 0))) w29)
  (R (.bool false) w29))
  (R (.bool false) w29))
  (∀ K38 : Bool → World → Prop, (∀ (x39 : Bool), ∀ w40, (
  sp x39
  (∃ (x41 : Int), cel w40 b13 5 = some (.int .i64 x41) ∧
  sp (decide ((0 : Int) ≤ x41))
  (∃ (x42 : Int), cel w40 b13 5 = some (.int .i64 x42) ∧
  ∃ (ax43 : Option Addr) (nx43 cx43 : Nat), cel w40 b11 0 = some (.slice ax43 nx43 cx43) ∧
  sp (decide ((x42 : Int) < (nx43 : Nat)))
  (∃ (ax44 : Option Addr) (nx44 cx44 : Nat), cel w40 b11 0 = some (.slice ax44 nx44 cx44) ∧
  ∃ (x45 : Int), cel w40 b13 5 = some (.int .i64 x45) ∧
  0 ≤ (x45 : Int) ∧ (x45 : Int) < (nx44 : Nat) ∧
  ptAt ax44 fun b46 o47 =>
  ∃ (x48 : Int), cel w40 b46 (o47 + x45.toNat * 3 + 2) = some (.int .i64 x48) ∧
  R (.bool (decide ((0 : Int) < x48))) w40)
  (R (.bool false) w40))
  (R (.bool false) w40))
  (sp (decide ((x22 : Int) = 7))
  (∃ (x49 : Int), cel w40.drew b13 6 = some (.int .i64 x49) ∧
  sp (decide ((0 : Int) ≤ x49))
  (∃ (x50 : Int), cel w40.drew b13 6 = some (.int .i64 x50) ∧
  ∃ (ax51 : Option Addr) (nx51 cx51 : Nat), cel w40.drew b11 1 = some (.slice ax51 nx51 cx51) ∧
  sp (decide ((x50 : Int) < (nx51 : Nat)))
  (∃ (ax52 : Option Addr) (nx52 cx52 : Nat), cel w40.drew b11 1 = some (.slice ax52 nx52 cx52) ∧
  ∃ (x53 : Int), cel w40.drew b13 6 = some (.int .i64 x53) ∧
  0 ≤ (x53 : Int) ∧ (x53 : Int) < (nx52 : Nat) ∧
  ptAt ax52 fun b54 o55 =>
  ∃ (ax56 : Option Addr) (nx56 cx56 : Nat), cel w40.drew b54 (o55 + x53.toNat * 2 + 1) = some (.slice ax56 nx56 cx56) ∧
  sp (decide ((0 : Int) < (nx56 : Nat)))
  (∃ (ax57 : Option Addr) (nx57 cx57 : Nat), cel w40.drew b13 2 = some (.slice ax57 nx57 cx57) ∧
  ∃ (ax58 : Option Addr) (nx58 cx58 : Nat), cel w40.drew b11 1 = some (.slice ax58 nx58 cx58) ∧
  ∃ (x59 : Int), cel w40.drew b13 6 = some (.int .i64 x59) ∧
  0 ≤ (x59 : Int) ∧ (x59 : Int) < (nx58 : Nat) ∧
  ptAt ax58 fun b60 o61 =>
  ∃ (ax62 : Option Addr) (nx62 cx62 : Nat), cel w40.drew b60 (o61 + x59.toNat * 2 + 1) = some (.slice ax62 nx62 cx62) ∧
  0 ≤ (0 : Int) ∧ (0 : Int) < (nx62 : Nat) ∧
  ptAt ax62 fun b63 o64 =>
  ∃ (ax65 : Option Addr) (nx65 cx65 : Nat), cel w40.drew b63 o64 = some (.slice ax65 nx65 cx65) ∧
  R (.bool (decide (((nx57 : Nat) : Int) = (nx65 : Nat)))) w40.drew)
  (R (.bool false) w40.drew))
  (R (.bool false) w40.drew))
  (R (.bool false) w40.drew))
  (R (.bool true) w40))) → K38 x39 w40) →
  sp (decide ((x22 : Int) = 5))
  (K38 (decide ((x22 : Int) = 5)) w29)
  (K38 (decide ((x22 : Int) = 6)) w29))) → K27 x28 w29) →
  sp (decide ((x22 : Int) = 3))
  (K27 (decide ((x22 : Int) = 3)) w21)
  (K27 (decide ((x22 : Int) = 4)) w21))) → K20 w21) →
  ∀ K66 : World → Prop, (∀ w67, (
  R (.bool false) w67) → K66 w67) →
  sp (decide ((x18 : Int) = (-2)))
  (K66 w17)
  (sp (decide ((0 : Int) ≤ x18))
  (∃ (ax68 : Option Addr) (nx68 cx68 : Nat), cel w17 b13 2 = some (.slice ax68 nx68 cx68) ∧
  sp (!decide (((nx68 : Nat) : Int) = x18))
  (K66 w17)
  (∃ (x69 : Int), cel w17 b13 1 = some (.int .i64 x69) ∧
  sp (!(x19 == decide ((0 : Int) < x69)))
  (K66 w17)
  (∃ (x70 : Int), cel w17 b13 1 = some (.int .i64 x70) ∧
  sp (decide ((x70 : Int) < 0))
  (K66 w17)
  (K20 w17))))
  (∃ (x71 : Int), cel w17 b13 1 = some (.int .i64 x71) ∧
  sp (!(x19 == decide ((0 : Int) < x71)))
  (K66 w17)
  (∃ (x72 : Int), cel w17 b13 1 = some (.int .i64 x72) ∧
  sp (decide ((x72 : Int) < 0))
  (K66 w17)
  (K20 w17))))
def T30 : List Sh := [.v (.agg [.sl, .sl, (.int .i64)]), .v (.agg [(.int .i64), (.int .i64), .sl, (.int .i64), (.int .i64), (.int .i64), (.int .i64)]), .v (.one .ptr), .v (.one .ptr), .v (.one .bool), .v (.one (.int .i64)), .v (.one .bool), .t [(.one (.int .i64)), (.one .bool)], .v (.one .ptr), .v (.one (.int .i64)), .t [(.one (.int .i64)), (.one .bool)], .v (.one (.int .i64)), .v (.one .bool), .v (.one (.int .i64)), .v (.one .bool), .v (.one .bool), .v (.one (.int .i64)), .v (.one .bool), .v (.one .bool), .v (.one .ptr), .v (.one .sl), .v (.one (.int .i64)), .v (.one (.int .i64)), .v (.one .bool), .v (.one .bool), .v (.one .bool), .v (.one .bool), .v (.one .bool), .v (.one .ptr), .v (.one (.int .i64)), .v (.one .bool), .v (.one .bool), .v (.one .bool), .v (.one .bool), .v (.one .ptr), .v (.one (.int .i64)), .v (.one .bool), .v (.one .bool), .v (.one .ptr), .v (.one (.int .i64)), .v (.one .bool), .v (.one .bool), .v (.one .ptr), .v (.one (.int .i64)), .v (.one .bool), .v (.one .bool), .v (.one .bool), .v (.one .bool), .v (.one .ptr), .v (.one (.int .i64)), .v (.one .bool), .v (.one .bool), .v (.one .ptr), .v (.one (.int .i64)), .v (.one .ptr), .v (.one .sl), .v (.one (.int .i64)), .v (.one .bool), .v (.one .bool), .v (.one .bool), .v (.one .ptr), .v (.one .sl), .v (.one .ptr), .v (.one (.int .i64)), .v (.one .ptr), .v (.one .ptr), .v (.one (.int .i64)), .v (.one .bool), .v (.one .bool), .v (.one .bool), .v (.one .bool), .v (.one .bool), .v (.one .ptr), .v (.one (.int .i64)), .v (.one .bool), .v (.one .bool), .v (.one .ptr), .v (.one (.int .i64)), .v (.one .ptr), .v (.one .sl), .v (.one (.int .i64)), .v (.one .bool), .v (.one .bool), .v (.one .bool), .v (.one .ptr), .v (.one .sl), .v (.one .ptr), .v (.one (.int .i64)), .v (.one .ptr), .v (.one .ptr), .v (.one (.int .i64)), .v (.one .bool), .v (.one .bool), .v (.one .bool), .v (.one .bool), .v (.one .ptr), .v (.one (.int .i64)), .v (.one .bool), .v (.one .bool), .v (.one .ptr), .v (.one (.int .i64)), .v (.one .ptr), .v (.one .sl), .v (.one (.int .i64)), .v (.one .bool), .v (.one .bool), .v (.one .bool), .v (.one .ptr), .v (.one .sl), .v (.one .ptr), .v (.one (.int .i64)), .v (.one .ptr), .v (.one .ptr), .v (.one .sl), .v (.one (.int .i64)), .v (.one .bool), .v (.one .bool), .v (.one .bool), .v (.one .ptr), .v (.one .sl), .v (.one (.int .i64)), .v (.one .ptr), .v (.one .sl), .v (.one .ptr), .v (.one (.int .i64)), .v (.one .ptr), .v (.one .ptr), .v (.one .sl), .v (.one .ptr), .v (.one .ptr), .v (.one .sl), .v (.one (.int .i64)), .v (.one .bool), .v (.one .bool)]
def A30 : Ann := (.seq none .z (.seq none .z (.seq (some []) (.ifs (some []) none (.seq none .z .z) .z) (.seq none (.seq none .z (.block none (.seq none .z (.cond (.seq none .z .z) (.seq (some [45]) (.seq none .z (.cond .z .z)) (.cond (.seq none .z .z) (.seq (some [69]) (.seq none .z (.cond .z .z)) (.cond (.seq none .z .z) (.seq none .z (.cond (.seq none (.dr [0, 1, 0, 0, 0, 1, 0, 1, 0, 0, 0, 0, 0, 1, 0, 1, 0, 0, 1, 0, 0, 0, 0, 0, 1, 0, 0, 1, 0, 1, 0, 0, 1, 0, 0, 1, 0, 0, 0, 0] [0, 1, 2, 3, 4, 5, 6, 7, 8, 9, 10, 11, 12, 13, 14, 15, 16, 17, 18, 19, 20, 21, 22, 23, 24, 25, 26, 27, 28, 29, 30, 31, 32, 33, 34, 35, 36, 37, 38, 39]) .z) .z)))))))))) (.seq none .z .z)))))
theorem F30_eq (ax1 : Option Addr) (nx1 cx1 : Nat) (ax2 : Option Addr) (nx2 cx2 : Nat) (x3 : Int) (x4 : Int) (x5 : Int) (ax6 : Option Addr) (nx6 cx6 : Nat) (x7 : Int) (x8 : Int) (x9 : Int) (x10 : Int) (w : World) (R : Value → World → Prop) : F30 ax1 nx1 cx1 ax2 nx2 cx2 x3 x4 x5 ax6 nx6 cx6 x7 x8 x9 x10 w R = denF Go.Proofs.Try.prog T30 Go.Proofs.Try.f30 A30 [.agg ⟨[.slice ax1 nx1 cx1, .slice ax2 nx2 cx2, .int .i64 x3]⟩, .agg ⟨[.int .i64 x4, .int .i64 x5, .slice ax6 nx6 cx6, .int .i64 x7, .int .i64 x8, .int .i64 x9, .int .i64 x10]⟩] w R := by kernel_rfl
theorem F30_ok (ax1 : Option Addr) (nx1 cx1 : Nat) (ax2 : Option Addr) (nx2 cx2 : Nat) (x3 : Int) (x4 : Int) (x5 : Int) (ax6 : Option Addr) (nx6 cx6 : Nat) (x7 : Int) (x8 : Int) (x9 : Int) (x10 : Int) {w : World} {R : Value → World → Prop} (h : F30 ax1 nx1 cx1 ax2 nx2 cx2 x3 x4 x5 ax6 nx6 cx6 x7 x8 x9 x10 w R) : CallP Go.Proofs.Try.prog 30 [.agg ⟨[.slice ax1 nx1 cx1, .slice ax2 nx2 cx2, .int .i64 x3]⟩, .agg ⟨[.int .i64 x4, .int .i64 x5, .slice ax6 nx6 cx6, .int .i64 x7, .int .i64 x8, .int .i64 x9, .int .i64 x10]⟩] w R :=
  calls_den (fun _ => drawn (by kernel_rfl)) Go.Proofs.Try.func30 (Nat.le_of_ble_eq_true (by kernel_rfl)) ((F30_eq ax1 nx1 cx1 ax2 nx2 cx2 x3 x4 x5 ax6 nx6 cx6 x7 x8 x9 x10 w R).mp h)
end Go.Pl.Try

/- What '(palings/ssa.Prog).Check$1' does, read off its translation by gen.py. -/
namespace Go.Pl.Try
set_option linter.unusedVariables false
set_option maxRecDepth 100000
def F29 (i1 : Int) (i2 : Int) (ai3 : Option Addr) (ni3 ci3 : Nat) (i4 : Int) (i5 : Int) (i6 : Int) (i7 : Int) (b8 : Nat) (o9 : Nat) (w : World) (R : Value → World → Prop) : Prop :=
  AlP 37 [.int .i64 i1, .int .i64 i2, .slice ai3 ni3 ci3, .int .i64 i4, .int .i64 i5, .int .i64 i6, .int .i64 i7] w fun b10 w11 =>
  ∃ (ax12 : Option Addr) (nx12 cx12 : Nat) (ax13 : Option Addr) (nx13 cx13 : Nat) (x14 : Int), Row w11 b8 o9 [.slice ax12 nx12 cx12, .slice ax13 nx13 cx13, .int .i64 x14] ∧
  ∃ (x15 : Int) (x16 : Int) (ax17 : Option Addr) (nx17 cx17 : Nat) (x18 : Int) (x19 : Int) (x20 : Int) (x21 : Int), Row w11 b10 0 [.int .i64 x15, .int .i64 x16, .slice ax17 nx17 cx17, .int .i64 x18, .int .i64 x19, .int .i64 x20, .int .i64 x21] ∧
  CallP Pg 30 [.agg ⟨[.slice ax12 nx12 cx12, .slice ax13 nx13 cx13, .int .i64 x14]⟩, .agg ⟨[.int .i64 x15, .int .i64 x16, .slice ax17 nx17 cx17, .int .i64 x18, .int .i64 x19, .int .i64 x20, .int .i64 x21]⟩] w11 fun v22 w23 => ∃ (x24 : Bool), v22 = .bool x24 ∧
  R (.bool (!x24)) w23
def T29 : List Sh := [.v (.agg [(.int .i64), (.int .i64), .sl, (.int .i64), (.int .i64), (.int .i64), (.int .i64)]), .v (.one .ptr), .v (.one .ptr), .v (.one .bool), .v (.agg [.sl, .sl, (.int .i64)]), .v (.agg [(.int .i64), (.int .i64), .sl, (.int .i64), (.int .i64), (.int .i64), (.int .i64)]), .v (.one .bool), .v (.one .bool)]
def A29 : Ann := (.seq none .z (.seq none .z .z))
theorem F29_eq (i1 : Int) (i2 : Int) (ai3 : Option Addr) (ni3 ci3 : Nat) (i4 : Int) (i5 : Int) (i6 : Int) (i7 : Int) (b8 : Nat) (o9 : Nat) (w : World) (R : Value → World → Prop) : F29 i1 i2 ai3 ni3 ci3 i4 i5 i6 i7 b8 o9 w R = denF Go.Proofs.Try.prog T29 Go.Proofs.Try.f29 A29 [.agg ⟨[.int .i64 i1, .int .i64 i2, .slice ai3 ni3 ci3, .int .i64 i4, .int .i64 i5, .int .i64 i6, .int .i64 i7]⟩, .pointer (some ⟨b8, o9, none⟩)] w R := by kernel_rfl
theorem F29_ok (i1 : Int) (i2 : Int) (ai3 : Option Addr) (ni3 ci3 : Nat) (i4 : Int) (i5 : Int) (i6 : Int) (i7 : Int) (b8 : Nat) (o9 : Nat) {w : World} {R : Value → World → Prop} (h : F29 i1 i2 ai3 ni3 ci3 i4 i5 i6 i7 b8 o9 w R) : CallP Go.Proofs.Try.prog 29 [.agg ⟨[.int .i64 i1, .int .i64 i2, .slice ai3 ni3 ci3, .int .i64 i4, .int .i64 i5, .int .i64 i6, .int .i64 i7]⟩, .pointer (some ⟨b8, o9, none⟩)] w R :=
  calls_den (fun _ => drawn (by kernel_rfl)) Go.Proofs.Try.func29 (Nat.le_of_ble_eq_true (by kernel_rfl)) ((F29_eq i1 i2 ai3 ni3 ci3 i4 i5 i6 i7 b8 o9 w R).mp h)
end Go.Pl.Try

/- What is right of a function's parts: walked. -/
namespace Go.Pl.Try
open M
set_option linter.unusedVariables false
theorem blkOf {w : World} {a : Option Addr} {n : Nat} {bs : List Blk} (h : RdBlocks w a n bs) {i : Nat} {b : Blk} (hi : bs[i]? = some b) :
    ∃ bb o ap np cp ai ni ci ae ne ce, a = some ⟨bb, o, none⟩ ∧ Row w bb (o + i * 6) [.slice ap np cp, .slice ai ni ci, .int .i64 b.fin.kind, .int .i64 b.fin.val, .slice ae ne ce, .int .i64 b.fin.trap] ∧
      RdI w ap np b.params ∧ RdS 7 RIns w ai ni b.ins ∧ RdS 2 REdge w ae ne b.fin.ways := by
  obtain ⟨bb, o, vs, ha, hrow, hvl, ap, np, cp, ai, ni, ci, ae, ne, ce, rfl, h1, h2, h3⟩ := h.at_ _ _ hi
  exact ⟨bb, o, ap, np, cp, ai, ni, ci, ae, ne, ce, ha, hrow, h1, h2, h3⟩
theorem nodup_snoc {l : List Int} {x : Int} : (l ++ [x]).Nodup ↔ l.Nodup ∧ x ∉ l := by
  rw [List.nodup_append]
  constructor
  · rintro ⟨h1, -, h3⟩
    exact ⟨h1, fun hx => h3 x hx x (by simp) rfl⟩
  · rintro ⟨h1, h2⟩
    refine ⟨h1, by simp, ?_⟩
    intro a ha b hb e
    simp at hb
    subst hb; subst e
    exact h2 ha
theorem once_false {f : Fnc} {l1 l2 l3 : List Int} {x : Int} (hf : f.made = l1 ++ x :: l2) (h : x ≤ 0 ∨ x ∈ l1) : once f = false := by
  unfold once
  rw [decide_eq_false_iff_not]
  rintro ⟨h1, h2⟩
  rw [hf] at h1 h2
  rcases h with h | h
  · have := h1 x (by simp); omega
  · rw [List.nodup_append] at h2
    exact h2.2.2 x h x (by simp) rfl
theorem once_w {w : World} {f : Fnc} {vs : List Value} (h : RFunc w vs f) (hl : f.Lim) :
    CallP Pg 26 [.agg ⟨vs⟩] w fun v w' => v = .bool (once f) ∧ Ext w w' := by
  obtain ⟨a, n, c, rfl, hb⟩ := h
  refine F26_ok _ _ _ _ ?_
  unfold F26
  refine alp (Hp.refl w) fun b3 w4 h4 => ?_
  refine alm h4 fun b5 w6 h6 => ⟨_, _, _, h6.cl 1 rfl rfl, ?_⟩
  have hbl := hb.len
  have hble := hb.le
  refine ⟨fun i w' c' => ∃ (j : Nat) (o : Obj), i = j ∧ j ≤ n ∧ c' = n - j ∧ Hp w w' [(b5, o)] ∧ MapO (setF ((f.blocks.take j).flatMap Blk.made)) o ∧ (∀ v ∈ (f.blocks.take j).flatMap Blk.made, 0 < v) ∧ ((f.blocks.take j).flatMap Blk.made).Nodup,
    ⟨n, 0, _, rfl, by omega, by omega, h6.sub (by simp), setF_nil, by simp, by simp⟩, ?_⟩
  rintro i w10 c' ⟨j, o, rfl, hj, rfl, h10, ho, hpos, hnd⟩
  refine sp_dec (fun hlt => ?_) (fun hge => ?_)
  · have hx : f.blocks[j]? = some f.blocks[j] := List.getElem?_eq_getElem (by omega)
    have hdrop : f.blocks.drop j = f.blocks[j] :: f.blocks.drop (j + 1) := List.drop_eq_getElem_cons (by omega)
    have hblim := hl.each _ (List.mem_of_getElem? hx)
    generalize f.blocks[j] = b at hx hdrop hblim
    have hmade : f.made = (f.blocks.take j).flatMap Blk.made ++ (b.made ++ (f.blocks.drop (j + 1)).flatMap Blk.made) := by
      unfold Fnc.made
      rw [← List.flatMap_cons, ← hdrop, ← List.flatMap_append, List.take_append_drop]
    obtain ⟨bb, ob, ap, np, cp, ai, ni, ci, ae, ne, ce, ha, hrow, hp, hi, he⟩ := blkOf hb hx
    refine ⟨by omega, by omega, ptAt_of ha ⟨_, _, _, _, _, _, _, _, _, _, _, _, h10.ext.row hrow, ?_⟩⟩
    refine alp h10 fun b21 w22 h22 => ?_
    refine stp h22 0 rfl (by simp) rfl fun w23 h23 => ?_
    have hpl := hp.len
    have hil := hi.len
    have hile := hi.le
    have hds := dsts_length b.ins
    have := hblim.params
    have := hblim.ins
    simp only [lim] at *
    refine ⟨_, _, _, h23.cl 0 rfl rfl, (cloneI_w (RdI.ext hp h23.ext) (by omega)).mono ?_⟩
    rintro v w26 ⟨a', c'', r, rfl, hs, hh⟩
    have h26 := h23.call hh
    refine ⟨_, _, _, rfl, _, _, _, (h26.perm List.perm_append_comm).cl 0 rfl rfl, ?_⟩
    have h26' := h26.perm List.perm_append_comm
    refine ⟨fun am nm cm i w' c' => ∃ (q : Nat) (r : Rw), i = q ∧ q ≤ ni ∧ c' = ni - q ∧ Sls 1 am nm cm ((b.params ++ dsts (b.ins.take q)).map (Value.int .i64)) r ∧
      Hp w w' ([(b21, Cl 47 [.slice ap np cp, .slice ai ni ci, .int .i64 b.fin.kind, .int .i64 b.fin.val, .slice ae ne ce, .int .i64 b.fin.trap]), (b5, o)] ++ (r.L 3 ((b.params ++ dsts (b.ins.take q)).map (Value.int .i64)) ++ [])),
      ⟨ni, 0, r, rfl, by omega, by omega, by simpa [dsts] using hs, by simpa [dsts, splice] using h26'⟩, ?_⟩
    rintro am nm cm i w32 c' ⟨q, r, rfl, hq, rfl, hs, h32⟩
    have hnm := hs.n_eq
    have hdq := dsts_length (b.ins.take q)
    rw [List.length_map, List.length_append] at hnm
    rw [List.length_take] at hdq
    refine sp_dec (fun hlt2 => ?_) (fun hge2 => ?_)
    · intro K hK
      have hy : b.ins[q]? = some b.ins[q] := List.getElem?_eq_getElem (by omega)
      generalize b.ins[q] = x at hy
      obtain ⟨bi, oi, vs, hai, hrowi, hvli, aa, na, ca, rfl, hargs⟩ := hi.at_ _ _ hy
      refine ⟨by omega, by omega, ptAt_of hai ⟨_, _, _, _, _, _, _, _, _, h32.ext.row hrowi, ?_⟩⟩
      refine alp h32 fun b52 w53 h53 => ?_
      refine stp h53 0 rfl (by simp) rfl fun w54 h54 => ?_
      have hd := dsts_step hy
      refine ⟨_, h54.cl 0 rfl rfl, sp_of (fun h0 => ?_) (fun h0 => ?_)⟩
      · have h0' : x.dst ≠ 0 := by simpa using h0
        refine ⟨_, h54.cl 0 rfl rfl, ?_⟩
        refine alp h54 fun b62 w63 h63 => ?_
        obtain ⟨a64, c64, w65, r64, happ, hs64, h65⟩ := app1 (ty := 34) slInts (by omega) hs [_, _, _, _] h63 0 rfl rfl rfl (by simp only [maxLen]; omega) (by omega)
        refine ⟨_, _, _, w65, happ, hK _ _ _ _ ⟨ni - (q + 1), by omega, q + 1, r64, wrap_succ (by omega), by omega, rfl, ?_, ?_⟩⟩
        · rw [hd, if_neg h0', ← List.append_assoc]; simpa using hs64
        · rw [hd, if_neg h0', ← List.append_assoc]; simpa using h65.drop 2
      · have h0' : x.dst = 0 := by simpa using h0
        have hd' : dsts (b.ins.take (q + 1)) = dsts (b.ins.take q) := by rw [hd, if_pos h0', List.append_nil]
        refine hK _ _ _ _ ⟨ni - (q + 1), by omega, q + 1, r, wrap_succ (by omega), by omega, rfl, ?_, ?_⟩
        · rw [hd']; exact hs
        · rw [hd']; exact h54.drop 1
    · have hqn : q = ni := by omega
      rw [List.take_of_length_le (by omega)] at hs h32 hnm
      have hm : b.params ++ dsts b.ins = b.made := rfl
      have hml : b.made.length ≤ 2097152 := by rw [← hm, List.length_append]; omega
      rw [hm] at hs h32
      rw [← List.length_append, hm] at hnm
      refine ⟨fun i w' c' => ∃ (s : Nat) (o : Obj), i = s ∧ s ≤ nm ∧ c' = nm - s ∧ Hp w w' ([(b21, Cl 47 [.slice ap np cp, .slice ai ni ci, .int .i64 b.fin.kind, .int .i64 b.fin.val, .slice ae ne ce, .int .i64 b.fin.trap]), (b5, o)] ++ (r.L 3 (b.made.map (Value.int .i64)) ++ [])) ∧
        MapO (setF ((f.blocks.take j).flatMap Blk.made ++ b.made.take s)) o ∧ (∀ v ∈ (f.blocks.take j).flatMap Blk.made ++ b.made.take s, 0 < v) ∧ ((f.blocks.take j).flatMap Blk.made ++ b.made.take s).Nodup,
        ⟨nm, 0, o, rfl, by omega, by omega, h32, by simpa using ho, by simpa using hpos, by simpa using hnd⟩, ?_⟩
      rintro i w58 c' ⟨s, o2, rfl, hs', rfl, h58, ho2, hpos2, hnd2⟩
      refine sp_dec (fun hlt3 => ?_) (fun hge3 => ?_)
      · have hz : b.made[s]? = some b.made[s] := List.getElem?_eq_getElem (by omega)
        have hsplit : b.made = b.made.take s ++ b.made[s] :: b.made.drop (s + 1) := by
          rw [← List.drop_eq_getElem_cons (by omega), List.take_append_drop]
        generalize b.made[s] = v at hz hsplit
        obtain ⟨bs, os, rfl, hcs⟩ := hs.cel_at [_, _] h58 (j := s) (v := .int .i64 v) (by rw [List.getElem?_map, hz]; rfl)
        refine ⟨by omega, by omega, ptAt_of rfl ⟨v, by simpa using hcs, ?_⟩⟩
        intro K1 hK1 K2 hK2
        have hfm : f.made = ((f.blocks.take j).flatMap Blk.made ++ b.made.take s) ++ v :: (b.made.drop (s + 1) ++ (f.blocks.drop (j + 1)).flatMap Blk.made) := by
          rw [hmade]
          conv => lhs; rw [hsplit]
          simp
        refine sp_dec (fun hv => ?_) (fun hv => ?_)
        · exact hK2 _ ⟨by rw [once_false (l3 := []) hfm (.inl hv)], h58.ext⟩
        · refine ⟨decide (v ∈ (f.blocks.take j).flatMap Blk.made ++ b.made.take s), ?_, sp_dec (fun hin => ?_) (fun hin => ?_)⟩
          · rw [look_map mpBool zB (h58.rmap 1 rfl ho2), getD_setF]
          · exact hK2 _ ⟨by rw [once_false (l3 := []) hfm (.inr hin)], h58.ext⟩
          · obtain ⟨w66, o3, hu, ho3, h66⟩ := upd_map mpBool h58 1 rfl ho2 v (.bool true)
            have ht : b.made.take (s + 1) = b.made.take s ++ [v] := by rw [List.take_add_one, hz]; rfl
            refine hK1 _ ⟨w66, hu, nm - (s + 1), by omega, s + 1, o3, wrap_succ (by simp only [maxLen]; omega), by omega, rfl, h66, ?_, ?_, ?_⟩
            · rw [ht, ← List.append_assoc]; exact ho3.add
            · rw [ht, ← List.append_assoc]
              intro y hy
              rcases List.mem_append.1 hy with hy | hy
              · exact hpos2 y hy
              · simp at hy; omega
            · rw [ht, ← List.append_assoc, nodup_snoc]
              exact ⟨hnd2, hin⟩
      · have hsn : s = nm := by omega
        have hst : b.made.take s = b.made := List.take_of_length_le (by omega)
        rw [hst] at ho2 hpos2 hnd2
        have ht : (f.blocks.take (j + 1)).flatMap Blk.made = (f.blocks.take j).flatMap Blk.made ++ b.made := by rw [List.take_add_one, hx]; simp
        refine ⟨n - (j + 1), by omega, j + 1, o2, wrap_succ (by omega), by omega, rfl, h58.sub (by simp), ?_, ?_, ?_⟩
        · rw [ht]; exact ho2
        · rw [ht]; exact hpos2
        · rw [ht]; exact hnd2
  · have hjn : j = n := by omega
    rw [List.take_of_length_le (by omega)] at hpos hnd
    refine ⟨?_, h10.ext⟩
    have : once f = true := by unfold once; rw [decide_eq_true_iff]; exact ⟨hpos, hnd⟩
    rw [this]
theorem ends_w {w : World} {f : Fnc} {vs : List Value} (h : RFunc w vs f) {e : Fin} {ae : Option Addr} {ne ce : Nat} (he : RdS 2 REdge w ae ne e.ways) :
    CallP Pg 27 [.agg ⟨vs⟩, .agg ⟨[.int .i64 e.kind, .int .i64 e.val, .slice ae ne ce, .int .i64 e.trap]⟩] w fun v w' => v = .bool (endsOk f.blocks e) ∧ Ext w w' := by
  obtain ⟨a, n, c, rfl, hb⟩ := h
  refine F27_ok _ _ _ _ _ _ _ _ _ _ ?_
  unfold F27
  refine alp (Hp.refl w) fun b7 w8 h8 => ?_
  refine alp h8 fun b9 w10 h10 => ?_
  refine alm h10 fun b11 w12 h12 => ?_
  obtain ⟨w13, o13, hu1, ho1, h13⟩ := upd_map mpEnds h12 0 rfl MapO.empty 1 (.int .i64 1)
  obtain ⟨w14, o14, hu2, ho2, h14⟩ := upd_map mpEnds h13 0 rfl ho1 2 (.int .i64 2)
  obtain ⟨w15, o15, hu3, ho3, h15⟩ := upd_map mpEnds h14 0 rfl ho2 3 (.int .i64 0)
  obtain ⟨w16, o16, hu4, ho4, h16⟩ := upd_map mpEnds h15 0 rfl ho3 4 (.int .i64 0)
  have hbl := hb.len
  have hble := hb.le
  have hel := he.len
  have hele := he.le
  refine ⟨w13, hu1, w14, hu2, w15, hu3, w16, hu4, _, h16.cl 1 rfl rfl, (if e.kind = 1 then 1 else if e.kind = 2 then 2 else 0 : Int), (decide (1 ≤ e.kind) && decide (e.kind ≤ 4)), ?_, ?_⟩
  · rw [look_map2 mpEnds zI (p := some b11) (h16.rmap 0 rfl ho4) e.kind]
    by_cases k4 : e.kind = 4
    · simp [k4]
    by_cases k3 : e.kind = 3
    · simp [k3]
    by_cases k2 : e.kind = 2
    · simp [k2]
    by_cases k1 : e.kind = 1
    · simp [k1]
    · have : ¬ (1 ≤ e.kind ∧ e.kind ≤ 4) := by omega
      simp [k1, k2, k3, k4]
      omega
  intro K hK K0 hK0
  have hbad : endsOk f.blocks e = false → K0 w16 := fun hf => hK0 _ ⟨by rw [hf], h16.ext⟩
  have hgood : endsOk f.blocks e = e.ways.all (wayOk f.blocks) → K w16 := by
    intro hall
    refine hK _ ⟨_, _, _, h16.cl 1 rfl rfl, ?_⟩
    refine ⟨fun i w' c' => ∃ (j : Nat), i = j ∧ j ≤ ne ∧ c' = ne - j ∧ Hp w w' [(b11, o16), (b9, Cl 45 [.int .i64 e.kind, .int .i64 e.val, .slice ae ne ce, .int .i64 e.trap]), (b7, Cl 29 [.string f.name, .slice a n c])] ∧ ((e.ways.take j).all (wayOk f.blocks)) = true,
      ⟨ne, 0, rfl, by omega, by omega, h16, by simp⟩, ?_⟩
    rintro i w25 c' ⟨j, rfl, hj, rfl, h25, hw⟩
    refine sp_dec (fun hlt => ?_) (fun hge => ?_)
    · have hx : e.ways[j]? = some e.ways[j] := List.getElem?_eq_getElem (by omega)
      generalize e.ways[j] = x at hx
      obtain ⟨bb, ob, vs, ha, hrow, hvl, aa, na, ca, rfl, hargs⟩ := he.at_ _ _ hx
      refine ⟨by omega, by omega, ptAt_of ha ⟨_, _, _, _, h25.ext.row hrow, ?_⟩⟩
      refine alp h25 fun b32 w33 h33 => ?_
      refine stp h33 0 rfl (by simp) rfl fun w34 h34 => ?_
      intro K35 hK35
      have hd := h34.drew
      have key : ∀ q, q = !wayOk f.blocks x → K35 q w34.drew := by
        intro q hq
        refine hK35 q _ ?_
        subst hq
        refine sp_of (fun hbw => ⟨?_, hd.ext⟩) (fun hgw => ?_)
        · rw [hall]
          have : (e.ways.all (wayOk f.blocks)) = false := by
            rw [List.all_eq_false]
            exact ⟨x, List.mem_of_getElem? hx, by simpa using hbw⟩
          rw [this]
        · have hgw' : wayOk f.blocks x = true := by simpa using hgw
          refine ⟨ne - (j + 1), by omega, j + 1, wrap_succ (by omega), by omega, rfl, hd.drop 1, ?_⟩
          rw [List.take_add_one, hx, List.all_append, hw]; simp [hgw']
      have hal := hargs.len
      refine ⟨_, hd.cl 0 rfl rfl, sp_dec (fun h1 => key _ ?_) (fun h1 => ⟨_, hd.cl 0 rfl rfl, _, _, _, hd.cl 3 rfl rfl, sp_dec (fun h2 => key _ ?_) (fun h2 => ?_)⟩)⟩
      · have : ¬ 1 ≤ x.to := by omega
        simp [wayOk, this]
      · have : ¬ x.to < f.blocks.length := by omega
        simp [wayOk, this]
      · have htl : x.to.toNat < f.blocks.length := by omega
        have hbk := List.getElem?_eq_getElem htl
        generalize f.blocks[x.to.toNat] = bk at hbk
        obtain ⟨bt, ot, ap, np, cp, ai, ni, ci, ax, nx, cx, hat, hrowt, hp, hi, hex⟩ := blkOf hb hbk
        refine ⟨_, _, _, hd.cl 0 rfl rfl, _, _, _, hd.cl 3 rfl rfl, _, hd.cl 0 rfl rfl, by omega, by omega, ptAt_of hat ⟨ap, np, cp, hd.ext.cel ?_, key _ ?_⟩⟩
        · exact hrowt 0 _ rfl
        · have hpl := hp.len
          have h1' : 1 ≤ x.to := by omega
          have h2' : x.to < f.blocks.length := by omega
          simp only [wayOk, h1', h2', hbk, decide_true, Bool.true_and]
          rw [← hal, ← hpl]
          exact congrArg Bool.not (decide_eq_decide.2 ⟨fun h => by omega, fun h => by omega⟩)
    · have : j = ne := by omega
      rw [List.take_of_length_le (by omega)] at hw
      exact ⟨by rw [hall, hw], h25.ext⟩
  have hend : endsOk f.blocks e = ((decide (1 ≤ e.kind) && decide (e.kind ≤ 4)) && decide (((ne : Nat) : Int) = if e.kind = 1 then 1 else if e.kind = 2 then 2 else 0) && (decide (e.kind = 4) == (decide (e.trap = 1) || decide (e.trap = 2))) &&
      ((decide (e.kind = 2) || decide (e.kind = 3)) == decide (0 < e.val)) && !decide (e.val < 0) && e.ways.all (wayOk f.blocks)) := by rw [endsOk, hel]
  rw [hend] at hbad hgood
  clear hend hK hK0
  obtain ⟨C, hC⟩ : ∃ x, x = (decide (1 ≤ e.kind) && decide (e.kind ≤ 4)) := ⟨_, rfl⟩
  obtain ⟨W, hW⟩ : ∃ x, x = decide (((ne : Nat) : Int) = if e.kind = 1 then 1 else if e.kind = 2 then 2 else 0) := ⟨_, rfl⟩
  obtain ⟨k4, hk4⟩ : ∃ x, x = decide (e.kind = 4) := ⟨_, rfl⟩
  obtain ⟨t1, ht1⟩ : ∃ x, x = decide (e.trap = 1) := ⟨_, rfl⟩
  obtain ⟨t2, ht2⟩ : ∃ x, x = decide (e.trap = 2) := ⟨_, rfl⟩
  obtain ⟨k2, hk2⟩ : ∃ x, x = decide (e.kind = 2) := ⟨_, rfl⟩
  obtain ⟨k3, hk3⟩ : ∃ x, x = decide (e.kind = 3) := ⟨_, rfl⟩
  obtain ⟨P, hP⟩ : ∃ x, x = decide (0 < e.val) := ⟨_, rfl⟩
  obtain ⟨N, hN⟩ : ∃ x, x = decide (e.val < 0) := ⟨_, rfl⟩
  obtain ⟨A, hA⟩ : ∃ x, x = e.ways.all (wayOk f.blocks) := ⟨_, rfl⟩
  rw [← hC, ← hW, ← hk4, ← ht1, ← ht2, ← hk2, ← hk3, ← hP, ← hN, ← hA] at hbad hgood
  refine sp_of (fun g1 => hbad (by simp only [← hC, ← hW, ← hk4, ← ht1, ← ht2, ← hk2, ← hk3, ← hP, ← hN] at *; revert g1; cases C <;> simp)) (fun g1 => ⟨_, _, _, h16.cl 1 rfl rfl, sp_of (fun g2 => hbad (by simp only [← hC, ← hW, ← hk4, ← ht1, ← ht2, ← hk2, ← hk3, ← hP, ← hN] at *; revert g2; cases W <;> simp)) (fun g2 => ⟨_, h16.cl 1 rfl rfl, _, h16.cl 1 rfl rfl, ?_⟩)⟩)
  simp only [← hC, ← hW] at g1 g2
  have e1 : C = true := by simpa using g1
  have e2 : W = true := by simpa using g2
  rw [e1, e2] at hbad hgood
  refine sp_of (fun g3 => sp_of (fun g4 => hbad (by simp only [← hC, ← hW, ← hk4, ← ht1, ← ht2, ← hk2, ← hk3, ← hP, ← hN] at *; subst g3; revert g4; cases k4 <;> simp)) (fun g4 => ?_)) (fun g3 => ⟨_, h16.cl 1 rfl rfl, sp_of (fun g4 => hbad (by simp only [← hC, ← hW, ← hk4, ← ht1, ← ht2, ← hk2, ← hk3, ← hP, ← hN] at *; subst g3; revert g4; cases k4 <;> cases t2 <;> simp)) (fun g4 => ?_)⟩)
  · have e3 : (k4 == (t1 || t2)) = true := by
      simp only [← hk4, ← ht1, ← ht2] at g3 g4
      subst g3; revert g4; cases k4 <;> simp
    rw [e3] at hbad hgood
    refine ⟨_, h16.cl 1 rfl rfl, sp_of (fun g5 => ⟨_, h16.cl 1 rfl rfl, sp_of (fun g6 => hbad (by simp only [← hC, ← hW, ← hk4, ← ht1, ← ht2, ← hk2, ← hk3, ← hP, ← hN] at *; subst g5; revert g6; cases P <;> simp)) (fun g6 => ⟨_, h16.cl 1 rfl rfl, sp_of (fun g7 => hbad (by simp only [← hC, ← hW, ← hk4, ← ht1, ← ht2, ← hk2, ← hk3, ← hP, ← hN] at *; subst g7; simp)) (fun g7 => hgood (by simp only [← hC, ← hW, ← hk4, ← ht1, ← ht2, ← hk2, ← hk3, ← hP, ← hN] at *; subst g7 g5; revert g6; cases P <;> simp))⟩)⟩)
      (fun g5 => ⟨_, h16.cl 1 rfl rfl, _, h16.cl 1 rfl rfl, sp_of (fun g6 => hbad (by simp only [← hC, ← hW, ← hk4, ← ht1, ← ht2, ← hk2, ← hk3, ← hP, ← hN] at *; subst g5; revert g6; cases P <;> cases k3 <;> simp)) (fun g6 => ⟨_, h16.cl 1 rfl rfl, sp_of (fun g7 => hbad (by simp only [← hC, ← hW, ← hk4, ← ht1, ← ht2, ← hk2, ← hk3, ← hP, ← hN] at *; subst g7; simp)) (fun g7 => hgood (by simp only [← hC, ← hW, ← hk4, ← ht1, ← ht2, ← hk2, ← hk3, ← hP, ← hN] at *; subst g7 g5; revert g6; cases P <;> cases k3 <;> simp))⟩)⟩)⟩
  · have e3 : (k4 == (t1 || t2)) = true := by
      simp only [← hk4, ← ht1, ← ht2] at g3 g4
      subst g3; revert g4; cases k4 <;> cases t2 <;> simp
    rw [e3] at hbad hgood
    refine ⟨_, h16.cl 1 rfl rfl, sp_of (fun g5 => ⟨_, h16.cl 1 rfl rfl, sp_of (fun g6 => hbad (by simp only [← hC, ← hW, ← hk4, ← ht1, ← ht2, ← hk2, ← hk3, ← hP, ← hN] at *; subst g5; revert g6; cases P <;> simp)) (fun g6 => ⟨_, h16.cl 1 rfl rfl, sp_of (fun g7 => hbad (by simp only [← hC, ← hW, ← hk4, ← ht1, ← ht2, ← hk2, ← hk3, ← hP, ← hN] at *; subst g7; simp)) (fun g7 => hgood (by simp only [← hC, ← hW, ← hk4, ← ht1, ← ht2, ← hk2, ← hk3, ← hP, ← hN] at *; subst g7 g5; revert g6; cases P <;> simp))⟩)⟩)
      (fun g5 => ⟨_, h16.cl 1 rfl rfl, _, h16.cl 1 rfl rfl, sp_of (fun g6 => hbad (by simp only [← hC, ← hW, ← hk4, ← ht1, ← ht2, ← hk2, ← hk3, ← hP, ← hN] at *; subst g5; revert g6; cases P <;> cases k3 <;> simp)) (fun g6 => ⟨_, h16.cl 1 rfl rfl, sp_of (fun g7 => hbad (by simp only [← hC, ← hW, ← hk4, ← ht1, ← ht2, ← hk2, ← hk3, ← hP, ← hN] at *; subst g7; simp)) (fun g7 => hgood (by simp only [← hC, ← hW, ← hk4, ← ht1, ← ht2, ← hk2, ← hk3, ← hP, ← hN] at *; subst g7 g5; revert g6; cases P <;> cases k3 <;> simp))⟩)⟩)⟩
theorem right_w {w : World} {p : Prg} {vs : List Value} (h : RProg w vs p) {i : Ins} {us : List Value} (hi : RIns w us i) :
    CallP Pg 30 [.agg ⟨vs⟩, .agg ⟨us⟩] w fun v w' => v = .bool (rightOk p i) ∧ Ext w w' := by
  obtain ⟨aa, na, ca, af, nf, cf, rfl, harr, hfun⟩ := h
  obtain ⟨ai, ni, ci, rfl, hargs⟩ := hi
  refine F30_ok _ _ _ _ _ _ _ _ _ _ _ _ _ _ _ _ ?_
  unfold F30
  refine alp (Hp.refl w) fun b11 w12 h12 => ?_
  refine alp h12 fun b13 w14 h14 => ⟨_, h14.cl 0 rfl rfl, (shape_w i.op w14).mono ?_⟩
  rintro v w17 ⟨rfl, rfl⟩
  refine ⟨_, _, rfl, ?_⟩
  have hal := hargs.len
  have harl := harr.len
  have hfl := hfun.len
  intro K20 hK20 K66 hK66
  obtain ⟨tail, htail⟩ : ∃ t : Bool, t = (if i.op = 2 then opKnown i.bin
   else if i.op = 3 ∨ i.op = 4 then decide (0 ≤ i.arr) && (match p.arrs[i.arr.toNat]? with | some a => decide (a.size = 0) | none => false)
   else if i.op = 5 ∨ i.op = 6 then decide (0 ≤ i.arr) && (match p.arrs[i.arr.toNat]? with | some a => decide (0 < a.size) | none => false)
   else if i.op = 7 then decide (0 ≤ i.fn) && (match p.funcs[i.fn.toNat]? with | some f => (match f.blocks with | b :: _ => decide (i.args.length = b.params.length) | [] => false) | none => false)
   else true) := ⟨_, rfl⟩
  have hE : rightOk p i = (!decide ((shapeOf i.op).1 = -2) && !(decide (0 ≤ (shapeOf i.op).1) && !decide (((ni : Nat) : Int) = (shapeOf i.op).1)) && ((shapeOf i.op).2 == decide (0 < i.dst)) && !decide (i.dst < 0) && tail) := by
    rw [htail, rightOk, hal]; rfl
  have hbad : rightOk p i = false → K66 w17 := fun hf => hK66 _ ⟨by rw [hf], h14.ext⟩
  have hgood : rightOk p i = tail → K20 w17 := by
    intro he
    refine hK20 _ ⟨_, h14.cl 0 rfl rfl, sp_dec (fun h2 => ?_) (fun h2 => ?_)⟩
    · refine ⟨_, h14.cl 0 rfl rfl, (known_op i.bin w17).mono ?_⟩
      rintro v w' ⟨rfl, rfl⟩
      exact ⟨_, rfl, by rw [he, htail, if_pos h2], h14.ext⟩
    rw [if_neg h2] at htail
    intro K27 hK27
    have k27 : ∀ x, x = decide (i.op = 3 ∨ i.op = 4) → K27 x w17 := by
      intro x hx
      refine hK27 x _ ?_
      subst hx
      refine sp_dec (fun h3 => ?_) (fun h3 => ?_)
      · rw [if_pos h3] at htail
        refine ⟨_, h14.cl 0 rfl rfl, sp_dec (fun h0 => ⟨_, h14.cl 0 rfl rfl, _, _, _, h14.cl 1 rfl rfl, sp_dec (fun hl => ?_) (fun hl => ?_)⟩) (fun h0 => ⟨?_, h14.ext⟩)⟩
        · have hx : p.arrs[i.arr.toNat]? = some p.arrs[i.arr.toNat] := List.getElem?_eq_getElem (by omega)
          generalize p.arrs[i.arr.toNat] = x at hx
          obtain ⟨bb, ob, vs, ha, hrow, hvl, rfl⟩ := harr.at_ _ _ hx
          refine ⟨_, _, _, h14.cl 1 rfl rfl, _, h14.cl 0 rfl rfl, h0, hl, ptAt_of ha ⟨x.size, h14.ext.cel (hrow 2 _ rfl), ?_, h14.ext⟩⟩
          rw [he, htail, hx]; simp [h0]
        · have : p.arrs[i.arr.toNat]? = none := List.getElem?_eq_none (by omega)
          refine ⟨?_, h14.ext⟩
          rw [he, htail, this]; simp
        · rw [he, htail]; simp [h0]
      · rw [if_neg h3] at htail
        intro K38 hK38
        have k38 : ∀ x, x = decide (i.op = 5 ∨ i.op = 6) → K38 x w17 := by
          intro x hx
          refine hK38 x _ ?_
          subst hx
          refine sp_dec (fun h5 => ?_) (fun h5 => ?_)
          · rw [if_pos h5] at htail
            refine ⟨_, h14.cl 0 rfl rfl, sp_dec (fun h0 => ⟨_, h14.cl 0 rfl rfl, _, _, _, h14.cl 1 rfl rfl, sp_dec (fun hl => ?_) (fun hl => ?_)⟩) (fun h0 => ⟨?_, h14.ext⟩)⟩
            · have hx : p.arrs[i.arr.toNat]? = some p.arrs[i.arr.toNat] := List.getElem?_eq_getElem (by omega)
              generalize p.arrs[i.arr.toNat] = x at hx
              obtain ⟨bb, ob, vs, ha, hrow, hvl, rfl⟩ := harr.at_ _ _ hx
              refine ⟨_, _, _, h14.cl 1 rfl rfl, _, h14.cl 0 rfl rfl, h0, hl, ptAt_of ha ⟨x.size, h14.ext.cel (hrow 2 _ rfl), ?_, h14.ext⟩⟩
              rw [he, htail, hx]; simp [h0]
            · have : p.arrs[i.arr.toNat]? = none := List.getElem?_eq_none (by omega)
              refine ⟨?_, h14.ext⟩
              rw [he, htail, this]; simp
            · rw [he, htail]; simp [h0]
          · rw [if_neg h5] at htail
            have hd := h14.drew
            refine sp_dec (fun h7 => ?_) (fun h7 => ?_)
            · rw [if_pos h7] at htail
              refine ⟨_, hd.cl 0 rfl rfl, sp_dec (fun h0 => ⟨_, hd.cl 0 rfl rfl, _, _, _, hd.cl 1 rfl rfl, sp_dec (fun hl => ?_) (fun hl => ?_)⟩) (fun h0 => ⟨?_, hd.ext⟩)⟩
              · have hx : p.funcs[i.fn.toNat]? = some p.funcs[i.fn.toNat] := List.getElem?_eq_getElem (by omega)
                generalize p.funcs[i.fn.toNat] = x at hx
                obtain ⟨bb, ob, vs, ha, hrow, hvl, ab, nb, cb, rfl, hbs⟩ := hfun.at_ _ _ hx
                have hbl := hbs.len
                refine ⟨_, _, _, hd.cl 1 rfl rfl, _, hd.cl 0 rfl rfl, h0, hl, ptAt_of ha ⟨ab, nb, cb, hd.ext.cel (hrow 1 _ rfl), sp_dec (fun hpos => ?_) (fun hpos => ?_)⟩⟩
                · obtain ⟨k, ks, hk⟩ : ∃ k ks, x.blocks = k :: ks := by
                    cases hq : x.blocks with
                    | nil => rw [hq] at hbl; simp at hbl; omega
                    | cons k ks => exact ⟨k, ks, rfl⟩
                  obtain ⟨bt, ot, ap, np, cp, ai2, ni2, ci2, ax, nx, cx, hat, hrowt, hp, hi, hex⟩ := blkOf hbs (i := 0) (b := k) (by rw [hk]; rfl)
                  have hpl := hp.len
                  refine ⟨_, _, _, hd.cl 0 rfl rfl, _, _, _, hd.cl 1 rfl rfl, _, hd.cl 0 rfl rfl, h0, hl, ptAt_of ha ⟨ab, nb, cb, hd.ext.cel (hrow 1 _ rfl), by omega, by omega, ptAt_of hat ⟨ap, np, cp, hd.ext.cel ?_, ?_, hd.ext⟩⟩⟩
                  · have := hrowt 0 _ rfl; simp only [Nat.zero_mul, Nat.add_zero] at this; exact this
                  · rw [he, htail, hx]
                    simp only [hk, h0, decide_true, Bool.true_and]
                    congr 1
                    exact decide_eq_decide.2 ⟨fun h => by omega, fun h => by omega⟩
                · have hq : x.blocks = [] := List.eq_nil_of_length_eq_zero (by omega)
                  refine ⟨?_, hd.ext⟩
                  rw [he, htail, hx]; simp [hq]
              · have : p.funcs[i.fn.toNat]? = none := List.getElem?_eq_none (by omega)
                refine ⟨?_, hd.ext⟩
                rw [he, htail, this]; simp
              · rw [he, htail]; simp [h0]
            · rw [if_neg h7] at htail
              exact ⟨by rw [he, htail], h14.ext⟩
        exact sp_dec (fun h5 => k38 _ (by simp [h5])) (fun h5 => k38 _ (by simp [h5]))
    exact sp_dec (fun h5 => k27 _ (by simp [h5])) (fun h5 => k27 _ (by simp [h5]))
  rw [hE] at hbad hgood
  clear hE htail hK20 hK66
  generalize (shapeOf i.op).1 = n at *
  generalize (shapeOf i.op).2 = has at *
  refine sp_dec (fun g1 => hbad (by simp [g1])) (fun g1 => ?_)
  refine sp_dec (fun g2 => ⟨_, _, _, h14.cl 0 rfl rfl, sp_of (fun g3 => hbad ?_) (fun g3 => ⟨_, h14.cl 0 rfl rfl, sp_of (fun g4 => hbad ?_) (fun g4 => ⟨_, h14.cl 0 rfl rfl, sp_dec (fun g5 => hbad ?_) (fun g5 => hgood ?_)⟩)⟩)⟩)
    (fun g2 => ⟨_, h14.cl 0 rfl rfl, sp_of (fun g4 => hbad ?_) (fun g4 => ⟨_, h14.cl 0 rfl rfl, sp_dec (fun g5 => hbad ?_) (fun g5 => hgood ?_)⟩)⟩)
  · simp only [g3, g2]; simp
  · have g4' : (has == decide (0 < i.dst)) = false := by simpa using g4
    rw [g4']; simp
  · simp [g5]
  · have g3' : decide (((ni : Nat) : Int) = n) = true := by simpa using g3
    have g4' : (has == decide (0 < i.dst)) = true := by simpa using g4
    rw [g3', g4']; simp [g1, g5]
  · have g4' : (has == decide (0 < i.dst)) = false := by simpa using g4
    rw [g4']; simp
  · simp [g5]
  · have g4' : (has == decide (0 < i.dst)) = true := by simpa using g4
    rw [g4']; simp [g1, g2, g5]
theorem check1_w {w : World} {p : Prg} {vs : List Value} (h : RProg w vs p) {i : Ins} {us : List Value} (hi : RIns w us i) {b o : Nat} (hb : Row w b o vs) :
    CallP Pg 29 [.agg ⟨us⟩, .pointer (some ⟨b, o, none⟩)] w fun v w' => v = .bool (!rightOk p i) ∧ Ext w w' := by
  have h' := h
  obtain ⟨aa, na, ca, af, nf, cf, rfl, harr, hfun⟩ := h
  have hi' := hi
  obtain ⟨ai, ni, ci, rfl, hargs⟩ := hi
  refine F29_ok _ _ _ _ _ _ _ _ _ _ _ ?_
  unfold F29
  refine alp (Hp.refl w) fun b10 w11 h11 => ?_
  refine ⟨_, _, _, _, _, _, _, h11.ext.row hb, _, _, _, _, _, _, _, _, _, h11.row 0 rfl, ?_⟩
  refine (right_w (h'.ext h11.ext) (hi'.ext' h11.ext)).mono ?_
  rintro v w23 ⟨rfl, hx⟩
  exact ⟨_, rfl, rfl, h11.ext.trans hx⟩
end Go.Pl.Try

/- What 'palings/taint.Writes' does, read off its translation by gen.py. -/
namespace Go.Pl.Try
set_option linter.unusedVariables false
set_option maxRecDepth 100000
def F15 (ax1 : Option Addr) (nx1 cx1 : Nat) (ax2 : Option Addr) (nx2 cx2 : Nat) (x3 : Int) (w : World) (R : Value → World → Prop) : Prop :=
  AlP 32 [.slice ax1 nx1 cx1, .slice ax2 nx2 cx2, .int .i64 x3] w fun b4 w5 =>
  ∃ (ax6 : Option Addr) (nx6 cx6 : Nat), cel w5 b4 0 = some (.slice ax6 nx6 cx6) ∧
  ∃ (ax7 : Option Addr) (nx7 cx7 : Nat), ∃ w8 : World, Sem.run Pg (Instr.makeSlice 75 (.int .i64 (nx6 : Nat)) (.int .i64 (nx6 : Nat))) w5 = .ok (.slice ax7 nx7 cx7) w8 ∧
  ∃ (ax9 : Option Addr) (nx9 cx9 : Nat), cel w8 b4 1 = some (.slice ax9 nx9 cx9) ∧
  ∃ J10 : Bool → Int → World → Nat → Prop, (∃ m14, J10 false 0 w8 m14) ∧
  ∀ (x11 : Bool) (x12 : Int), ∀ w13 m14, J10 x11 x12 w13 m14 →
  sp (decide ((x12 : Int) < (nx9 : Nat)))
  (0 ≤ (x12 : Int) ∧ (x12 : Int) < (nx9 : Nat) ∧
  ptAt ax9 fun b16 o17 =>
  ∃ (x18 : ByteArray) (ax19 : Option Addr) (nx19 cx19 : Nat), Row w13 b16 (o17 + x12.toNat * 2) [.string x18, .slice ax19 nx19 cx19] ∧
  AlP 29 [.string ⟨#[]⟩, .slice none 0 0] w13 fun b20 w21 =>
  StP b20 0 [.string x18, .slice ax19 nx19 cx19] w21 fun w22 =>
  ∃ (ax23 : Option Addr) (nx23 cx23 : Nat), cel w22 b20 1 = some (.slice ax23 nx23 cx23) ∧
  ∃ J24 : Bool → Int → World → Nat → Prop, (∃ m28, J24 x11 0 w22 m28) ∧
  ∀ (x25 : Bool) (x26 : Int), ∀ w27 m28, J24 x25 x26 w27 m28 →
  sp (decide ((x26 : Int) < (nx23 : Nat)))
  (0 ≤ (x26 : Int) ∧ (x26 : Int) < (nx23 : Nat) ∧
  ptAt ax23 fun b30 o31 =>
  ∃ (ax32 : Option Addr) (nx32 cx32 : Nat) (ax33 : Option Addr) (nx33 cx33 : Nat) (x34 : Int) (x35 : Int) (ax36 : Option Addr) (nx36 cx36 : Nat) (x37 : Int), Row w27 b30 (o31 + x26.toNat * 6) [.slice ax32 nx32 cx32, .slice ax33 nx33 cx33, .int .i64 x34, .int .i64 x35, .slice ax36 nx36 cx36, .int .i64 x37] ∧
  AlP 47 [.slice none 0 0, .slice none 0 0, .int .i64 0, .int .i64 0, .slice none 0 0, .int .i64 0] w27 fun b38 w39 =>
  StP b38 0 [.slice ax32 nx32 cx32, .slice ax33 nx33 cx33, .int .i64 x34, .int .i64 x35, .slice ax36 nx36 cx36, .int .i64 x37] w39 fun w40 =>
  ∃ (ax41 : Option Addr) (nx41 cx41 : Nat), cel w40 b38 1 = some (.slice ax41 nx41 cx41) ∧
  ∃ J42 : Bool → Int → World → Nat → Prop, (∃ m46, J42 x25 0 w40 m46) ∧
  ∀ (x43 : Bool) (x44 : Int), ∀ w45 m46, J42 x43 x44 w45 m46 →
  sp (decide ((x44 : Int) < (nx41 : Nat)))
  (∀ K48 : Bool → World → Prop, (∀ (x49 : Bool), ∀ w50, (
  ∃ m47, m47 < m46 ∧ J42 x49 (IntKind.wrap .i64 (x44 + 1)) w50 m47) → K48 x49 w50) →
  0 ≤ (x44 : Int) ∧ (x44 : Int) < (nx41 : Nat) ∧
  ptAt ax41 fun b51 o52 =>
  ∃ (x53 : Int) (x54 : Int) (ax55 : Option Addr) (nx55 cx55 : Nat) (x56 : Int) (x57 : Int) (x58 : Int) (x59 : Int), Row w45 b51 (o52 + x44.toNat * 7) [.int .i64 x53, .int .i64 x54, .slice ax55 nx55 cx55, .int .i64 x56, .int .i64 x57, .int .i64 x58, .int .i64 x59] ∧
  AlP 37 [.int .i64 0, .int .i64 0, .slice none 0 0, .int .i64 0, .int .i64 0, .int .i64 0, .int .i64 0] w45 fun b60 w61 =>
  StP b60 0 [.int .i64 x53, .int .i64 x54, .slice ax55 nx55 cx55, .int .i64 x56, .int .i64 x57, .int .i64 x58, .int .i64 x59] w61 fun w62 =>
  ∀ K63 : Bool → World → Prop, (∀ (x64 : Bool), ∀ w65, (
  ∃ (x66 : Int), cel w65 b60 0 = some (.int .i64 x66) ∧
  sp (decide ((x66 : Int) = 4))
  (∃ (x67 : Int), cel w65 b60 5 = some (.int .i64 x67) ∧
  sp (decide ((0 : Int) ≤ x67))
  (∃ (x68 : Int), cel w65 b60 5 = some (.int .i64 x68) ∧
  sp (decide ((x68 : Int) < (nx7 : Nat)))
  (∃ (x69 : Int), cel w65 b60 5 = some (.int .i64 x69) ∧
  0 ≤ (x69 : Int) ∧ (x69 : Int) < (nx7 : Nat) ∧
  ptAt ax7 fun b70 o71 =>
  StP b70 (o71 + x69.toNat * 1) [.bool true] w65 fun w72 =>
  K48 x64 w72)
  (K48 x64 w65))
  (K48 x64 w65))
  (K48 x64 w65)) → K63 x64 w65) →
  sp x43
  (K63 true w62)
  (∃ (x73 : Int), cel w62 b60 0 = some (.int .i64 x73) ∧
  K63 (decide ((x73 : Int) = 6)) w62))
  (∃ m29, m29 < m28 ∧ J24 x43 (IntKind.wrap .i64 (x26 + 1)) w45 m29))
  (∃ m15, m15 < m14 ∧ J10 x25 (IntKind.wrap .i64 (x12 + 1)) w27 m15))
  (∃ J74 : Int → World → Nat → Prop, (∃ m77, J74 0 w13 m77) ∧
  ∀ (x75 : Int), ∀ w76 m77, J74 x75 w76 m77 →
  sp (decide ((x75 : Int) < (nx7 : Nat)))
  (∀ K79 : World → Prop, (∀ w80, (
  ∃ m78, m78 < m77 ∧ J74 (IntKind.wrap .i64 (x75 + 1)) w80 m78) → K79 w80) →
  0 ≤ (x75 : Int) ∧ (x75 : Int) < (nx7 : Nat) ∧
  ptAt ax7 fun b81 o82 =>
  ∃ (x83 : Bool), cel w76 b81 (o82 + x75.toNat * 1) = some (.bool x83) ∧
  sp x83
  (0 ≤ (x75 : Int) ∧ (x75 : Int) < (nx7 : Nat) ∧
  ptAt ax7 fun b84 o85 =>
  StP b84 (o85 + x75.toNat * 1) [.bool true] w76 fun w86 =>
  K79 w86)
  (0 ≤ (x75 : Int) ∧ (x75 : Int) < (nx7 : Nat) ∧
  ptAt ax7 fun b87 o88 =>
  StP b87 (o88 + x75.toNat * 1) [.bool x11] w76 fun w89 =>
  K79 w89))
  (R (.slice ax7 nx7 cx7) w76))
def T15 : List Sh := [.v (.agg [.sl, .sl, (.int .i64)]), .v (.one .ptr), .v (.one .sl), .v (.one .sl), .v (.one .bool), .v (.one .any), .v (.one .ptr), .v (.one .any), .v (.one .ptr), .v (.one .any), .v (.one .ptr), .v (.one (.int .i64)), .v (.one .ptr), .v (.one .sl), .v (.one (.int .i64)), .v (.one .sl), .v (.one .ptr), .v (.one .sl), .v (.one (.int .i64)), .v (.one (.int .i64)), .v (.one .bool), .v (.one .ptr), .v (.agg [.str, .sl]), .v (.one .ptr), .v (.one .sl), .v (.one (.int .i64)), .v (.one (.int .i64)), .v (.one .bool), .v (.one .ptr), .v (.agg [.sl, .sl, (.int .i64), (.int .i64), .sl, (.int .i64)]), .v (.one .ptr), .v (.one .sl), .v (.one (.int .i64)), .v (.one (.int .i64)), .v (.one .bool), .v (.one .ptr), .v (.agg [(.int .i64), (.int .i64), .sl, (.int .i64), (.int .i64), (.int .i64), (.int .i64)]), .v (.one .bool), .v (.one .bool), .v (.one .ptr), .v (.one (.int .i64)), .v (.one .bool), .v (.one .bool), .v (.one .ptr), .v (.one (.int .i64)), .v (.one .bool), .v (.one .bool), .v (.one .ptr), .v (.one (.int .i64)), .v (.one .bool), .v (.one .bool), .v (.one .bool), .v (.one .ptr), .v (.one (.int .i64)), .v (.one .sl), .v (.one (.int .i64)), .v (.one .bool), .v (.one .bool), .v (.one .sl), .v (.one .ptr), .v (.one (.int .i64)), .v (.one .ptr), .v (.one (.int .i64)), .v (.one (.int .i64)), .v (.one (.int .i64)), .v (.one .sl), .v (.one (.int .i64)), .v (.one (.int .i64)), .v (.one .bool), .v (.one (.int .i64)), .v (.one .sl), .v (.one (.int .i64)), .v (.one .sl), .v (.one (.int .i64)), .v (.one .ptr), .v (.one .bool), .v (.one .bool), .v (.one .bool), .v (.one .bool), .v (.one .ptr), .v (.one (.int .i64)), .v (.one .sl)]
def A15 : Ann := (.seq none .z (.seq none .z (.seq none .z (.seq none (.seq none .z (.block none (.loop [4, 19] (.seq none .z (.seq none (.cond .z .z) (.seq none (.block none (.seq none .z (.seq none .z (.block none (.loop [4, 26] (.seq none .z (.seq none (.cond .z .z) (.seq none (.block none (.seq none .z (.seq none .z (.block none (.loop [4, 33] (.seq none .z (.seq none (.cond .z .z) (.seq none (.block (some [4]) (.seq none .z (.seq (some [4]) .z (.ifs none none .z .z)))) .z)))))))) .z)))))))) .z)))))) (.seq none (.seq none .z (.block none (.loop [67] (.seq none .z (.seq none (.cond .z .z) (.seq none (.block (some []) (.seq none .z .z)) .z)))))) (.seq none .z .z))))))
theorem F15_eq (ax1 : Option Addr) (nx1 cx1 : Nat) (ax2 : Option Addr) (nx2 cx2 : Nat) (x3 : Int) (w : World) (R : Value → World → Prop) : F15 ax1 nx1 cx1 ax2 nx2 cx2 x3 w R = denF Go.Proofs.Try.prog T15 Go.Proofs.Try.f15 A15 [.agg ⟨[.slice ax1 nx1 cx1, .slice ax2 nx2 cx2, .int .i64 x3]⟩] w R := by kernel_rfl
theorem F15_ok (ax1 : Option Addr) (nx1 cx1 : Nat) (ax2 : Option Addr) (nx2 cx2 : Nat) (x3 : Int) {w : World} {R : Value → World → Prop} (h : F15 ax1 nx1 cx1 ax2 nx2 cx2 x3 w R) : CallP Go.Proofs.Try.prog 15 [.agg ⟨[.slice ax1 nx1 cx1, .slice ax2 nx2 cx2, .int .i64 x3]⟩] w R :=
  calls_den (fun _ => drawn (by kernel_rfl)) Go.Proofs.Try.func15 (Nat.le_of_ble_eq_true (by kernel_rfl)) ((F15_eq ax1 nx1 cx1 ax2 nx2 cx2 x3 w R).mp h)
end Go.Pl.Try

/- Which arrays may ever be turned: walked. -/
namespace Go.Pl.Try
open M
set_option linter.unusedVariables false
theorem drop_flat {α β : Type} (g : α → List β) {l : List α} {j : Nat} {x : α} (h : l[j]? = some x) : (l.drop j).flatMap g = g x ++ (l.drop (j + 1)).flatMap g := by
  have hj := (List.getElem?_eq_some_iff.1 h).1
  rw [List.drop_eq_getElem_cons hj, List.flatMap_cons, (List.getElem?_eq_some_iff.1 h).2]
theorem drop_cons {α : Type} {l : List α} {j : Nat} {x : α} (h : l[j]? = some x) : l.drop j = x :: l.drop (j + 1) := by
  have hj := (List.getElem?_eq_some_iff.1 h).1
  rw [List.drop_eq_getElem_cons hj, (List.getElem?_eq_some_iff.1 h).2]
theorem at_some {α : Type} {l : List α} {j : Nat} (h : j < l.length) : ∃ x, l[j]? = some x := ⟨_, List.getElem?_eq_getElem h⟩
theorem setB {xs : List Bool} {i : Nat} (b : Bool) (h : i < xs.length) : splice (xs.map Value.bool) (0 + i * 1) [.bool b] = (xs.set i b).map Value.bool := by
  have := set_splice Value.bool xs i b h
  simpa using this
theorem writes_w {w : World} {p : Prg} {vs : List Value} (h : RProg w vs p) (hl : p.Lim) :
    CallP Pg 15 [.agg ⟨vs⟩] w fun v w' => ∃ b, v = .slice (some ⟨b, 0, none⟩) p.arrs.length p.arrs.length ∧ Hp w w' [(b, Cl 4 (p.writes.map .bool))] := by
  obtain ⟨aa, na, ca, af, nf, cf, rfl, harr, hfun⟩ := h
  have harl := harr.len
  have hfl := hfun.len
  have hfle := hfun.le
  have hal := hl.arrs
  simp only [lim] at hal
  refine F15_ok _ _ _ _ _ _ _ ?_
  unfold F15
  refine alp (Hp.refl w) fun b4 w5 h5 => ⟨_, _, _, h5.cl 0 rfl rfl, ?_⟩
  obtain ⟨bo, w8, hm, h8⟩ := make_run slBools zBool h5 na (by omega) (by simp only [maxLen]; omega)
  refine ⟨_, _, _, w8, hm, _, _, _, h8.cl 1 rfl rfl, ?_⟩
  generalize hbx : Cl 32 [.slice aa na ca, .slice af nf cf, .int .i64 p.main] = box at *
  obtain ⟨total, htot⟩ : ∃ t, t = p.allIns.foldl wStep (List.replicate p.arrs.length false, false) := ⟨_, rfl⟩
  have hwr : p.writes = total.1.map (· || total.2) := by rw [htot]; rfl
  refine ⟨fun any i w' c => ∃ (j : Nat) (out : List Bool), i = j ∧ j ≤ nf ∧ c = nf - j ∧ Hp w w' [(bo, Cl 4 (out.map .bool)), (b4, box)] ∧ out.length = na ∧ ((p.funcs.drop j).flatMap Fnc.allIns).foldl wStep (out, any) = total,
    ⟨nf, 0, List.replicate na false, rfl, by omega, by omega, by rw [List.map_replicate]; exact h8, by simp, by rw [htot, harl]; rfl⟩, ?_⟩
  rintro any i w13 c ⟨j, out, rfl, hj, rfl, h13, hol, hf⟩
  refine sp_dec (fun hlt => ?_) (fun hge => ?_)
  · obtain ⟨f, hx⟩ := at_some (l := p.funcs) (j := j) (by omega)
    obtain ⟨bb, ob, vs, ha, hrow, hvl, ab, nb, cb, rfl, hbs⟩ := hfun.at_ _ _ hx
    have hbl := hbs.len
    have hble := hbs.le
    rw [drop_flat Fnc.allIns hx, Fnc.allIns] at hf
    refine ⟨by omega, by omega, ptAt_of ha ⟨_, _, _, _, h13.ext.row hrow, ?_⟩⟩
    refine alp h13 fun b20 w21 h21 => ?_
    refine stp h21 0 rfl (by simp) rfl fun w22 h22 => ⟨_, _, _, h22.cl 0 rfl rfl, ?_⟩
    refine ⟨fun any i w' c => ∃ (q : Nat) (out : List Bool), i = q ∧ q ≤ nb ∧ c = nb - q ∧ Hp w w' [(b20, Cl 29 [.string f.name, .slice ab nb cb]), (bo, Cl 4 (out.map .bool)), (b4, box)] ∧ out.length = na ∧
        ((f.blocks.drop q).flatMap (·.ins) ++ (p.funcs.drop (j + 1)).flatMap Fnc.allIns).foldl wStep (out, any) = total,
      ⟨nb, 0, out, rfl, by omega, by omega, h22, hol, hf⟩, ?_⟩
    clear hf hol h13 h21 h22
    rintro any i w27 c ⟨q, out, rfl, hq, rfl, h27, hol, hf⟩
    refine sp_dec (fun hlt2 => ?_) (fun hge2 => ?_)
    · obtain ⟨b, hy⟩ := at_some (l := f.blocks) (j := q) (by omega)
      rw [drop_flat (·.ins) hy, List.append_assoc] at hf
      obtain ⟨bt, ot, ap, np, cp, ai, ni, ci, ae, ne, ce, hat, hrowt, hp, hi, he⟩ := blkOf hbs hy
      have hil := hi.len
      have hile := hi.le
      refine ⟨by omega, by omega, ptAt_of hat ⟨_, _, _, _, _, _, _, _, _, _, _, _, h27.ext.row hrowt, ?_⟩⟩
      refine alp h27 fun b38 w39 h39 => ?_
      refine stp h39 0 rfl (by simp) rfl fun w40 h40 => ⟨_, _, _, h40.cl 0 rfl rfl, ?_⟩
      generalize hB : (b38, Cl 47 (splice [.slice none 0 0, .slice none 0 0, .int .i64 0, .int .i64 0, .slice none 0 0, .int .i64 0] 0 [.slice ap np cp, .slice ai ni ci, .int .i64 b.fin.kind, .int .i64 b.fin.val, .slice ae ne ce, .int .i64 b.fin.trap])) = B at *
      refine ⟨fun any i w' c => ∃ (s : Nat) (out : List Bool), i = s ∧ s ≤ ni ∧ c = ni - s ∧ Hp w w' [B, (b20, Cl 29 [.string f.name, .slice ab nb cb]), (bo, Cl 4 (out.map .bool)), (b4, box)] ∧ out.length = na ∧
          (b.ins.drop s ++ ((f.blocks.drop (q + 1)).flatMap (·.ins) ++ (p.funcs.drop (j + 1)).flatMap Fnc.allIns)).foldl wStep (out, any) = total,
        ⟨ni, 0, out, rfl, by omega, by omega, h40, hol, hf⟩, ?_⟩
      clear hf hol h27 h39 h40
      rintro any i w45 c ⟨s, out, rfl, hs, rfl, h45, hol, hf⟩
      refine sp_dec (fun hlt3 => ?_) (fun hge3 => ?_)
      · intro K48 hK48
        obtain ⟨x, hz⟩ := at_some (l := b.ins) (j := s) (by omega)
        rw [drop_cons hz, List.cons_append, List.foldl_cons] at hf
        obtain ⟨bi, oi, vs, hai, hrowi, hvli, aa', na', ca', rfl, hargs⟩ := hi.at_ _ _ hz
        refine ⟨by omega, by omega, ptAt_of hai ⟨_, _, _, _, _, _, _, _, _, h45.ext.row hrowi, ?_⟩⟩
        refine alp h45 fun b60 w61 h61 => ?_
        refine stp h61 0 rfl (by simp) rfl fun w62 h62 => ?_
        intro K63 hK63
        have key : ∀ a, a = (any || decide (x.op = 6)) → K63 a w62 := by
          intro a ha
          refine hK63 a _ ?_
          have fin : ∀ w' out', Hp w w' [(b60, Cl 37 [.int .i64 x.op, .int .i64 x.dst, .slice aa' na' ca', .int .i64 x.num, .int .i64 x.bin, .int .i64 x.arr, .int .i64 x.fn]), B, (b20, Cl 29 [.string f.name, .slice ab nb cb]), (bo, Cl 4 (out'.map .bool)), (b4, box)] → out' = (wStep (out, any) x).1 → K48 a w' := by
            intro w' out' h' ho'
            refine hK48 _ _ ⟨ni - (s + 1), by omega, s + 1, out', wrap_succ (by omega), by omega, rfl, h'.drop 1, by rw [ho', wStep_len]; exact hol, ?_⟩
            have : (out', a) = wStep (out, any) x := by rw [ho', ha]; rfl
            rw [this]; exact hf
          refine ⟨_, h62.cl 0 rfl rfl, sp_dec (fun h4 => ⟨_, h62.cl 0 rfl rfl, sp_dec (fun h0 => ⟨_, h62.cl 0 rfl rfl, sp_dec (fun hlt => ⟨_, h62.cl 0 rfl rfl, h0, hlt, ptAt_of rfl ?_⟩) (fun hlt => fin _ out h62 ?_)⟩) (fun h0 => fin _ out h62 ?_)⟩) (fun h4 => fin _ out h62 ?_)⟩
          · refine stp h62 3 rfl (by simp; omega) rfl fun w72 h72 => ?_
            refine fin _ (out.set x.arr.toNat true) ?_ ?_
            · rw [setB true (by omega)] at h72; exact h72
            · simp only [wStep]; rw [if_pos ⟨h4, h0, by rw [hol]; exact hlt⟩]
          · simp only [wStep]; rw [if_neg (by rintro ⟨-, -, h⟩; rw [hol] at h; exact hlt h)]
          · simp only [wStep]; rw [if_neg (by rintro ⟨-, h, -⟩; exact h0 h)]
          · simp only [wStep]; rw [if_neg (by rintro ⟨h, -, -⟩; exact h4 h)]
        refine sp_of (fun ht => key _ (by rw [ht]; rfl)) (fun ht => ⟨_, h62.cl 0 rfl rfl, key _ (by rw [ht]; rfl)⟩)
      · rw [List.drop_of_length_le (by omega), List.nil_append] at hf
        exact ⟨nb - (q + 1), by omega, q + 1, out, wrap_succ (by omega), by omega, rfl, h45.drop 1, hol, hf⟩
    · rw [List.drop_of_length_le (by omega), List.flatMap_nil, List.nil_append] at hf
      exact ⟨nf - (j + 1), by omega, j + 1, out, wrap_succ (by omega), by omega, rfl, h27.drop 1, hol, hf⟩
  · have hjn : p.funcs.drop j = [] := List.drop_of_length_le (by omega)
    rw [hjn, List.flatMap_nil, List.foldl_nil] at hf
    refine ⟨fun i w' c => ∃ (k : Nat), i = k ∧ k ≤ na ∧ c = na - k ∧ Hp w w' [(bo, Cl 4 (((out.take k).map (· || any) ++ out.drop k).map .bool)), (b4, box)], ⟨na, 0, rfl, by omega, by omega, by simpa using h13⟩, ?_⟩
    rintro i w76 c ⟨k, rfl, hk, rfl, h76⟩
    refine sp_dec (fun hlt => ?_) (fun hge => ?_)
    · intro K hK
      obtain ⟨x, hx⟩ := at_some (l := out) (j := k) (by omega)
      have hlen : ((out.take k).map (· || any) ++ out.drop k).length = na := by simp; omega
      have hget : ((out.take k).map (· || any) ++ out.drop k)[k]? = some x := by
        rw [List.getElem?_append_right (by simp; omega)]
        simp only [List.length_map, List.length_take, Nat.min_eq_left (show k ≤ out.length by omega), Nat.sub_self]
        rw [drop_cons hx]; rfl
      have hnew : ((out.take k).map (· || any) ++ out.drop k).set k (x || any) = (out.take (k + 1)).map (· || any) ++ out.drop (k + 1) := by
        rw [List.set_append_right _ _ (by simp; omega)]
        simp only [List.length_map, List.length_take, Nat.min_eq_left (show k ≤ out.length by omega), Nat.sub_self]
        rw [drop_cons hx, List.set_cons_zero, List.take_add_one, hx]
        simp
      have fin : ∀ w', Hp w w' [(bo, Cl 4 ((((out.take k).map (· || any) ++ out.drop k).set k (x || any)).map .bool)), (b4, box)] → K w' := by
        intro w' h'
        rw [hnew] at h'
        exact hK _ ⟨na - (k + 1), by omega, k + 1, wrap_succ (by simp only [maxLen]; omega), by omega, rfl, h'⟩
      refine ⟨by omega, by omega, ptAt_of rfl ⟨x, h76.cl 0 rfl (by simp only [Nat.zero_add, Nat.mul_one, Int.toNat_natCast]; rw [List.getElem?_map, hget]; rfl), sp_of (fun hxt => ⟨by omega, by omega, ptAt_of rfl ?_⟩) (fun hxt => ⟨by omega, by omega, ptAt_of rfl ?_⟩)⟩⟩
      · refine stp h76 0 rfl (by simp; omega) rfl fun w86 h86 => fin _ ?_
        have := setB (xs := (out.take k).map (· || any) ++ out.drop k) (i := k) true (by omega)
        simp only [Int.toNat_natCast] at h86
        rw [this] at h86
        rw [hxt, Bool.true_or]; exact h86
      · refine stp h76 0 rfl (by simp; omega) rfl fun w86 h86 => fin _ ?_
        have := setB (xs := (out.take k).map (· || any) ++ out.drop k) (i := k) any (by omega)
        simp only [Int.toNat_natCast] at h86
        rw [this] at h86
        rw [hxt, Bool.false_or]; exact h86
    · have hkn : k = na := by omega
      rw [List.take_of_length_le (by omega), List.drop_of_length_le (by omega), List.append_nil] at h76
      refine ⟨bo, by rw [harl], ?_⟩
      rw [hwr, ← hf]
      exact h76.sub (by simp)
end Go.Pl.Try
