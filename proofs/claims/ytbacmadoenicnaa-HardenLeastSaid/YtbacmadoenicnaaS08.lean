/- Joined texts of the proof, part 8: F9, WFew, Model22, Model23, Mem6, F16, WReach, F31, F57, WSsa3. -/
import Derived.Test.YtbacmadoenicnaaS07
import Derived.DeepKeys3
import Derived.WideKeyMaps
set_option maxRecDepth 2000
set_option linter.unusedVariables false
set_option linter.unusedSimpArgs false
set_option linter.unusedSectionVars false
/- What 'palings/palingslaw07.Few' does, read off its translation by gen.py. -/
namespace Go.Pl.Try
set_option linter.unusedVariables false
set_option maxRecDepth 100000
def F9 (ax1 : Option Addr) (nx1 cx1 : Nat) (ax2 : Option Addr) (nx2 cx2 : Nat) (x3 : Int) (w : World) (R : Value → World → Prop) : Prop :=
  AlP 32 [.slice ax1 nx1 cx1, .slice ax2 nx2 cx2, .int .i64 x3] w fun b4 w5 =>
  ∀ K6 : World → Prop, (∀ w7, (
  ∃ (ax8 : Option Addr) (nx8 cx8 : Nat), cel w7 b4 1 = some (.slice ax8 nx8 cx8) ∧
  ∃ J9 : Int → World → Nat → Prop, (∃ m12, J9 0 w7 m12) ∧
  ∀ (x10 : Int), ∀ w11 m12, J9 x10 w11 m12 →
  sp (decide ((x10 : Int) < (nx8 : Nat)))
  (0 ≤ (x10 : Int) ∧ (x10 : Int) < (nx8 : Nat) ∧
  ptAt ax8 fun b14 o15 =>
  ∃ (x16 : ByteArray) (ax17 : Option Addr) (nx17 cx17 : Nat), Row w11 b14 (o15 + x10.toNat * 2) [.string x16, .slice ax17 nx17 cx17] ∧
  AlP 29 [.string ⟨#[]⟩, .slice none 0 0] w11 fun b18 w19 =>
  StP b18 0 [.string x16, .slice ax17 nx17 cx17] w19 fun w20 =>
  ∀ K21 : World → Prop, (∀ w22, (
  ∃ (ax23 : Option Addr) (nx23 cx23 : Nat), cel w22 b18 1 = some (.slice ax23 nx23 cx23) ∧
  ∃ J24 : Int → World → Nat → Prop, (∃ m27, J24 0 w22 m27) ∧
  ∀ (x25 : Int), ∀ w26 m27, J24 x25 w26 m27 →
  sp (decide ((x25 : Int) < (nx23 : Nat)))
  (0 ≤ (x25 : Int) ∧ (x25 : Int) < (nx23 : Nat) ∧
  ptAt ax23 fun b29 o30 =>
  ∃ (ax31 : Option Addr) (nx31 cx31 : Nat) (ax32 : Option Addr) (nx32 cx32 : Nat) (x33 : Int) (x34 : Int) (ax35 : Option Addr) (nx35 cx35 : Nat) (x36 : Int), Row w26 b29 (o30 + x25.toNat * 6) [.slice ax31 nx31 cx31, .slice ax32 nx32 cx32, .int .i64 x33, .int .i64 x34, .slice ax35 nx35 cx35, .int .i64 x36] ∧
  AlP 47 [.slice none 0 0, .slice none 0 0, .int .i64 0, .int .i64 0, .slice none 0 0, .int .i64 0] w26 fun b37 w38 =>
  StP b37 0 [.slice ax31 nx31 cx31, .slice ax32 nx32 cx32, .int .i64 x33, .int .i64 x34, .slice ax35 nx35 cx35, .int .i64 x36] w38 fun w39 =>
  ∀ K40 : World → Prop, (∀ w41, (
  ∃ (ax42 : Option Addr) (nx42 cx42 : Nat), cel w41 b37 1 = some (.slice ax42 nx42 cx42) ∧
  ∃ J43 : Int → World → Nat → Prop, (∃ m46, J43 0 w41 m46) ∧
  ∀ (x44 : Int), ∀ w45 m46, J43 x44 w45 m46 →
  sp (decide ((x44 : Int) < (nx42 : Nat)))
  (0 ≤ (x44 : Int) ∧ (x44 : Int) < (nx42 : Nat) ∧
  ptAt ax42 fun b48 o49 =>
  ∃ (x50 : Int) (x51 : Int) (ax52 : Option Addr) (nx52 cx52 : Nat) (x53 : Int) (x54 : Int) (x55 : Int) (x56 : Int), Row w45 b48 (o49 + x44.toNat * 7) [.int .i64 x50, .int .i64 x51, .slice ax52 nx52 cx52, .int .i64 x53, .int .i64 x54, .int .i64 x55, .int .i64 x56] ∧
  AlP 37 [.int .i64 0, .int .i64 0, .slice none 0 0, .int .i64 0, .int .i64 0, .int .i64 0, .int .i64 0] w45 fun b57 w58 =>
  StP b57 0 [.int .i64 x50, .int .i64 x51, .slice ax52 nx52 cx52, .int .i64 x53, .int .i64 x54, .int .i64 x55, .int .i64 x56] w58 fun w59 =>
  ∃ (ax60 : Option Addr) (nx60 cx60 : Nat), cel w59 b57 2 = some (.slice ax60 nx60 cx60) ∧
  sp (decide ((20 : Int) < (nx60 : Nat)))
  (R (.bool false) w59)
  (∃ m47, m47 < m46 ∧ J43 (IntKind.wrap .i64 (x44 + 1)) w59 m47))
  (∃ (ax61 : Option Addr) (nx61 cx61 : Nat), cel w45 b37 4 = some (.slice ax61 nx61 cx61) ∧
  ∃ J62 : Int → World → Nat → Prop, (∃ m65, J62 0 w45 m65) ∧
  ∀ (x63 : Int), ∀ w64 m65, J62 x63 w64 m65 →
  sp (decide ((x63 : Int) < (nx61 : Nat)))
  (0 ≤ (x63 : Int) ∧ (x63 : Int) < (nx61 : Nat) ∧
  ptAt ax61 fun b67 o68 =>
  ∃ (x69 : Int) (ax70 : Option Addr) (nx70 cx70 : Nat), Row w64 b67 (o68 + x63.toNat * 2) [.int .i64 x69, .slice ax70 nx70 cx70] ∧
  AlP 41 [.int .i64 0, .slice none 0 0] w64 fun b71 w72 =>
  StP b71 0 [.int .i64 x69, .slice ax70 nx70 cx70] w72 fun w73 =>
  ∃ (ax74 : Option Addr) (nx74 cx74 : Nat), cel w73 b71 1 = some (.slice ax74 nx74 cx74) ∧
  sp (decide ((20 : Int) < (nx74 : Nat)))
  (R (.bool false) w73)
  (∃ m66, m66 < m65 ∧ J62 (IntKind.wrap .i64 (x63 + 1)) w73 m66))
  (∃ m28, m28 < m27 ∧ J24 (IntKind.wrap .i64 (x25 + 1)) w64 m28))) → K40 w41) →
  ∀ K75 : World → Prop, (∀ w76, (
  R (.bool false) w76) → K75 w76) →
  ∃ (ax77 : Option Addr) (nx77 cx77 : Nat), cel w39 b37 0 = some (.slice ax77 nx77 cx77) ∧
  sp (decide ((20 : Int) < (nx77 : Nat)))
  (K75 w39)
  (∃ (ax78 : Option Addr) (nx78 cx78 : Nat), cel w39 b37 1 = some (.slice ax78 nx78 cx78) ∧
  sp (decide ((40 : Int) < (nx78 : Nat)))
  (K75 w39)
  (∃ (ax79 : Option Addr) (nx79 cx79 : Nat), cel w39 b37 4 = some (.slice ax79 nx79 cx79) ∧
  sp (decide ((5 : Int) < (nx79 : Nat)))
  (K75 w39)
  (K40 w39))))
  (∃ m13, m13 < m12 ∧ J9 (IntKind.wrap .i64 (x10 + 1)) w26 m13)) → K21 w22) →
  ∀ K80 : World → Prop, (∀ w81, (
  R (.bool false) w81) → K80 w81) →
  ∃ (ax82 : Option Addr) (nx82 cx82 : Nat), cel w20 b18 1 = some (.slice ax82 nx82 cx82) ∧
  sp (decide ((30 : Int) < (nx82 : Nat)))
  (K80 w20)
  (∃ (x83 : ByteArray), cel w20 b18 0 = some (.string x83) ∧
  sp (decide ((40 : Int) < (x83.size : Nat)))
  (K80 w20)
  (K21 w20)))
  (R (.bool true) w11)) → K6 w7) →
  ∀ K84 : World → Prop, (∀ w85, (
  R (.bool false) w85) → K84 w85) →
  ∃ (ax86 : Option Addr) (nx86 cx86 : Nat), cel w5 b4 0 = some (.slice ax86 nx86 cx86) ∧
  sp (decide ((10 : Int) < (nx86 : Nat)))
  (K84 w5)
  (∃ (ax87 : Option Addr) (nx87 cx87 : Nat), cel w5 b4 1 = some (.slice ax87 nx87 cx87) ∧
  sp (decide ((5 : Int) < (nx87 : Nat)))
  (K84 w5)
  (K6 w5))
def T9 : List Sh := [.v (.agg [.sl, .sl, (.int .i64)]), .v (.one .ptr), .v (.one .bool), .v (.one .any), .v (.one .ptr), .v (.one .any), .v (.one .ptr), .v (.one .any), .v (.one .ptr), .v (.one .any), .v (.one .ptr), .v (.one .ptr), .v (.one .sl), .v (.one (.int .i64)), .v (.one .bool), .v (.one .bool), .v (.one .ptr), .v (.one .sl), .v (.one (.int .i64)), .v (.one .bool), .v (.one .bool), .v (.one .ptr), .v (.one .sl), .v (.one (.int .i64)), .v (.one (.int .i64)), .v (.one .bool), .v (.one .ptr), .v (.agg [.str, .sl]), .v (.one .ptr), .v (.one .sl), .v (.one (.int .i64)), .v (.one .bool), .v (.one .bool), .v (.one .ptr), .v (.one .str), .v (.one (.int .i64)), .v (.one .bool), .v (.one .bool), .v (.one .ptr), .v (.one .sl), .v (.one (.int .i64)), .v (.one (.int .i64)), .v (.one .bool), .v (.one .ptr), .v (.agg [.sl, .sl, (.int .i64), (.int .i64), .sl, (.int .i64)]), .v (.one .ptr), .v (.one .sl), .v (.one (.int .i64)), .v (.one .bool), .v (.one .bool), .v (.one .ptr), .v (.one .sl), .v (.one (.int .i64)), .v (.one .bool), .v (.one .bool), .v (.one .bool), .v (.one .ptr), .v (.one .ptr), .v (.one .sl), .v (.one (.int .i64)), .v (.one .bool), .v (.one .bool), .v (.one .ptr), .v (.one .sl), .v (.one (.int .i64)), .v (.one (.int .i64)), .v (.one .bool), .v (.one .ptr), .v (.agg [(.int .i64), (.int .i64), .sl, (.int .i64), (.int .i64), (.int .i64), (.int .i64)]), .v (.one .ptr), .v (.one .sl), .v (.one (.int .i64)), .v (.one .bool), .v (.one (.int .i64)), .v (.one .ptr), .v (.one .ptr), .v (.one .sl), .v (.one (.int .i64)), .v (.one (.int .i64)), .v (.one .bool), .v (.one .ptr), .v (.agg [(.int .i64), .sl]), .v (.one .ptr), .v (.one .sl), .v (.one (.int .i64)), .v (.one .bool), .v (.one (.int .i64)), .v (.one (.int .i64)), .v (.one (.int .i64))]
def A9 : Ann := (.seq none .z (.seq (some []) (.ifs (some []) none (.seq none .z .z) .z) (.seq none (.seq none .z (.block none (.loop [24] (.seq none .z (.seq none (.cond .z .z) (.seq none (.block none (.seq none .z (.seq (some []) (.ifs (some []) none (.seq none .z .z) .z) (.seq none .z (.block none (.loop [41] (.seq none .z (.seq none (.cond .z .z) (.seq none (.block none (.seq none .z (.seq (some []) (.ifs (some []) none (.seq none .z .z) .z) (.seq none (.seq none .z (.block none (.loop [65] (.seq none .z (.seq none (.cond .z .z) (.seq none (.block none (.seq none .z (.seq none .z (.cond (.seq none .z .z) .z)))) .z)))))) (.seq none .z (.block none (.loop [78] (.seq none .z (.seq none (.cond .z .z) (.seq none (.block none (.seq none .z (.seq none .z (.cond (.seq none .z .z) .z)))) .z)))))))))) .z))))))))) .z)))))) (.seq none .z .z))))
theorem F9_eq (ax1 : Option Addr) (nx1 cx1 : Nat) (ax2 : Option Addr) (nx2 cx2 : Nat) (x3 : Int) (w : World) (R : Value → World → Prop) : F9 ax1 nx1 cx1 ax2 nx2 cx2 x3 w R = denF Go.Proofs.Try.prog T9 Go.Proofs.Try.f9 A9 [.agg ⟨[.slice ax1 nx1 cx1, .slice ax2 nx2 cx2, .int .i64 x3]⟩] w R := by kernel_rfl
theorem F9_ok (ax1 : Option Addr) (nx1 cx1 : Nat) (ax2 : Option Addr) (nx2 cx2 : Nat) (x3 : Int) {w : World} {R : Value → World → Prop} (h : F9 ax1 nx1 cx1 ax2 nx2 cx2 x3 w R) : CallP Go.Proofs.Try.prog 9 [.agg ⟨[.slice ax1 nx1 cx1, .slice ax2 nx2 cx2, .int .i64 x3]⟩] w R :=
  calls_den (fun _ => drawn (by kernel_rfl)) Go.Proofs.Try.func9 (Nat.le_of_ble_eq_true (by kernel_rfl)) ((F9_eq ax1 nx1 cx1 ax2 nx2 cx2 x3 w R).mp h)
end Go.Pl.Try

/- A program of few parts: what is asked, and 'Few', walked. -/
namespace Go.Pl.M
structure Blk.Few (b : Blk) : Prop where
  params : b.params.length ≤ 20
  ins : b.ins.length ≤ 40
  ways : b.fin.ways.length ≤ 5
  iargs : ∀ i ∈ b.ins, i.args.length ≤ 20
  wargs : ∀ x ∈ b.fin.ways, x.args.length ≤ 20
structure Fnc.Few (f : Fnc) : Prop where
  blocks : f.blocks.length ≤ 30
  each : ∀ b ∈ f.blocks, b.Few
structure Prg.Few (p : Prg) : Prop where
  arrs : p.arrs.length ≤ 10
  funcs : p.funcs.length ≤ 5
  each : ∀ f ∈ p.funcs, f.Few
theorem Prg.Few.lim {p : Prg} (h : p.Few) : p.Lim := by
  refine ⟨?_, ?_, fun f hf => ⟨?_, fun b hb => ⟨?_, ?_, ?_, fun i hi => ?_, fun x hx => ?_⟩⟩⟩ <;> simp only [M.lim]
  · have := h.arrs; omega
  · have := h.funcs; omega
  · have := (h.each f hf).blocks; omega
  · have := ((h.each f hf).each b hb).params; omega
  · have := ((h.each f hf).each b hb).ins; omega
  · have := ((h.each f hf).each b hb).ways; omega
  · have := ((h.each f hf).each b hb).iargs i hi; omega
  · have := ((h.each f hf).each b hb).wargs x hx; omega
end Go.Pl.M
namespace Go.Pl.Try
open M
set_option linter.unusedVariables false
theorem take_mem {α : Type} {l : List α} {j : Nat} {x y : α} (h : l[j]? = some x) (hy : y ∈ l.take (j + 1)) : y ∈ l.take j ∨ y = x := by
  rw [List.take_add_one, h] at hy
  simpa using hy
theorem take_all {α : Type} {l : List α} {j : Nat} {Q : α → Prop} (h : ∀ y ∈ l.take j, Q y) (hj : l.length ≤ j) : ∀ y ∈ l, Q y := by
  rw [List.take_of_length_le hj] at h
  exact h
theorem few_w {w : World} {p : Prg} {vs : List Value} (h : RProg w vs p) :
    CallP Pg 9 [.agg ⟨vs⟩] w fun v w' => ∃ q, v = .bool q ∧ Ext w w' ∧ (q = true → p.Few) := by
  obtain ⟨aa, na, ca, af, nf, cf, rfl, harr, hfun⟩ := h
  have harl := harr.len
  have hfl := hfun.len
  have hfle := hfun.le
  refine F9_ok _ _ _ _ _ _ _ ?_
  unfold F9
  refine alp (Hp.refl w) fun b4 w5 h5 => ?_
  have no : ∀ w' : World, Ext w w' → ∃ q, Value.bool false = .bool q ∧ Ext w w' ∧ (q = true → p.Few) := fun w' hx => ⟨false, rfl, hx, fun e => by cases e⟩
  intro K6 hK6 K84 hK84
  refine ⟨_, _, _, h5.cl 0 rfl rfl, sp_dec (fun _ => hK84 _ (no _ h5.ext)) (fun hna => ⟨_, _, _, h5.cl 0 rfl rfl, sp_dec (fun _ => hK84 _ (no _ h5.ext)) (fun hnf => hK6 _ ⟨_, _, _, h5.cl 0 rfl rfl, ?_⟩)⟩)⟩
  refine ⟨fun i w' c => ∃ (j : Nat), i = j ∧ j ≤ nf ∧ c = nf - j ∧ Ext w w' ∧ ∀ f ∈ p.funcs.take j, f.Few, ⟨nf, 0, rfl, by omega, by omega, h5.ext, by simp⟩, ?_⟩
  rintro i w11 c ⟨j, rfl, hj, rfl, hx11, hfew⟩
  refine sp_dec (fun hlt => ?_) (fun hge => ⟨true, rfl, hx11, fun _ => ⟨by omega, by omega, take_all hfew (by omega)⟩⟩)
  obtain ⟨f, hf⟩ := at_some (l := p.funcs) (j := j) (by omega)
  obtain ⟨bb, ob, vs, ha, hrow, hvl, ab, nb, cb, rfl, hbs⟩ := hfun.at_ _ _ hf
  have hbl := hbs.len
  have hble := hbs.le
  refine ⟨by omega, by omega, ptAt_of ha ⟨_, _, _, _, hx11.row hrow, ?_⟩⟩
  refine alp (Hp.refl w11) fun b18 w19 h19 => ?_
  refine stp h19 0 rfl (by simp) rfl fun w20 h20 => ?_
  have hx20 := hx11.trans h20.ext
  intro K21 hK21 K80 hK80
  refine ⟨_, _, _, h20.cl 0 rfl rfl, sp_dec (fun _ => hK80 _ (no _ hx20)) (fun hnb => ⟨_, h20.cl 0 rfl rfl, sp_dec (fun _ => hK80 _ (no _ hx20)) (fun hnm => hK21 _ ⟨_, _, _, h20.cl 0 rfl rfl, ?_⟩)⟩)⟩
  refine ⟨fun i w' c => ∃ (q : Nat), i = q ∧ q ≤ nb ∧ c = nb - q ∧ Ext w w' ∧ ∀ b ∈ f.blocks.take q, b.Few, ⟨nb, 0, rfl, by omega, by omega, hx20, by simp⟩, ?_⟩
  rintro i w26 c ⟨q, rfl, hq, rfl, hx26, hbfew⟩
  refine sp_dec (fun hlt2 => ?_) (fun hge2 => ?_)
  · obtain ⟨b, hb⟩ := at_some (l := f.blocks) (j := q) (by omega)
    obtain ⟨bt, ot, ap, np, cp, ai, ni, ci, ae, ne, ce, hat, hrowt, hp, hi, he⟩ := blkOf hbs hb
    have hpl := hp.len
    have hil := hi.len
    have hel := he.len
    have hile := hi.le
    have hele := he.le
    refine ⟨by omega, by omega, ptAt_of hat ⟨_, _, _, _, _, _, _, _, _, _, _, _, hx26.row hrowt, ?_⟩⟩
    refine alp (Hp.refl w26) fun b37 w38 h38 => ?_
    refine stp h38 0 rfl (by simp) rfl fun w39 h39 => ?_
    have hx39 := hx26.trans h39.ext
    intro K40 hK40 K75 hK75
    refine ⟨_, _, _, h39.cl 0 rfl rfl, sp_dec (fun _ => hK75 _ (no _ hx39)) (fun hnp => ⟨_, _, _, h39.cl 0 rfl rfl, sp_dec (fun _ => hK75 _ (no _ hx39)) (fun hni => ⟨_, _, _, h39.cl 0 rfl rfl, sp_dec (fun _ => hK75 _ (no _ hx39)) (fun hne => hK40 _ ⟨_, _, _, h39.cl 0 rfl rfl, ?_⟩)⟩)⟩)⟩
    refine ⟨fun i w' c => ∃ (s : Nat), i = s ∧ s ≤ ni ∧ c = ni - s ∧ Hp w26 w' [_] ∧ ∀ x ∈ b.ins.take s, x.args.length ≤ 20, ⟨ni, 0, rfl, by omega, by omega, h39, by simp⟩, ?_⟩
    rintro i w45 c ⟨s, rfl, hs, rfl, h45, hifew⟩
    refine sp_dec (fun hlt3 => ?_) (fun hge3 => ?_)
    · obtain ⟨x, hz⟩ := at_some (l := b.ins) (j := s) (by omega)
      obtain ⟨bi, oi, vs, hai, hrowi, hvli, aa', na', ca', rfl, hargs⟩ := hi.at_ _ _ hz
      have hal := hargs.len
      refine ⟨by omega, by omega, ptAt_of hai ⟨_, _, _, _, _, _, _, _, _, (hx26.trans h45.ext).row hrowi, ?_⟩⟩
      refine alp h45 fun b57 w58 h58 => ?_
      refine stp h58 0 rfl (by simp) rfl fun w59 h59 => ?_
      refine ⟨_, _, _, h59.cl 0 rfl rfl, sp_dec (fun _ => no _ (hx26.trans h59.ext)) (fun hna' => ?_)⟩
      refine ⟨ni - (s + 1), by omega, s + 1, wrap_succ (by omega), by omega, rfl, h59.drop 1, fun y hy => ?_⟩
      rcases take_mem hz hy with h | rfl
      · exact hifew y h
      · omega
    · refine ⟨_, _, _, h45.cl 0 rfl rfl, ?_⟩
      refine ⟨fun i w' c => ∃ (s : Nat), i = s ∧ s ≤ ne ∧ c = ne - s ∧ Hp w26 w' [] ∧ ∀ x ∈ b.fin.ways.take s, x.args.length ≤ 20, ⟨ne, 0, rfl, by omega, by omega, h45.drop 1, by simp⟩, ?_⟩
      rintro i w64 c ⟨s2, rfl, hs2, rfl, h64, hwfew⟩
      refine sp_dec (fun hlt4 => ?_) (fun hge4 => ?_)
      · obtain ⟨x, hz⟩ := at_some (l := b.fin.ways) (j := s2) (by omega)
        obtain ⟨bi, oi, vs, hai, hrowi, hvli, aa', na', ca', rfl, hargs⟩ := he.at_ _ _ hz
        have hal := hargs.len
        refine ⟨by omega, by omega, ptAt_of hai ⟨_, _, _, _, (hx26.trans h64.ext).row hrowi, ?_⟩⟩
        refine alp h64 fun b71 w72 h72 => ?_
        refine stp h72 0 rfl (by simp) rfl fun w73 h73 => ?_
        refine ⟨_, _, _, h73.cl 0 rfl rfl, sp_dec (fun _ => no _ (hx26.trans h73.ext)) (fun hna' => ?_)⟩
        refine ⟨ne - (s2 + 1), by omega, s2 + 1, wrap_succ (by omega), by omega, rfl, h73.drop 1, fun y hy => ?_⟩
        rcases take_mem hz hy with h | rfl
        · exact hwfew y h
        · omega
      · refine ⟨nb - (q + 1), by omega, q + 1, wrap_succ (by omega), by omega, rfl, hx26.trans h64.ext, fun y hy => ?_⟩
        rcases take_mem hb hy with h | rfl
        · exact hbfew y h
        · exact ⟨by omega, by omega, by omega, take_all hifew (by omega), take_all hwfew (by omega)⟩
  · refine ⟨nf - (j + 1), by omega, j + 1, wrap_succ (by omega), by omega, rfl, hx26, fun y hy => ?_⟩
    rcases take_mem hf hy with h | rfl
    · exact hfew y h
    · exact ⟨by omega, take_all hbfew (by omega)⟩
end Go.Pl.Try

/- The nets of a program of few parts fit. -/
namespace Go.Pl.M
set_option linter.unusedVariables false
theorem weigh_in (d : Nat) : 1 ≤ weigh d ∧ weigh d ≤ 10000 := by
  unfold weigh
  have : min d 4 = 0 ∨ min d 4 = 1 ∨ min d 4 = 2 ∨ min d 4 = 3 ∨ min d 4 = 4 := by omega
  rcases this with e | e | e | e | e <;> rw [e] <;> decide
theorem hzVals_w (lab : Int → Int) {wt : Int} (h1 : 1 ≤ wt ∧ wt ≤ 10000) : ∀ (l : List Int) (z : Hz), (∀ x ∈ z.weights, 1 ≤ x ∧ x ≤ 10000) → ∀ x ∈ (hzVals lab wt l z).weights, 1 ≤ x ∧ x ≤ 10000
  | [], z, h => h
  | v :: vs, z, h => by
    rw [hzVals]
    refine hzVals_w lab h1 vs _ ?_
    unfold Hz.value
    split
    · intro x hx
      rcases List.mem_append.1 hx with hx | hx
      · exact h x hx
      · rw [List.mem_singleton.1 hx]; exact h1
    · exact h
theorem hzBlks_w (lab : Int → Int) (D : List Nat) (R : List Bool) : ∀ (bs : List Blk) (n : Nat) (z : Hz), (∀ x ∈ z.weights, 1 ≤ x ∧ x ≤ 10000) → ∀ x ∈ (hzBlks lab D R n bs z).weights, 1 ≤ x ∧ x ≤ 10000
  | [], n, z, h => h
  | b :: bs, n, z, h => by
    rw [hzBlks]
    refine hzBlks_w lab D R bs _ _ ?_
    split
    · exact hzVals_w lab (weigh_in _) _ _ h
    · exact h
theorem hzVals_l (lab : Int → Int) (wt : Int) : ∀ (l : List Int) (z : Hz), (hzVals lab wt l z).vals.length ≤ z.vals.length + l.length
  | [], z => by simp [hzVals]
  | v :: vs, z => by
    rw [hzVals]
    have := hzVals_l lab wt vs (z.value lab wt v)
    have h2 : (z.value lab wt v).vals.length ≤ z.vals.length + 1 := by unfold Hz.value; split <;> simp
    simp only [List.length_cons]; omega
theorem hzBlks_l (lab : Int → Int) (D : List Nat) (R : List Bool) {m : Nat} : ∀ (bs : List Blk) (n : Nat) (z : Hz), (∀ b ∈ bs, b.made.length ≤ m) → (hzBlks lab D R n bs z).vals.length ≤ z.vals.length + m * bs.length
  | [], n, z, h => by simp [hzBlks]
  | b :: bs, n, z, h => by
    rw [hzBlks]
    have h1 := hzBlks_l lab D R bs (n + 1) (if R.getD n false = true then hzVals lab (weigh (D.getD n 0)) b.made z else z) fun x hx => h x (by simp [hx])
    have h2 := h b (by simp)
    have h3 : (if R.getD n false = true then hzVals lab (weigh (D.getD n 0)) b.made z else z).vals.length ≤ z.vals.length + m := by
      split
      · have := hzVals_l lab (weigh (D.getD n 0)) b.made z; omega
      · omega
    rw [List.length_cons, Nat.mul_succ]
    omega
/-- Whatever the ways, beginnings, ends name has its place. -/
structure Hz.Named (z : Hz) : Prop where
  y : ∀ x ∈ z.ways, (∃ a, z.at_ a = some x.1) ∧ ∃ b, z.at_ b = some x.2
  f : ∀ x ∈ z.frm, ∃ a, z.at_ a = some x
  t : ∀ x ∈ z.to, ∃ a, z.at_ a = some x
theorem way_named {z : Hz} (h : z.Named) (a b : Int) : (z.way a b).Named := by
  unfold Hz.way
  split
  · rename_i x y hx hy
    refine ⟨fun q hq => ?_, h.f, h.t⟩
    rcases List.mem_append.1 hq with hq | hq
    · exact h.y q hq
    · rw [List.mem_singleton.1 hq]; exact ⟨⟨a, hx⟩, b, hy⟩
  · exact h
theorem hzArgs_named (d : Int) : ∀ (l : List Int) (z : Hz), z.Named → (hzArgs d l z).Named
  | [], z, h => h
  | v :: vs, z, h => hzArgs_named d vs _ (way_named h v d)
theorem fromIns_named (writes : List Bool) (i : Ins) {z : Hz} (h : z.Named) : (z.fromIns writes i).Named := by
  unfold Hz.fromIns
  split
  · rename_i n hn
    split
    · refine ⟨h.y, fun q hq => ?_, h.t⟩
      rcases List.mem_append.1 hq with hq | hq
      · exact h.f q hq
      · rw [List.mem_singleton.1 hq]; exact ⟨_, hn⟩
    · exact h
  · exact h
theorem hzIns_named (writes : List Bool) : ∀ (l : List Ins) (z : Hz), z.Named → (hzIns writes l z).Named
  | [], z, h => h
  | i :: is, z, h => hzIns_named writes is _ (fromIns_named writes i (hzArgs_named _ _ _ h))
theorem hzEdge_named : ∀ (ps l : List Int) (z : Hz), z.Named → (hzEdge ps l z).Named
  | [], _, z, h => h
  | p :: ps, [], z, h => h
  | p :: ps, a :: l, z, h => hzEdge_named ps l _ (way_named h a p)
theorem hzEdges_named (bs : List Blk) : ∀ (ws : List Edg) (z : Hz), z.Named → (hzEdges bs ws z).Named
  | [], z, h => h
  | w :: ws, z, h => hzEdges_named bs ws _ (hzEdge_named _ _ _ h)
theorem hzWays_named (writes : List Bool) (bs : List Blk) : ∀ (l : List Blk) (z : Hz), z.Named → (hzWays writes bs l z).Named
  | [], z, h => h
  | b :: l, z, h => hzWays_named writes bs l _ (hzEdges_named _ _ _ (hzIns_named _ _ _ h))
theorem hzSinks_named (fn : Int) : ∀ (l : List Snk) (z : Hz), z.Named → (hzSinks fn l z).Named
  | [], z, h => h
  | s :: l, z, h => by
    refine hzSinks_named fn l _ ?_
    unfold Hz.sink
    split
    · rename_i n hn
      split
      · refine ⟨h.y, h.f, fun q hq => ?_⟩
        rcases List.mem_append.1 hq with hq | hq
        · exact h.t q hq
        · rw [List.mem_singleton.1 hq]; exact ⟨_, hn⟩
      · exact h
    · exact h
/-! ### how many -/
theorem way_l (z : Hz) (a b : Int) : (z.way a b).ways.length ≤ z.ways.length + 1 := by unfold Hz.way; split <;> simp
theorem hzArgs_l (d : Int) : ∀ (l : List Int) (z : Hz), (hzArgs d l z).ways.length ≤ z.ways.length + l.length
  | [], z => by simp [hzArgs]
  | v :: vs, z => by
    rw [hzArgs]
    have := hzArgs_l d vs (z.way v d)
    have := way_l z v d
    simp only [List.length_cons]; omega
theorem hzIns_l (writes : List Bool) {m : Nat} : ∀ (l : List Ins) (z : Hz), (∀ i ∈ l, i.args.length ≤ m) → (hzIns writes l z).ways.length ≤ z.ways.length + m * l.length ∧ (hzIns writes l z).frm.length ≤ z.frm.length + l.length
  | [], z, h => by simp [hzIns]
  | i :: is, z, h => by
    rw [hzIns]
    have h1 := hzIns_l writes is ((hzArgs i.dst i.args z).fromIns writes i) fun x hx => h x (by simp [hx])
    have h2 := h i (by simp)
    have h3 := hzArgs_l i.dst i.args z
    have h4 := hzArgs_frm i.dst i.args z
    have h5 : ((hzArgs i.dst i.args z).fromIns writes i).ways.length = (hzArgs i.dst i.args z).ways.length := by rw [Hz.fromIns_ways]
    have h6 : ((hzArgs i.dst i.args z).fromIns writes i).frm.length ≤ (hzArgs i.dst i.args z).frm.length + 1 := by
      unfold Hz.fromIns
      split
      · split <;> simp
      · omega
    rw [h4] at h6
    rw [List.length_cons, Nat.mul_succ]
    omega
theorem hzEdge_l : ∀ (ps l : List Int) (z : Hz), (hzEdge ps l z).ways.length ≤ z.ways.length + l.length
  | [], _, z => by simp [hzEdge]
  | p :: ps, [], z => by simp [hzEdge]
  | p :: ps, a :: l, z => by
    rw [hzEdge]
    have := hzEdge_l ps l (z.way a p)
    have := way_l z a p
    simp only [List.length_cons]; omega
theorem hzEdges_l (bs : List Blk) {m : Nat} : ∀ (ws : List Edg) (z : Hz), (∀ w ∈ ws, w.args.length ≤ m) → (hzEdges bs ws z).ways.length ≤ z.ways.length + m * ws.length
  | [], z, h => by simp [hzEdges]
  | w :: ws, z, h => by
    rw [hzEdges]
    have h2 := h w (by simp)
    refine Nat.le_trans (hzEdges_l bs ws _ (m := m) fun x hx => h x (by simp [hx])) ?_
    refine Nat.le_trans (Nat.add_le_add_right (hzEdge_l _ w.args z) _) ?_
    rw [List.length_cons, Nat.mul_succ]
    omega
theorem hzWays_l (writes : List Bool) (bs : List Blk) : ∀ (l : List Blk) (z : Hz), (∀ b ∈ l, b.Few) → (hzWays writes bs l z).ways.length ≤ z.ways.length + 900 * l.length ∧ (hzWays writes bs l z).frm.length ≤ z.frm.length + 40 * l.length
  | [], z, h => by simp [hzWays]
  | b :: l, z, h => by
    rw [hzWays]
    have hb := h b (by simp)
    have h1 := hzWays_l writes bs l (hzEdges bs b.fin.ways (hzIns writes b.ins z)) fun x hx => h x (by simp [hx])
    have h2 := hzEdges_l bs b.fin.ways (hzIns writes b.ins z) (m := 20) hb.wargs
    have h3 := hzIns_l writes b.ins z (m := 20) hb.iargs
    have h4 := hzEdges_frm bs b.fin.ways (hzIns writes b.ins z)
    have h5 := hb.ins
    have h6 := hb.ways
    rw [h4] at h1
    rw [List.length_cons]
    omega
theorem hzSinks_l (fn : Int) : ∀ (l : List Snk) (z : Hz), (hzSinks fn l z).to.length ≤ z.to.length + l.length
  | [], z => by simp [hzSinks]
  | s :: l, z => by
    rw [hzSinks]
    have h1 := hzSinks_l fn l (z.sink fn s)
    have h2 : (z.sink fn s).to.length ≤ z.to.length + 1 := by
      unfold Hz.sink
      split
      · split <;> simp
      · omega
    simp only [List.length_cons]; omega
theorem way_to (z : Hz) (a b : Int) : (z.way a b).to = z.to := by unfold Hz.way; split <;> rfl
theorem hzArgs_to (d : Int) : ∀ (l : List Int) (z : Hz), (hzArgs d l z).to = z.to
  | [], z => rfl
  | v :: vs, z => by rw [hzArgs, hzArgs_to d vs, way_to]
theorem hzIns_to (writes : List Bool) : ∀ (l : List Ins) (z : Hz), (hzIns writes l z).to = z.to
  | [], z => rfl
  | i :: is, z => by
    rw [hzIns, hzIns_to writes is]
    have : ∀ z : Hz, (z.fromIns writes i).to = z.to := by
      intro z
      unfold Hz.fromIns
      split
      · split <;> rfl
      · rfl
    rw [this, hzArgs_to]
theorem hzEdge_to : ∀ (ps l : List Int) (z : Hz), (hzEdge ps l z).to = z.to
  | [], _, z => rfl
  | p :: ps, [], z => rfl
  | p :: ps, a :: l, z => by rw [hzEdge, hzEdge_to ps l, way_to]
theorem hzEdges_to (bs : List Blk) : ∀ (ws : List Edg) (z : Hz), (hzEdges bs ws z).to = z.to
  | [], z => rfl
  | w :: ws, z => by rw [hzEdges, hzEdges_to bs ws, hzEdge_to]
theorem hzWays_to (writes : List Bool) (bs : List Blk) : ∀ (l : List Blk) (z : Hz), (hzWays writes bs l z).to = z.to
  | [], z => rfl
  | b :: l, z => by rw [hzWays, hzWays_to writes bs l, hzEdges_to, hzIns_to]
theorem hzVals_to (lab : Int → Int) (wt : Int) : ∀ (l : List Int) (z : Hz), (hzVals lab wt l z).to = z.to
  | [], z => rfl
  | v :: vs, z => by
    rw [hzVals, hzVals_to lab wt vs]
    unfold Hz.value
    split <;> rfl
theorem hzBlks_to (lab : Int → Int) (D : List Nat) (R : List Bool) : ∀ (bs : List Blk) (n : Nat) (z : Hz), (hzBlks lab D R n bs z).to = z.to
  | [], n, z => rfl
  | b :: bs, n, z => by
    rw [hzBlks, hzBlks_to lab D R bs]
    split
    · exact hzVals_to _ _ _ _
    · rfl
/-- A function's net. -/
theorem hz_fit {f : Fnc} {lab : Int → Int} {writes : List Bool} {fn : Int} {sinks : List Snk} (hf : f.Few) (hs : sinks.length ≤ 68719476736) : (hzFn f lab writes fn sinks).net.Fit := by
  obtain ⟨z, hz⟩ : ∃ z, z = hzFn f lab writes fn sinks := ⟨_, rfl⟩
  have hsame := hzFn_same f lab writes fn sinks
  have hI : HzI (f.z1 lab) := z1_i
  rw [← hz] at hsame ⊢
  have hN : z.Named := by
    rw [hz]
    unfold hzFn
    refine hzSinks_named _ _ _ (hzWays_named _ _ _ _ ⟨fun x hx => ?_, fun x hx => ?_, fun x hx => ?_⟩)
    · rw [(hzBlks_fw _ _ _ _ _ _).2] at hx; cases hx
    · rw [(hzBlks_fw _ _ _ _ _ _).1] at hx; cases hx
    · rw [hzBlks_to] at hx; cases hx
  have hwl : z.weights.length = z.vals.length := by rw [hz]; exact hzFn_wv _ _ _ _ _
  have hvl : z.vals.length ≤ 1800 := by
    rw [hsame.v]
    have := hzBlks_l lab f.gr.depths f.reach (m := 60) f.blocks 0 Hz.new fun b hb => by
      have := hf.each b hb
      have h1 := this.params
      have h2 := this.ins
      have h3 := dsts_length b.ins
      unfold Blk.made
      rw [List.length_append]; omega
    have h4 := hf.blocks
    have h5 : Hz.new.vals.length = 0 := rfl
    omega
  have hin : ∀ {a x : Int}, z.at_ a = some x → z.net.has x = true := by
    intro a x hx
    rw [hsame.a] at hx
    obtain ⟨m, rfl, hm⟩ := hI _ _ hx
    rw [← hsame.v] at hm
    have := (List.getElem?_eq_some_iff.1 hm).1
    unfold Net.has Hz.net
    simp only [Bool.and_eq_true, decide_eq_true_eq]
    omega
  have hw : ∀ x ∈ z.weights, 1 ≤ x ∧ x ≤ 10000 := by
    rw [hsame.w]
    exact hzBlks_w lab _ _ _ _ _ (fun x hx => by cases hx)
  have hlen : z.ways.length ≤ 27000 ∧ z.frm.length ≤ 1200 ∧ z.to.length ≤ sinks.length := by
    have h1 := hzWays_l writes f.blocks f.blocks (f.z1 lab) hf.each
    have h2 := hf.blocks
    have h3 := hzBlks_fw lab f.gr.depths f.reach f.blocks 0 Hz.new
    have h4 : (f.z1 lab).ways.length = 0 := by rw [h3.2]; rfl
    have h5 : (f.z1 lab).frm.length = 0 := by rw [h3.1]; rfl
    have h6 := hzSinks_fw fn sinks (hzWays writes f.blocks f.blocks (f.z1 lab))
    have h7 := hzSinks_l fn sinks (hzWays writes f.blocks f.blocks (f.z1 lab))
    have e1 : z.ways = (hzWays writes f.blocks f.blocks (f.z1 lab)).ways := by rw [hz]; exact h6.2
    have e2 : z.frm = (hzWays writes f.blocks f.blocks (f.z1 lab)).frm := by rw [hz]; exact h6.1
    have h8 : (hzWays writes f.blocks f.blocks (f.z1 lab)).to = [] := by
      rw [hzWays_to, hzBlks_to]; rfl
    have e3 : z.to.length ≤ 0 + sinks.length := by rw [hz]; rw [h8] at h7; exact h7
    rw [e1, e2]
    omega
  refine ⟨?_, by show z.ways.length ≤ _; omega, by show z.frm.length ≤ _; omega, by show z.to.length ≤ _; omega⟩
  unfold Net.right
  simp only [Bool.and_eq_true, Bool.not_eq_true', Bool.or_eq_false_iff, decide_eq_true_eq, List.any_eq_false, Bool.or_eq_true]
  refine ⟨⟨⟨fun x hx => ?_, fun x hx => ?_⟩, fun x hx => ?_⟩, ?_⟩
  · have := hw x hx
    omega
  · obtain ⟨⟨a, ha⟩, b, hb⟩ := hN.y x hx
    simp [hin ha, hin hb]
  · rcases List.mem_append.1 hx with hx | hx
    · obtain ⟨a, ha⟩ := hN.f x hx
      simp [hin ha]
    · obtain ⟨a, ha⟩ := hN.t x hx
      simp [hin ha]
  · show ((z.weights.length : Nat) : Int) ≤ 2000
    omega
theorem snkIns_few (S : TS) (k : Nat) (n : Int) : ∀ (is : List Ins) (a : Nat), (∀ i ∈ is, i.args.length ≤ 20) → (snkIns S k n a is).length ≤ 20 * is.length
  | [], a, _ => by simp [snkIns]
  | i :: is, a, h => by
    have h1 := snkIns_few S k n is (a + 1) fun x hx => h x (by simp [hx])
    have h2 := snkVals_len S k n a (known i)
    have h3 := known_len i
    have h4 := h i (by simp)
    rw [snkIns]
    simp only [List.length_append, List.length_cons]
    omega
theorem snkBlk_few (S : TS) (k : Nat) : ∀ (bs : List Blk) (n : Nat), (∀ b ∈ bs, b.Few) → (snkBlk S k n bs).length ≤ 801 * bs.length
  | [], n, _ => by simp [snkBlk]
  | b :: bs, n, h => by
    have h1 := snkBlk_few S k bs (n + 1) fun x hx => h x (by simp [hx])
    have hb := h b (by simp)
    have h2 := snkIns_few S k n b.ins 0 hb.iargs
    have h3 : (snkEnd S k n b).length ≤ 1 := by unfold snkEnd; split <;> simp
    have h4 := hb.ins
    rw [snkBlk]
    simp only [List.length_append, List.length_cons]
    omega
theorem snkFn_few (S : TS) : ∀ (fs : List Fnc) (k : Nat), (∀ f ∈ fs, f.Few) → (snkFn S k fs).length ≤ 24030 * fs.length
  | [], k, _ => by simp [snkFn]
  | f :: fs, k, h => by
    have h1 := snkFn_few S fs (k + 1) fun x hx => h x (by simp [hx])
    have hf := h f (by simp)
    have h2 := snkBlk_few S k f.blocks 0 hf.each
    have h4 := hf.blocks
    rw [snkFn]
    simp only [List.length_append, List.length_cons]
    omega
theorem Prg.hz_fit {p : Prg} (hp : p.Few) (S : TS) {k : Nat} (hk : k < p.funcs.length) : (p.hz S k).net.Fit := by
  have hf : p.funcs[k]? = some p.funcs[k] := List.getElem?_eq_getElem hk
  unfold Prg.hz
  rw [hf]
  refine M.hz_fit (hp.each _ (List.getElem_mem hk)) ?_
  have h1 := snkFn_few S p.funcs 0 hp.each
  have h2 := hp.funcs
  unfold Prg.sinks
  omega
end Go.Pl.M

/- 'Cuts', as plain Lean. -/
namespace Go.Pl.M
set_option linter.unusedVariables false
structure Cs where
  seen : List Bool
  reach : List Bool
  todo : List Int
def Cs.come (c : Cs) (v : Int) : Cs := if c.seen.getD v.toNat false = true then c else ⟨c.seen.set v.toNat true, c.reach.set v.toNat true, c.todo ++ [v]⟩
def markL (m : Nat) (l : List Int) (s : List Bool) : List Bool := l.foldl (fun s v => if 0 ≤ v ∧ v < (m : Int) then s.set v.toNat true else s) s
def outRow (ys : List (Int × Int)) (v : Int) : List Int := (ys.filter fun y => y.1 == v).map Prod.snd
abbrev bt (l : List Bool) (v : Int) : Bool := l.getD v.toNat false
structure Cs.Inv (n : Net) (l : List Int) (c : Cs) : Prop where
  sl : c.seen.length = n.weights.length
  rl : c.reach.length = n.weights.length
  td : ∀ v ∈ c.todo, n.has v = true
  see : ∀ v, n.has v = true → (bt c.seen v = true ↔ v ∈ l ∨ bt c.reach v = true)
  apart : ∀ v, n.has v = true → bt c.reach v = true → v ∉ l
  snd : ∀ R, n.CutBy l R → ∀ v, n.has v = true → bt c.reach v = true → R v = true
theorem bt_set {l : List Bool} {v x : Int} (hv : 0 ≤ v ∧ v.toNat < l.length) (hx : 0 ≤ x) : bt (l.set v.toNat true) x = if x = v then true else bt l x := by
  unfold bt
  rw [List.getD_eq_getElem?_getD, List.getElem?_set]
  by_cases h : x = v
  · subst h; rw [if_pos rfl, if_pos hv.2, if_pos rfl]; rfl
  · rw [if_neg (by omega), if_neg h, List.getD_eq_getElem?_getD]
theorem come_inv {n : Net} {l : List Int} {c : Cs} (h : c.Inv n l) {v : Int} (hv : n.has v = true) (hR : ∀ R, n.CutBy l R → R v = true) : (c.come v).Inv n l ∧ bt (c.come v).seen v = true ∧ (∀ x, n.has x = true → bt c.seen x = true → bt (c.come v).seen x = true) ∧ (∀ x, x ∈ c.todo → x ∈ (c.come v).todo) ∧
    (∀ x, n.has x = true → bt (c.come v).reach x = true → bt c.reach x = true ∨ x ∈ (c.come v).todo) := by
  have hvl := Net.has_lt hv
  unfold Cs.come
  split
  · rename_i hs
    exact ⟨h, hs, fun _ _ h => h, fun _ h => h, fun _ _ h => .inl h⟩
  · rename_i hs
    have b1 : ∀ x, n.has x = true → bt (c.seen.set v.toNat true) x = if x = v then true else bt c.seen x := fun x hx => bt_set ⟨hvl.1, by rw [h.sl]; exact hvl.2⟩ (Net.has_lt hx).1
    have b2 : ∀ x, n.has x = true → bt (c.reach.set v.toNat true) x = if x = v then true else bt c.reach x := fun x hx => bt_set ⟨hvl.1, by rw [h.rl]; exact hvl.2⟩ (Net.has_lt hx).1
    have hvn : v ∉ l := fun hm => hs ((h.see v hv).2 (.inl hm))
    refine ⟨⟨by simp [h.sl], by simp [h.rl], fun x hx => ?_, fun x hx => ?_, fun x hx hr => ?_, fun R hc x hx hr => ?_⟩, by rw [b1 v hv, if_pos rfl], fun x hx hs2 => ?_, fun x hx => by simp [hx], fun x hx hr => ?_⟩
    · rcases List.mem_append.1 hx with hx | hx
      · exact h.td x hx
      · rw [List.mem_singleton.1 hx]; exact hv
    · simp only
      rw [b1 x hx, b2 x hx]
      split
      · exact ⟨fun _ => .inr rfl, fun _ => rfl⟩
      · exact h.see x hx
    · simp only at hr
      rw [b2 x hx] at hr
      split at hr
      · rename_i e; rw [e]; exact hvn
      · exact h.apart x hx hr
    · simp only at hr
      rw [b2 x hx] at hr
      split at hr
      · rename_i e; rw [e]; exact hR R hc
      · exact h.snd R hc x hx hr
    · simp only
      rw [b1 x hx]
      split
      · rfl
      · exact hs2
    · simp only at hr ⊢
      rw [b2 x hx] at hr
      split at hr
      · rename_i e; right; simp [e]
      · exact .inl hr
def comes : List Int → Cs → Cs
  | [], c => c
  | v :: l, c => comes l (c.come v)
theorem comes_inv {n : Net} {l : List Int} : ∀ (vs : List Int) (c : Cs), c.Inv n l → (∀ v ∈ vs, n.has v = true) → (∀ R, n.CutBy l R → ∀ v ∈ vs, R v = true) → (comes vs c).Inv n l ∧ (∀ v ∈ vs, bt (comes vs c).seen v = true) ∧ (∀ x, n.has x = true → bt c.seen x = true → bt (comes vs c).seen x = true) ∧ (∀ x, x ∈ c.todo → x ∈ (comes vs c).todo) ∧
    (∀ x, n.has x = true → bt (comes vs c).reach x = true → bt c.reach x = true ∨ x ∈ (comes vs c).todo)
  | [], c, h, _, _ => ⟨h, fun v hv => (by cases hv), fun _ _ h => h, fun _ h => h, fun _ _ h => .inl h⟩
  | v :: vs, c, h, hv, hR => by
    rw [comes]
    obtain ⟨h1, h2, h3, h4, h5⟩ := come_inv h (hv v (by simp)) fun R hc => hR R hc v (by simp)
    obtain ⟨k1, k2, k3, k4, k5⟩ := comes_inv vs (c.come v) h1 (fun x hx => hv x (by simp [hx])) fun R hc x hx => hR R hc x (by simp [hx])
    refine ⟨k1, fun x hx => ?_, fun x hx hs => k3 x hx (h3 x hx hs), fun x hx => k4 x (h4 x hx), fun x hx hr => ?_⟩
    · rcases List.mem_cons.1 hx with rfl | hx
      · exact k3 _ (hv _ (by simp)) h2
      · exact k2 x hx
    · rcases k5 x hx hr with h6 | h6
      · rcases h5 x hx h6 with h7 | h7
        · exact .inl h7
        · exact .inr (k4 x h7)
      · exact .inr h6
theorem mem_outRow {ys : List (Int × Int)} {v y : Int} : y ∈ outRow ys v ↔ (v, y) ∈ ys := by
  unfold outRow
  simp only [List.mem_map, List.mem_filter, beq_iff_eq]
  constructor
  · rintro ⟨⟨a, b⟩, ⟨h1, h2⟩, h3⟩
    simp only at h2 h3
    rw [← h2, ← h3]; exact h1
  · intro h
    exact ⟨(v, y), ⟨h, rfl⟩, rfl⟩
/-- All that is come to is on the list, or done. -/
structure Cs.Run (n : Net) (l : List Int) (c : Cs) : Prop where
  inv : c.Inv n l
  tr : ∀ v ∈ c.todo, bt c.reach v = true
  frm : ∀ v ∈ n.frm, bt c.seen v = true
  done : ∀ x, n.has x = true → bt c.reach x = true → x ∈ c.todo ∨ ∀ y ∈ outRow n.ways x, bt c.seen y = true
theorem come_tr {n : Net} {l : List Int} {c : Cs} (h : c.Inv n l) (ht : ∀ v ∈ c.todo, bt c.reach v = true) {v : Int} (hv : n.has v = true) : ∀ x ∈ (c.come v).todo, bt (c.come v).reach x = true := by
  have hvl := Net.has_lt hv
  unfold Cs.come
  split
  · exact ht
  · intro x hx
    simp only
    rcases List.mem_append.1 hx with hx | hx
    · rw [bt_set ⟨hvl.1, by rw [h.rl]; exact hvl.2⟩ (Net.has_lt (h.td x hx)).1]
      split
      · rfl
      · exact ht x hx
    · rw [List.mem_singleton.1 hx, bt_set ⟨hvl.1, by rw [h.rl]; exact hvl.2⟩ hvl.1, if_pos rfl]
theorem comes_tr {n : Net} {l : List Int} : ∀ (vs : List Int) (c : Cs), c.Inv n l → (∀ v ∈ c.todo, bt c.reach v = true) → (∀ v ∈ vs, n.has v = true) → (∀ R, n.CutBy l R → ∀ v ∈ vs, R v = true) → ∀ x ∈ (comes vs c).todo, bt (comes vs c).reach x = true
  | [], c, h, ht, _, _ => ht
  | v :: vs, c, h, ht, hv, hR => by
    rw [comes]
    obtain ⟨h1, -⟩ := come_inv h (hv v (by simp)) fun R hc => hR R hc v (by simp)
    exact comes_tr vs _ h1 (come_tr h ht (hv v (by simp))) (fun x hx => hv x (by simp [hx])) fun R hc x hx => hR R hc x (by simp [hx])
/-- One round. -/
theorem run_step {n : Net} (hn : n.InR) {l : List Int} {c : Cs} (h : c.Run n l) {v : Int} {t : List Int} (ht : c.todo = v :: t) : (comes (outRow n.ways v) ⟨c.seen, c.reach, t⟩).Run n l := by
  have hv := h.inv.td v (by rw [ht]; simp)
  have hvr := h.tr v (by rw [ht]; simp)
  have h0 : Cs.Inv n l ⟨c.seen, c.reach, t⟩ := ⟨h.inv.sl, h.inv.rl, fun x hx => h.inv.td x (by rw [ht]; exact List.mem_cons_of_mem _ hx), h.inv.see, h.inv.apart, h.inv.snd⟩
  have hin : ∀ y ∈ outRow n.ways v, n.has y = true := fun y hy => (hn.y _ (mem_outRow.1 hy)).2
  have hR : ∀ R, n.CutBy l R → ∀ y ∈ outRow n.ways v, R y = true := fun R hc y hy => hc.ways (v, y) (mem_outRow.1 hy) (h.inv.snd R hc v hv hvr) (h.inv.apart v hv hvr)
  obtain ⟨k1, k2, k3, k4, k5⟩ := comes_inv (outRow n.ways v) ⟨c.seen, c.reach, t⟩ h0 hin hR
  refine ⟨k1, comes_tr _ _ h0 (fun x hx => h.tr x (by rw [ht]; exact List.mem_cons_of_mem _ hx)) hin hR, fun x hx => k3 x (hn.f x hx) (h.frm x hx), fun x hx hr => ?_⟩
  rcases k5 x hx hr with h6 | h6
  · by_cases hxv : x = v
    · right; subst hxv; exact k2
    · rcases h.done x hx h6 with h7 | h7
      · rw [ht] at h7
        rcases List.mem_cons.1 h7 with h8 | h8
        · exact absurd h8 hxv
        · exact .inl (k4 x h8)
      · right
        intro y hy
        exact k3 y (hn.y _ (mem_outRow.1 hy)).2 (h7 y hy)
  · exact .inl h6
/-- At last. -/
theorem run_end {n : Net} {l : List Int} {c : Cs} (hn : n.InR) (h : c.Run n l) (ht : c.todo = []) : (¬ (∃ v ∈ n.to, bt c.reach v = true) → n.CutBy l fun v => bt c.seen v) ∧ ((∃ v ∈ n.to, bt c.reach v = true) → ∀ R, ¬ n.CutBy l R) := by
  refine ⟨fun hno => ⟨fun v hv => h.frm v hv, fun x hx h1 h2 => ?_, fun v hv h1 => ?_⟩, fun ⟨v, hv, hr⟩ R hc => ?_⟩
  · have h3 := hn.y x hx
    rcases (h.inv.see x.1 h3.1).1 h1 with h4 | h4
    · exact absurd h4 h2
    · rcases h.done x.1 h3.1 h4 with h5 | h5
      · rw [ht] at h5; cases h5
      · exact h5 x.2 (mem_outRow.2 hx)
  · rcases (h.inv.see v (hn.t v hv)).1 h1 with h4 | h4
    · exact h4
    · exact absurd ⟨v, hv, h4⟩ hno
  · exact h.inv.apart v (hn.t v hv) hr (hc.to v hv (h.inv.snd R hc v (hn.t v hv) hr))
/-- What is still to come gets less. -/
def Cs.left (c : Cs) : Nat := c.todo.length + c.seen.count false
theorem count_false : ∀ (l : List Bool) (i : Nat), l[i]? = some false → (l.set i true).count false + 1 = l.count false
  | [], i, h => by simp at h
  | b :: l, 0, h => by simp at h; subst h; simp
  | b :: l, i + 1, h => by
    have := count_false l i (by simpa using h)
    simp only [List.set_cons_succ, List.count_cons]
    omega
theorem come_left {n : Net} {l : List Int} {c : Cs} (h : c.Inv n l) {v : Int} (hv : n.has v = true) : (c.come v).left = c.left := by
  have hvl := Net.has_lt hv
  unfold Cs.come
  split
  · rfl
  · rename_i hs
    have h1 : c.seen[v.toNat]? = some false := by
      have h2 : c.seen[v.toNat]? = some (c.seen.getD v.toNat false) := getD_some (by rw [h.sl]; exact hvl.2)
      rw [h2]
      simpa using hs
    have := count_false c.seen v.toNat h1
    unfold Cs.left
    simp only [List.length_append, List.length_cons, List.length_nil]
    omega
theorem comes_left {n : Net} {l : List Int} : ∀ (vs : List Int) (c : Cs), c.Inv n l → (∀ v ∈ vs, n.has v = true) → (∀ R, n.CutBy l R → ∀ v ∈ vs, R v = true) → (comes vs c).left = c.left
  | [], c, _, _, _ => rfl
  | v :: vs, c, h, hv, hR => by
    rw [comes]
    obtain ⟨h1, -⟩ := come_inv h (hv v (by simp)) fun R hc => hR R hc v (by simp)
    rw [comes_left vs _ h1 (fun x hx => hv x (by simp [hx])) fun R hc x hx => hR R hc x (by simp [hx]), come_left h (hv v (by simp))]
end Go.Pl.M

/- Sets of pairs: maps whose keys are two whole numbers. -/
namespace Go.Pl.Try
open M
set_option linter.unusedVariables false
abbrev pr (p : Int × Int) : Value := .agg ⟨[.int .i64 p.1, .int .i64 p.2]⟩
def okP (p : Int × Int) : Prop := (-9223372036854775808 ≤ p.1 ∧ p.1 ≤ 9223372036854775807) ∧ -9223372036854775808 ≤ p.2 ∧ p.2 ≤ 9223372036854775807
theorem pr_law : WideMaps.KeyLaw Go.Proofs.Try.prog 84 := deep_law (m := 3) (by omega) (by kernel_rfl) (by kernel_rfl) (by kernel_rfl)
theorem pr_key {p : Int × Int} (h : okP p) : ∃ l, keyOf Go.Proofs.Try.prog 84 (pr p) = some l := by
  have w1 : (Lit.int .i64 p.1).wf = true := by
    simp only [Lit.wf, Bool.and_eq_true, decide_eq_true_eq]
    have e1 : IntKind.i64.min = -9223372036854775808 := by decide
    have e2 : IntKind.i64.max = 9223372036854775807 := by decide
    rw [e1, e2]; exact h.1
  have w2 : (Lit.int .i64 p.2).wf = true := by
    simp only [Lit.wf, Bool.and_eq_true, decide_eq_true_eq]
    have e1 : IntKind.i64.min = -9223372036854775808 := by decide
    have e2 : IntKind.i64.max = 9223372036854775807 := by decide
    rw [e1, e2]; exact h.2
  have k1 : Go.Proofs.Try.prog.keyType 84 = true := by kernel_rfl
  have k2 : Go.Proofs.Try.prog.cellsOf 84 = 2 := by kernel_rfl
  have k3 : Go.Proofs.Try.prog.cellsOf 3 = 1 := by kernel_rfl
  have k4 : Go.Proofs.Try.prog.types.size + 1 = 199 + 2 := by kernel_rfl
  unfold keyOf
  rw [Go.Proofs.Try.underlying84]
  simp only
  have hf : (pr p).formed Go.Proofs.Try.prog 84 = true := by
    unfold Value.formed
    simp [Go.Proofs.Try.underlying84, k2]
  rw [k1, hf, k4]
  simp only [Bool.and_self, if_true]
  have hi : ∀ (d : Nat) (x : Int), (Lit.int .i64 x).wf = true → Go.Proofs.Try.prog.keyLits (d + 1) 3 [.int .i64 x] = some [.int .i64 x] := by
    intro d x hx
    unfold Program.keyLits
    rw [Go.Proofs.Try.underlying3]
    simp [hx]
  refine ⟨.string (keyBytes [.int .i64 p.1, .int .i64 p.2]), ?_⟩
  have : Go.Proofs.Try.prog.keyLits (199 + 2) 84 (pr p).cells.toList = some [.int .i64 p.1, .int .i64 p.2] := by
    show Go.Proofs.Try.prog.keyLits (200 + 1) 84 [.int .i64 p.1, .int .i64 p.2] = _
    unfold Program.keyLits
    rw [Go.Proofs.Try.underlying84]
    simp only [k2, k3, List.length_cons, List.length_nil]
    have hr : List.range 2 = [0, 1] := rfl
    rw [if_pos trivial, hr]
    have h1 := hi 199 p.1 w1
    have h2 := hi 199 p.2 w2
    simp [h1, h2]
  rw [this]; rfl
theorem pr_inj {a b : Int × Int} (h : pr a = pr b) : a = b := by
  simp only [pr, Value.agg.injEq, Array.mk.injEq, List.cons.injEq, Value.int.injEq, true_and, and_true] at h
  exact Prod.ext h.1 h.2
/-- An object that is a map with these keys, each true, in this order of their making. -/
def MpP (ks : List (Int × Int)) (o : Obj) : Prop := ∃ es clock, o = .map es clock ∧ es.toList.map (fun e => (e.key, e.val)) = ks.map (fun p => (pr p, Value.bool true)) ∧ ∀ p ∈ ks, okP p
theorem MpP.empty : MpP [] (.map #[] 0) := ⟨#[], 0, rfl, by simp, by simp⟩
theorem mpp_find {ks : List (Int × Int)} {es : List MapEntry} (he : es.map (fun e => (e.key, e.val)) = ks.map (fun p => (pr p, Value.bool true))) (hk : ∀ p ∈ ks, okP p) {p : Int × Int} (hp : okP p) (w : World) :
    (p ∉ ks ∧ (Instr.findKey 84 (pr p) es).run Go.Proofs.Try.prog w = .ok none w) ∨
    ∃ j e, p ∈ ks ∧ (Instr.findKey 84 (pr p) es).run Go.Proofs.Try.prog w = .ok (some (j, .bool true)) w ∧ es[j]? = some e ∧ e.key = pr p ∧ e.val = .bool true := by
  obtain ⟨l, hl⟩ := pr_key hp
  have get : ∀ e ∈ es, ∃ q ∈ ks, e.key = pr q ∧ e.val = .bool true := by
    intro e hm
    have : (e.key, e.val) ∈ ks.map (fun p => (pr p, Value.bool true)) := by rw [← he]; exact List.mem_map.2 ⟨e, hm, rfl⟩
    obtain ⟨q, hq, hqe⟩ := List.mem_map.1 this
    simp only [Prod.mk.injEq] at hqe
    exact ⟨q, hq, hqe.1.symm, hqe.2.symm⟩
  rcases pr_law.find w hl es (fun e hm => by
    obtain ⟨q, hq, h1, _⟩ := get e hm
    rw [h1]; exact pr_key (hk q hq)) with ⟨h1, h2⟩ | ⟨j, e, h1, h2, h3⟩
  · refine .inl ⟨fun hm => ?_, h1⟩
    have : (pr p, Value.bool true) ∈ es.map (fun e => (e.key, e.val)) := by rw [he]; exact List.mem_map.2 ⟨p, hm, rfl⟩
    obtain ⟨e, hm, hme⟩ := List.mem_map.1 this
    simp only [Prod.mk.injEq] at hme
    exact h2 e hm hme.1
  · obtain ⟨q, hq, h4, h5⟩ := get e (List.mem_of_getElem? h2)
    rw [h3] at h4
    obtain rfl := pr_inj h4
    exact .inr ⟨j, e, hq, by rw [h1, h5], h2, h3, h5⟩
section
variable {w0 w : World} {L : List (Nat × Obj)}
theorem ptT : Go.Proofs.Try.prog.underlying 82 = some (.map 84 4) := Go.Proofs.Try.underlying82
theorem plook_run {b : Nat} {o : Obj} {ks : List (Int × Int)} (hm : MpP ks o) (hb : w.heap[b]? = some o) {p : Int × Int} (hp : okP p) :
    (Instr.lookup 82 (.map (some b)) (pr p) false).run Go.Proofs.Try.prog w = .ok (.bool (decide (p ∈ ks))) w := by
  obtain ⟨es, c, rfl, he, hk⟩ := hm
  obtain ⟨l, hl⟩ := pr_key hp
  have hz : zeroOf Go.Proofs.Try.prog 4 = some (.bool false) := by kernel_rfl
  unfold Instr.lookup
  simp only [Sem.run_bind, run_und w ptT, Result.andThen_ok, getObj_run hb, Sem.run_pure, pr_law.check w _ hl]
  rcases mpp_find he hk hp w with ⟨h1, h2⟩ | ⟨j, e, h1, h2, h3, h4, h5⟩
  · simp only [h2, Result.andThen_ok, Sem.run_bind, zero_run hz, Sem.run_pure]
    simp [h1]
  · simp only [h2, Result.andThen_ok, Sem.run_pure]
    simp [h1]
theorem pupd_run (h : Hp w0 w L) (i : Nat) {b : Nat} {o : Obj} {ks : List (Int × Int)} (hi : L[i]? = some (b, o)) (hm : MpP ks o) {p : Int × Int} (hp : okP p) :
    ∃ w' o', (Instr.mapUpdate 82 (.map (some b)) (pr p) (.bool true)).run Go.Proofs.Try.prog w = .ok () w' ∧ MpP (pput ks p) o' ∧ Hp w0 w' (L.set i (b, o')) := by
  have hb := h.at i hi
  obtain ⟨es, c, rfl, he, hk⟩ := hm
  obtain ⟨l, hl⟩ := pr_key hp
  unfold Instr.mapUpdate
  rcases mpp_find he hk hp w with ⟨h1, h2⟩ | ⟨j, e, h1, h2, h3, h4, h5⟩
  · obtain ⟨w', hr, hs, hb', ho⟩ := setObj_run (P := Go.Proofs.Try.prog) hb (.map (es.push { key := pr p, val := .bool true, born := c }) (c + 1))
    refine ⟨w', _, ?_, ⟨_, c + 1, rfl, ?_, ?_⟩, h.turn i hi hs hb' ho⟩
    · simp only [Sem.run_bind, run_und w ptT, Result.andThen_ok, getObj_run hb, pr_law.check w _ hl, h2]
      exact hr
    · rw [pput, if_neg h1, Array.toList_push, List.map_append, List.map_append, he]; rfl
    · rw [pput, if_neg h1]
      intro q hq
      rcases List.mem_append.1 hq with hq | hq
      · exact hk q hq
      · rw [List.mem_singleton.1 hq]; exact hp
  · obtain ⟨w', hr, hs, hb', ho⟩ := setObj_run (P := Go.Proofs.Try.prog) hb (.map (es.modify j fun e => { e with key := pr p, val := .bool true }) c)
    have hkey : (((es[j]?).map (·.key)).getD (pr p)) = pr p := by
      rw [← Array.getElem?_toList, h3]; simp [h4]
    refine ⟨w', _, ?_, ⟨_, c, rfl, ?_, ?_⟩, h.turn i hi hs hb' ho⟩
    · simp only [Sem.run_bind, run_und w ptT, Result.andThen_ok, getObj_run hb, pr_law.check w _ hl, h2, hkey, pr_law.stays w hl]
      exact hr
    · rw [pput, if_pos h1, ← he]
      apply List.ext_getElem?
      intro x
      rw [List.getElem?_map, List.getElem?_map, Array.getElem?_toList, Array.getElem?_modify, ← Array.getElem?_toList]
      by_cases hx : j = x
      · subst hx
        rw [if_pos rfl, h3]
        simp [h4, h5]
      · rw [if_neg hx]
    · rw [pput, if_pos h1]; exact hk
theorem plen_run {ty : Nat} {b : Nat} {o : Obj} {ks : List (Int × Int)} (hm : MpP ks o) (hb : w.heap[b]? = some o) :
    (Builtin.len_ #[82] ty ⟨[.map (some b)]⟩).run Go.Proofs.Try.prog w = .ok (.int .i64 (ks.length : Nat)) w := by
  obtain ⟨es, c, rfl, he, hk⟩ := hm
  have hl : es.size = ks.length := by simpa using congrArg List.length he
  simp [Builtin.len_, run_und w ptT, getObj_run hb, goInt, hl]
end
end Go.Pl.Try

/- What '(palings/ssa.Func).Reach' does, read off its translation by gen.py. -/
namespace Go.Pl.Try
set_option linter.unusedVariables false
set_option maxRecDepth 100000
def F16 (x1 : ByteArray) (ax2 : Option Addr) (nx2 cx2 : Nat) (w : World) (R : Value → World → Prop) : Prop :=
  AlP 29 [.string x1, .slice ax2 nx2 cx2] w fun b3 w4 =>
  ∃ (ax5 : Option Addr) (nx5 cx5 : Nat), cel w4 b3 1 = some (.slice ax5 nx5 cx5) ∧
  ∃ (ax6 : Option Addr) (nx6 cx6 : Nat), ∃ w7 : World, Sem.run Pg (Instr.makeSlice 75 (.int .i64 (nx5 : Nat)) (.int .i64 (nx5 : Nat))) w4 = .ok (.slice ax6 nx6 cx6) w7 ∧
  sp (decide (((nx6 : Nat) : Int) = 0))
  (R (.slice ax6 nx6 cx6) w7)
  (0 ≤ (0 : Int) ∧ (0 : Int) < (nx6 : Nat) ∧
  ptAt ax6 fun b8 o9 =>
  StP b8 o9 [.bool true] w7 fun w10 =>
  AlP 3 [.int .i64 0] w10 fun b11 w12 =>
  ∃ J13 : Option Addr → Nat → Nat → World → Nat → Prop, (∃ m16, J13 (some ⟨b11, 0, none⟩) 1 1 w12 m16) ∧
  ∀ (ax14 : Option Addr) (nx14 cx14 : Nat), ∀ w15 m16, J13 ax14 nx14 cx14 w15 m16 →
  sp (decide ((0 : Int) < (nx14 : Nat)))
  (∃ (ax18 : Option Addr) (nx18 cx18 : Nat), cel w15.drew b3 1 = some (.slice ax18 nx18 cx18) ∧
  0 ≤ (0 : Int) ∧ (0 : Int) < (nx14 : Nat) ∧
  ptAt ax14 fun b19 o20 =>
  ∃ (x21 : Int), cel w15.drew b19 o20 = some (.int .i64 x21) ∧
  0 ≤ (x21 : Int) ∧ (x21 : Int) < (nx18 : Nat) ∧
  ptAt ax18 fun b22 o23 =>
  ∃ (ax24 : Option Addr) (nx24 cx24 : Nat) (ax25 : Option Addr) (nx25 cx25 : Nat) (x26 : Int) (x27 : Int) (ax28 : Option Addr) (nx28 cx28 : Nat) (x29 : Int), Row w15.drew b22 (o23 + x21.toNat * 6) [.slice ax24 nx24 cx24, .slice ax25 nx25 cx25, .int .i64 x26, .int .i64 x27, .slice ax28 nx28 cx28, .int .i64 x29] ∧
  AlP 47 [.slice none 0 0, .slice none 0 0, .int .i64 0, .int .i64 0, .slice none 0 0, .int .i64 0] w15.drew fun b30 w31 =>
  Ext w15.drew w31 ∧
  StP b30 0 [.slice ax24 nx24 cx24, .slice ax25 nx25 cx25, .int .i64 x26, .int .i64 x27, .slice ax28 nx28 cx28, .int .i64 x29] w31 fun w32 =>
  ∃ (ax33 : Option Addr) (nx33 cx33 : Nat), Sem.run Pg (Instr.sliceAt 34 (.slice ax14 nx14 cx14) (some (.int .i64 1)) none none) w32 = .ok (.slice ax33 nx33 cx33) w32 ∧
  ∃ (ax34 : Option Addr) (nx34 cx34 : Nat), cel w32 b30 4 = some (.slice ax34 nx34 cx34) ∧
  ∃ J35 : Option Addr → Nat → Nat → Int → World → Nat → Prop, (∃ m39, J35 ax33 nx33 cx33 0 w32 m39) ∧
  ∀ (ax36 : Option Addr) (nx36 cx36 : Nat) (x37 : Int), ∀ w38 m39, J35 ax36 nx36 cx36 x37 w38 m39 →
  sp (decide ((x37 : Int) < (nx34 : Nat)))
  (∀ K41 : Option Addr → Nat → Nat → World → Prop, (∀ (ax42 : Option Addr) (nx42 cx42 : Nat), ∀ w43, (
  ∃ m40, m40 < m39 ∧ J35 ax42 nx42 cx42 (IntKind.wrap .i64 (x37 + 1)) w43 m40) → K41 ax42 nx42 cx42 w43) →
  0 ≤ (x37 : Int) ∧ (x37 : Int) < (nx34 : Nat) ∧
  ptAt ax34 fun b44 o45 =>
  ∃ (x46 : Int) (ax47 : Option Addr) (nx47 cx47 : Nat), Row w38 b44 (o45 + x37.toNat * 2) [.int .i64 x46, .slice ax47 nx47 cx47] ∧
  AlP 41 [.int .i64 0, .slice none 0 0] w38 fun b48 w49 =>
  StP b48 0 [.int .i64 x46, .slice ax47 nx47 cx47] w49 fun w50 =>
  ∃ (x51 : Int), cel w50 b48 0 = some (.int .i64 x51) ∧
  sp (decide ((0 : Int) ≤ x51))
  (∃ (x52 : Int), cel w50 b48 0 = some (.int .i64 x52) ∧
  sp (decide ((x52 : Int) < (nx6 : Nat)))
  (∃ (x53 : Int), cel w50 b48 0 = some (.int .i64 x53) ∧
  0 ≤ (x53 : Int) ∧ (x53 : Int) < (nx6 : Nat) ∧
  ptAt ax6 fun b54 o55 =>
  ∃ (x56 : Bool), cel w50 b54 (o55 + x53.toNat * 1) = some (.bool x56) ∧
  sp (!x56)
  (∃ (x57 : Int), cel w50 b48 0 = some (.int .i64 x57) ∧
  0 ≤ (x57 : Int) ∧ (x57 : Int) < (nx6 : Nat) ∧
  ptAt ax6 fun b58 o59 =>
  StP b58 (o59 + x57.toNat * 1) [.bool true] w50 fun w60 =>
  ∃ (x61 : Int), cel w60 b48 0 = some (.int .i64 x61) ∧
  AlP 3 [.int .i64 x61] w60 fun b62 w63 =>
  ∃ (ax64 : Option Addr) (nx64 cx64 : Nat), ∃ w65 : World, Sem.run Pg (Builtin.append_ #[34, 34] 34 ⟨[.slice ax36 nx36 cx36, .slice (some ⟨b62, 0, none⟩) 1 1]⟩) w63 = .ok (.slice ax64 nx64 cx64) w65 ∧
  K41 ax64 nx64 cx64 w65)
  (K41 ax36 nx36 cx36 w50))
  (K41 ax36 nx36 cx36 w50))
  (K41 ax36 nx36 cx36 w50))
  (∃ m17, m17 < m16 ∧ J13 ax36 nx36 cx36 w38 m17))
  (R (.slice ax6 nx6 cx6) w15))
def T16 : List Sh := [.v (.agg [.str, .sl]), .v (.one .ptr), .v (.one .sl), .v (.one .sl), .v (.one .sl), .v (.one .ptr), .v (.one .any), .v (.one .ptr), .v (.one .ptr), .v (.one .sl), .v (.one (.int .i64)), .v (.one .sl), .v (.one .sl), .v (.one (.int .i64)), .v (.one .bool), .v (.one .sl), .v (.one .sl), .v (.one .ptr), .v (.one .sl), .v (.one .sl), .v (.one (.int .i64)), .v (.one .bool), .v (.one .ptr), .v (.one .sl), .v (.one .sl), .v (.one .ptr), .v (.one (.int .i64)), .v (.one .ptr), .v (.agg [.sl, .sl, (.int .i64), (.int .i64), .sl, (.int .i64)]), .v (.one .sl), .v (.one .sl), .v (.one .ptr), .v (.one .ptr), .v (.one .sl), .v (.one (.int .i64)), .v (.one (.int .i64)), .v (.one .bool), .v (.one .ptr), .v (.agg [(.int .i64), .sl]), .v (.one .ptr), .v (.one (.int .i64)), .v (.one .bool), .v (.one .bool), .v (.one .ptr), .v (.one (.int .i64)), .v (.one .sl), .v (.one (.int .i64)), .v (.one .bool), .v (.one .bool), .v (.one .bool), .v (.one .sl), .v (.one .ptr), .v (.one (.int .i64)), .v (.one .ptr), .v (.one .bool), .v (.one .bool), .v (.one .bool), .v (.one .sl), .v (.one .ptr), .v (.one (.int .i64)), .v (.one .ptr), .v (.one .sl), .v (.one .ptr), .v (.one (.int .i64)), .v (.one .sl), .v (.one .sl), .v (.one (.int .i64)), .v (.one .sl)]
def A16 : Ann := (.seq none .z (.seq none .z (.seq none (.seq none .z (.cond (.seq none .z .z) .z)) (.seq none .z (.seq none .z (.seq none (.block none (.loop [4] (.seq none (.seq none .z (.cond .z .z)) (.block none (.seq none (.dr [0, 1, 0, 0, 1, 0, 1, 2, 3] [0, 1, 2, 3, 4, 5, 6, 7, 8]) (.seq none .z (.seq none .z (.block none (.loop [4, 35] (.seq none .z (.seq none (.cond .z .z) (.seq none (.block (some [4]) (.seq none .z (.ifs none none (.seq none .z .z) .z))) .z)))))))))))) (.seq none .z .z)))))))
theorem F16_eq (x1 : ByteArray) (ax2 : Option Addr) (nx2 cx2 : Nat) (w : World) (R : Value → World → Prop) : F16 x1 ax2 nx2 cx2 w R = denF Go.Proofs.Try.prog T16 Go.Proofs.Try.f16 A16 [.agg ⟨[.string x1, .slice ax2 nx2 cx2]⟩] w R := by kernel_rfl
theorem F16_ok (x1 : ByteArray) (ax2 : Option Addr) (nx2 cx2 : Nat) {w : World} {R : Value → World → Prop} (h : F16 x1 ax2 nx2 cx2 w R) : CallP Go.Proofs.Try.prog 16 [.agg ⟨[.string x1, .slice ax2 nx2 cx2]⟩] w R :=
  calls_den (fun _ => drawn (by kernel_rfl)) Go.Proofs.Try.func16 (Nat.le_of_ble_eq_true (by kernel_rfl)) ((F16_eq x1 ax2 nx2 cx2 w R).mp h)
end Go.Pl.Try

/- Reach, walked. -/
namespace Go.Pl.Try
open M
set_option linter.unusedVariables false
theorem count_set_false {out : List Bool} {i : Nat} (h : out[i]? = some false) : (out.set i true).count false + 1 = out.count false := by
  have hi := (List.getElem?_eq_some_iff.1 h).1
  have hv := (List.getElem?_eq_some_iff.1 h).2
  rw [List.count_set hi]
  have : 0 < out.count false := by
    rw [List.count_pos_iff]
    exact hv ▸ List.getElem_mem hi
  simp [hv]
  omega
theorem reach_w (nm : ByteArray) {a : Option Addr} {n c : Nat} {bs : List Blk} {w : World} (h : RdBlocks w a n bs) (hn : n ≤ 4294967296) (rfin : List Bool) (h0 : n = 0 → rfin = [])
    (hr : n ≠ 0 → ∃ k, reachGo bs k ((List.replicate n false).set 0 true) [0] = some rfin) :
    CallP Pg 16 [.agg ⟨[.string nm, .slice a n c]⟩] w fun v w' => ∃ b, v = .slice (some ⟨b, 0, none⟩) n n ∧ Hp w w' [(b, Cl 4 (rfin.map .bool))] := by
  refine F16_ok nm a n c ?_
  unfold F16
  refine alp (Hp.refl w) fun b3 w4 h4 => ?_
  refine ⟨_, _, _, h4.cl 0 rfl rfl, ?_⟩
  obtain ⟨b6, w7, hm, h7⟩ := make_run slBools zBool h4 n (by omega) (by simp only [maxLen]; omega)
  refine ⟨_, _, _, w7, hm, ?_⟩
  refine sp_dec (fun hz => ?_) (fun hz => ?_)
  · have hz' : n = 0 := by omega
    subst hz'
    refine ⟨b6, rfl, ?_⟩
    rw [h0 rfl]
    exact h7.sub (by simp)
  · have hn0 : 0 < n := by omega
    obtain ⟨k, hk⟩ := hr (by omega)
    refine ⟨by omega, by omega, ptAt_of rfl ?_⟩
    refine stp h7 0 rfl (by simp; omega) rfl fun w10 h10 => ?_
    refine alp h10 fun b11 w12 h12 => ?_
    refine ⟨fun a' n' c' w' m => ∃ out todo r, Sls 1 a' n' c' (todo.map (Value.int .i64)) r ∧ Hp w w' ([(b6, Cl 4 (out.map Value.bool)), (b3, Cl 29 [.string nm, .slice a n c])] ++ (r.L 3 (todo.map (Value.int .i64)) ++ [])) ∧
      out.length = n ∧ todo.length + out.count false ≤ n ∧ reachGo bs m out todo = some rfin, ?_, ?_⟩
    · refine ⟨k, _, [0], .at b11 [] [], ⟨rfl, rfl, rfl, by simp only [maxLen]; omega, Nat.le_refl _⟩, ?_, ?_, ?_, hk⟩
      · have e : splice (List.replicate n (Value.bool false)) 0 [.bool true] = ((List.replicate n false).set 0 true).map Value.bool := by
          have := set_splice Value.bool (List.replicate n false) 0 true (by simpa using hn0)
          rw [List.map_replicate] at this
          exact this
        simp only [List.set, e] at h12
        exact h12.perm (by exact List.Perm.trans (List.Perm.swap _ _ _) (List.Perm.cons _ (List.Perm.swap _ _ _)))
      · simp
      · have := count_set_false (out := List.replicate n false) (i := 0) (by simp [hn0])
        simp at this ⊢
        omega
    · rintro a' n' c' w' m ⟨out, todo, r, hs, hh, ho, hcnt, hgo⟩
      have hn' : n' = todo.length := by have := hs.1; simp at this; omega
      refine sp_dec (fun hlt => ?_) (fun hge => ?_)
      · obtain ⟨t, todo, rfl⟩ : ∃ t td, todo = t :: td := by
          cases todo with
          | nil => simp at hn'; omega
          | cons t td => exact ⟨t, td, rfl⟩
        obtain ⟨m, rfl⟩ : ∃ k, m = k + 1 := by
          cases m with
          | zero => simp [reachGo] at hgo
          | succ k => exact ⟨k, rfl⟩
        simp only [reachGo] at hgo
        split at hgo
        case h_2 => cases hgo
        rename_i blk hblk
        split at hgo
        case isFalse => cases hgo
        rename_i ht0
        have htn : t.toNat < n := by rw [← h.len]; exact (List.getElem?_eq_some_iff.1 hblk).1
        have hd := hh.drew
        obtain ⟨bt, ot, rfl, hct⟩ := hs.cel_at [_, _] hd (j := 0) (v := .int .i64 t) (by simp)
        obtain ⟨bb, ob, vb, ha, hrow, hvl, ap, np, cp, ai, ni, ci, ae, ne, ce, rfl, hp, hi, he⟩ := h.at_ _ _ hblk
        refine ⟨_, _, _, hd.cl 1 rfl rfl, by omega, by omega, ptAt_of rfl ⟨t, hct, ht0, by omega, ptAt_of ha ⟨_, _, _, _, _, _, _, _, _, _, _, _, hd.ext.row hrow, ?_⟩⟩⟩
        refine alpx hd fun b30 w31 hx31 h31 => ⟨hx31, ?_⟩
        refine stp h31 0 rfl (by simp) rfl fun w32 h32 => ?_
        obtain ⟨a33, c33, r33, hcut, hs33, h33⟩ := cut_run (k := 1) slInts hs [_, _, _] h32 (by omega) hs.c_le
        refine ⟨_, _, _, hcut, _, _, _, h33.cl 0 rfl rfl, ?_⟩
        simp only [List.map_cons, Nat.one_mul, List.drop_succ_cons, List.drop_zero] at hs33 h33
        refine ⟨fun a'' n'' c'' i w'' m'' => ∃ j out' todo' r', i = (j : Nat) ∧ j ≤ ne ∧ m'' = ne - j ∧ Sls 1 a'' n'' c'' (todo'.map (Value.int .i64)) r' ∧
          Hp w w'' ([(b30, Cl 47 [.slice ap np cp, .slice ai ni ci, .int .i64 blk.fin.kind, .int .i64 blk.fin.val, .slice ae ne ce, .int .i64 blk.fin.trap]), (b6, Cl 4 (out'.map Value.bool)), (b3, Cl 29 [.string nm, .slice a n c])] ++ (r'.L 3 (todo'.map (Value.int .i64)) ++ [])) ∧
          out'.length = n ∧ todo'.length + out'.count false ≤ n ∧ reachIn bs.length (blk.fin.ways.drop j) out' todo' = reachIn bs.length blk.fin.ways out todo, ?_, ?_⟩
        · refine ⟨ne, 0, out, todo, r33, rfl, Nat.zero_le _, rfl, hs33, h33, ho, ?_, rfl⟩
          simp at hcnt
          omega
        · rintro a'' n'' c'' i w'' m'' ⟨j, out', todo', r', rfl, hj, rfl, hs', hh', ho', hcnt', heq⟩
          refine sp_dec (fun hlt' => ?_) (fun hge' => ?_)
          · have hjn : j < ne := by omega
            obtain ⟨e, hej⟩ : ∃ e, blk.fin.ways[j]? = some e := ⟨_, List.getElem?_eq_getElem (by rw [he.len]; exact hjn)⟩
            have hdrop : blk.fin.ways.drop j = e :: blk.fin.ways.drop (j + 1) := by
              rw [List.drop_eq_getElem_cons (by rw [he.len]; exact hjn)]
              rw [(List.getElem?_eq_some_iff.1 hej).2]
            rw [hdrop] at heq
            simp only [reachIn] at heq
            intro K41 hK
            obtain ⟨bw, ow, vw, hae, hroww, hvlw, wa, wn, wc, rfl, hwargs⟩ := he.at_ _ _ hej
            refine ⟨by omega, by omega, ptAt_of hae ⟨_, _, _, _, hh'.ext.row hroww, ?_⟩⟩
            refine alp hh' fun b48 w49 h49 => ?_
            refine stp h49 0 rfl (by simp) rfl fun w50 h50 => ?_
            have hstep : ∀ {j'}, j' = j + 1 → IntKind.wrap .i64 ((j : Int) + 1) = (j' : Nat) := fun e => by subst e; exact wrap_succ (by have := he.le; omega)
            have hskip : reachIn bs.length (blk.fin.ways.drop (j + 1)) out' todo' = reachIn bs.length blk.fin.ways out todo → ∃ m40, m40 < ne - j ∧ ∃ j1 out1 todo1 r1, IntKind.wrap .i64 ((j : Int) + 1) = (j1 : Nat) ∧ j1 ≤ ne ∧ m40 = ne - j1 ∧ Sls 1 a'' n'' c'' (todo1.map (Value.int .i64)) r1 ∧
                Hp w w50 ([(b30, Cl 47 [.slice ap np cp, .slice ai ni ci, .int .i64 blk.fin.kind, .int .i64 blk.fin.val, .slice ae ne ce, .int .i64 blk.fin.trap]), (b6, Cl 4 (out1.map Value.bool)), (b3, Cl 29 [.string nm, .slice a n c])] ++ (r1.L 3 (todo1.map (Value.int .i64)) ++ [])) ∧
                out1.length = n ∧ todo1.length + out1.count false ≤ n ∧ reachIn bs.length (blk.fin.ways.drop j1) out1 todo1 = reachIn bs.length blk.fin.ways out todo := fun heq =>
              ⟨ne - (j + 1), by omega, j + 1, out', todo', r', hstep rfl, by omega, rfl, hs', h50.drop 1, ho', hcnt', heq⟩
            refine ⟨_, h50.cl 0 rfl rfl, sp_dec (fun he0 => ?_) (fun he0 => ?_)⟩
            · refine ⟨_, h50.cl 0 rfl rfl, sp_dec (fun hen => ?_) (fun hen => ?_)⟩
              · have hen' : e.to.toNat < n := by omega
                obtain ⟨x, hx⟩ : ∃ x, out'[e.to.toNat]? = some x := ⟨_, List.getElem?_eq_getElem (by omega)⟩
                refine ⟨_, h50.cl 0 rfl rfl, he0, hen, ptAt_of rfl ⟨x, ?_, ?_⟩⟩
                · exact h50.cl 2 rfl (by simp [hx])
                · cases x with
                  | true =>
                    refine hK _ _ _ _ (hskip ?_)
                    rw [← heq, if_neg]
                    simp [hx]
                  | false =>
                    refine ⟨_, h50.cl 0 rfl rfl, he0, hen, ptAt_of rfl ?_⟩
                    refine stp h50 2 rfl (by simp; omega) rfl fun w60 h60 => ?_
                    refine ⟨_, h60.cl 0 rfl rfl, ?_⟩
                    refine alp h60 fun b62 w63 h63 => ?_
                    have hn'' := hs'.n_eq
                    simp at hn''
                    have hcf := count_set_false hx
                    obtain ⟨a64, c64, w65, r64, happ, hs64, h65⟩ := app1 (ty := 34) slInts (by omega) hs' [_, _, _, _, _] h63 0 rfl rfl rfl (by simp only [maxLen]; omega) (by omega)
                    refine ⟨_, _, _, w65, happ, ?_⟩
                    have hsp : splice (out'.map Value.bool) (0 + e.to.toNat * 1) [.bool true] = (out'.set e.to.toNat true).map Value.bool := by
                      simpa using set_splice Value.bool out' e.to.toNat true (by omega)
                    have h66 := h65.drop 2
                    simp only [hsp] at h66
                    refine hK _ _ _ _ ⟨ne - (j + 1), by omega, j + 1, out'.set e.to.toNat true, todo' ++ [e.to], r64, hstep rfl, by omega, rfl, by simpa using hs64, by simpa using h66, by simpa using ho', by simp; omega, ?_⟩
                    rw [← heq, if_pos ⟨he0, by rw [h.len]; exact hen, hx⟩]
              · refine hK _ _ _ _ (hskip ?_)
                rw [← heq, if_neg]
                rw [h.len]; omega
            · refine hK _ _ _ _ (hskip ?_)
              rw [← heq, if_neg]
              omega
          · have hjn : j = ne := by omega
            rw [List.drop_eq_nil_of_le (by rw [he.len]; omega)] at heq
            simp only [reachIn] at heq
            rw [← heq] at hgo
            exact ⟨m, Nat.lt_succ_self m, out', todo', r', hs', hh'.drop 1, ho', hcnt', hgo⟩
      · have : todo = [] := List.eq_nil_of_length_eq_zero (by omega)
        subst this
        cases m with
        | zero => simp [reachGo] at hgo
        | succ m =>
          simp [reachGo] at hgo
          subst hgo
          exact ⟨b6, rfl, hh.sub (by simp)⟩
end Go.Pl.Try

/- What '(palings/ssa.Func).known' does, read off its translation by gen.py. -/
namespace Go.Pl.Try
set_option linter.unusedVariables false
set_option maxRecDepth 100000
def F31 (x1 : ByteArray) (ax2 : Option Addr) (nx2 cx2 : Nat) (w : World) (R : Value → World → Prop) : Prop :=
  AlP 29 [.string x1, .slice ax2 nx2 cx2] w fun b3 w4 =>
  ∃ (ax5 : Option Addr) (nx5 cx5 : Nat), cel w4 b3 1 = some (.slice ax5 nx5 cx5) ∧
  ∃ (ax6 : Option Addr) (nx6 cx6 : Nat), ∃ w7 : World, Sem.run Pg (Instr.makeSlice 48 (.int .i64 (nx5 : Nat)) (.int .i64 (nx5 : Nat))) w4 = .ok (.slice ax6 nx6 cx6) w7 ∧
  ∃ (x8 : ByteArray) (ax9 : Option Addr) (nx9 cx9 : Nat), Row w7 b3 0 [.string x8, .slice ax9 nx9 cx9] ∧
  CallP Pg 16 [.agg ⟨[.string x8, .slice ax9 nx9 cx9]⟩] w7 fun v10 w11 => ∃ (ax12 : Option Addr) (nx12 cx12 : Nat), v10 = .slice ax12 nx12 cx12 ∧
  ∃ J13 : Bool → World → Nat → Prop, (∃ m16, J13 true w11 m16) ∧
  ∀ (x14 : Bool), ∀ w15 m16, J13 x14 w15 m16 →
  sp x14
  (∃ (ax18 : Option Addr) (nx18 cx18 : Nat), cel w15 b3 1 = some (.slice ax18 nx18 cx18) ∧
  ∃ J19 : Bool → Int → World → Nat → Prop, (∃ m23, J19 false 0 w15 m23) ∧
  ∀ (x20 : Bool) (x21 : Int), ∀ w22 m23, J19 x20 x21 w22 m23 →
  sp (decide ((x21 : Int) < (nx18 : Nat)))
  (∀ K25 : Bool → World → Prop, (∀ (x26 : Bool), ∀ w27, (
  ∃ m24, m24 < m23 ∧ J19 x26 (IntKind.wrap .i64 (x21 + 1)) w27 m24) → K25 x26 w27) →
  0 ≤ (x21 : Int) ∧ (x21 : Int) < (nx18 : Nat) ∧
  ptAt ax18 fun b28 o29 =>
  ∃ (ax30 : Option Addr) (nx30 cx30 : Nat) (ax31 : Option Addr) (nx31 cx31 : Nat) (x32 : Int) (x33 : Int) (ax34 : Option Addr) (nx34 cx34 : Nat) (x35 : Int), Row w22 b28 (o29 + x21.toNat * 6) [.slice ax30 nx30 cx30, .slice ax31 nx31 cx31, .int .i64 x32, .int .i64 x33, .slice ax34 nx34 cx34, .int .i64 x35] ∧
  AlP 47 [.slice none 0 0, .slice none 0 0, .int .i64 0, .int .i64 0, .slice none 0 0, .int .i64 0] w22 fun b36 w37 =>
  StP b36 0 [.slice ax30 nx30 cx30, .slice ax31 nx31 cx31, .int .i64 x32, .int .i64 x33, .slice ax34 nx34 cx34, .int .i64 x35] w37 fun w38 =>
  ∀ K39 : World → Prop, (∀ w40, (
  ∀ K41 : Bool → World → Prop, (∀ (x42 : Bool), ∀ w43, (
  0 ≤ (x21 : Int) ∧ (x21 : Int) < (nx6 : Nat) ∧
  ptAt ax6 fun b44 o45 =>
  ∃ (x46 : Option Nat), cel w43.drew b44 (o45 + x21.toNat * 1) = some (.map x46) ∧
  ∃ (ax47 : Option Addr) (nx47 cx47 : Nat) (ax48 : Option Addr) (nx48 cx48 : Nat) (x49 : Int) (x50 : Int) (ax51 : Option Addr) (nx51 cx51 : Nat) (x52 : Int), Row w43.drew b36 0 [.slice ax47 nx47 cx47, .slice ax48 nx48 cx48, .int .i64 x49, .int .i64 x50, .slice ax51 nx51 cx51, .int .i64 x52] ∧
  CallP Pg 56 [.map x46, .agg ⟨[.slice ax47 nx47 cx47, .slice ax48 nx48 cx48, .int .i64 x49, .int .i64 x50, .slice ax51 nx51 cx51, .int .i64 x52]⟩] w43.drew fun v53 w54 => ∃ (x55 : Option Nat), v53 = .map x55 ∧
  ∃ (ax56 : Option Addr) (nx56 cx56 : Nat), cel w54 b36 4 = some (.slice ax56 nx56 cx56) ∧
  ∃ J57 : Bool → Int → World → Nat → Prop, (∃ m61, J57 x42 0 w54 m61) ∧
  ∀ (x58 : Bool) (x59 : Int), ∀ w60 m61, J57 x58 x59 w60 m61 →
  sp (decide ((x59 : Int) < (nx56 : Nat)))
  (∀ K63 : Bool → World → Prop, (∀ (x64 : Bool), ∀ w65, (
  ∃ m62, m62 < m61 ∧ J57 x64 (IntKind.wrap .i64 (x59 + 1)) w65 m62) → K63 x64 w65) →
  0 ≤ (x59 : Int) ∧ (x59 : Int) < (nx56 : Nat) ∧
  ptAt ax56 fun b66 o67 =>
  ∃ (x68 : Int) (ax69 : Option Addr) (nx69 cx69 : Nat), Row w60 b66 (o67 + x59.toNat * 2) [.int .i64 x68, .slice ax69 nx69 cx69] ∧
  AlP 41 [.int .i64 0, .slice none 0 0] w60 fun b70 w71 =>
  StP b70 0 [.int .i64 x68, .slice ax69 nx69 cx69] w71 fun w72 =>
  ∃ (x73 : Int), cel w72 b70 0 = some (.int .i64 x73) ∧
  CallP Pg 57 [.slice ax6 nx6 cx6, .int .i64 x73, .map x55] w72 fun v74 w75 => ∃ (x76 : Bool), v74 = .bool x76 ∧
  sp x76
  (K63 true w75)
  (K63 x58 w75))
  (K25 x58 w60)) → K41 x42 w43) →
  0 ≤ (x21 : Int) ∧ (x21 : Int) < (nx6 : Nat) ∧
  ptAt ax6 fun b77 o78 =>
  ∃ (x79 : Option Nat), cel w40 b77 (o78 + x21.toNat * 1) = some (.map x79) ∧
  ∃ (x80 : Bool), Sem.run Pg (do eqGuard .eql 56 (.tmp 45) (.const (.map none)) (.map x79) (.map none); binOp .eql 56 (.map x79) (.map none)) w40 = .ok (.bool x80) w40 ∧
  sp x80
  (AlM w40 fun b81 w82 =>
  0 ≤ (x21 : Int) ∧ (x21 : Int) < (nx6 : Nat) ∧
  ptAt ax6 fun b83 o84 =>
  StP b83 (o84 + x21.toNat * 1) [.map (some b81)] w82 fun w85 =>
  K41 true w85)
  (K41 x20 w40)) → K39 w40) →
  0 ≤ (x21 : Int) ∧ (x21 : Int) < (nx12 : Nat) ∧
  ptAt ax12 fun b86 o87 =>
  ∃ (x88 : Bool), cel w38 b86 (o87 + x21.toNat * 1) = some (.bool x88) ∧
  sp (!x88)
  (K25 x20 w38)
  (sp (decide ((0 : Int) < x21))
  (0 ≤ (x21 : Int) ∧ (x21 : Int) < (nx6 : Nat) ∧
  ptAt ax6 fun b89 o90 =>
  ∃ (x91 : Option Nat), cel w38 b89 (o90 + x21.toNat * 1) = some (.map x91) ∧
  ∃ (x92 : Bool), Sem.run Pg (do eqGuard .eql 56 (.tmp 38) (.const (.map none)) (.map x91) (.map none); binOp .eql 56 (.map x91) (.map none)) w38 = .ok (.bool x92) w38 ∧
  sp x92
  (K25 x20 w38)
  (K39 w38))
  (K39 w38)))
  (∃ m17, m17 < m16 ∧ J13 x20 w22 m17))
  (R (.slice ax6 nx6 cx6) w15)
def T31 : List Sh := [.v (.agg [.str, .sl]), .v (.one .ptr), .v (.one .sl), .v (.one .sl), .v (.one .sl), .v (.one .bool), .v (.one (.int .i64)), .v (.one .ptr), .v (.one .map), .v (.one .any), .v (.one .ptr), .v (.one .ptr), .v (.one .sl), .v (.one (.int .i64)), .v (.one .sl), .v (.agg [.str, .sl]), .v (.one .sl), .v (.one .bool), .v (.one .ptr), .v (.one .sl), .v (.one (.int .i64)), .v (.one (.int .i64)), .v (.one .bool), .v (.one (.int .i64)), .v (.one .ptr), .v (.agg [.sl, .sl, (.int .i64), (.int .i64), .sl, (.int .i64)]), .v (.one .sl), .v (.one (.int .i64)), .v (.one .ptr), .v (.one .bool), .v (.one .bool), .v (.one .bool), .v (.one (.int .i64)), .v (.one .bool), .v (.one .bool), .v (.one .sl), .v (.one (.int .i64)), .v (.one .ptr), .v (.one .map), .v (.one .bool), .v (.one .bool), .v (.one .bool), .v (.one .sl), .v (.one (.int .i64)), .v (.one .ptr), .v (.one .map), .v (.one .bool), .v (.one .sl), .v (.one (.int .i64)), .v (.one .map), .v (.one .ptr), .v (.one .sl), .v (.one (.int .i64)), .v (.one .ptr), .v (.one .map), .v (.agg [.sl, .sl, (.int .i64), (.int .i64), .sl, (.int .i64)]), .v (.one .map), .v (.one .ptr), .v (.one .ptr), .v (.one .sl), .v (.one (.int .i64)), .v (.one (.int .i64)), .v (.one .bool), .v (.one .ptr), .v (.agg [(.int .i64), .sl]), .v (.one .sl), .v (.one .ptr), .v (.one (.int .i64)), .v (.one .map), .v (.one .bool), .v (.one .bool), .v (.one .bool), .v (.one .bool), .v (.one (.int .i64)), .v (.one (.int .i64)), .v (.one .sl)]
def A31 : Ann := (.seq none .z (.seq none .z (.seq none .z (.seq none (.seq none .z (.block none (.loop [5] (.seq none (.seq none .z (.cond .z .z)) (.block none (.seq none .z (.seq none .z (.block none (.loop [5, 21] (.seq none .z (.seq none (.cond .z .z) (.seq none (.block (some [5]) (.seq none .z (.seq (some []) (.ifs none none .z .z) (.seq (some [5]) (.seq none .z (.cond (.seq none .z .z) .z)) (.seq none (.dr [0, 0, 0, 1, 1, 3, 0] [0, 1, 2, 3, 4, 5, 6]) (.seq none .z (.block none (.loop [5, 61] (.seq none .z (.seq none (.cond .z .z) (.seq none (.block (some [5]) (.seq none .z .z)) .z))))))))))) .z)))))))))))) (.seq none .z .z)))))
theorem F31_eq (x1 : ByteArray) (ax2 : Option Addr) (nx2 cx2 : Nat) (w : World) (R : Value → World → Prop) : F31 x1 ax2 nx2 cx2 w R = denF Go.Proofs.Try.prog T31 Go.Proofs.Try.f31 A31 [.agg ⟨[.string x1, .slice ax2 nx2 cx2]⟩] w R := by kernel_rfl
theorem F31_ok (x1 : ByteArray) (ax2 : Option Addr) (nx2 cx2 : Nat) {w : World} {R : Value → World → Prop} (h : F31 x1 ax2 nx2 cx2 w R) : CallP Go.Proofs.Try.prog 31 [.agg ⟨[.string x1, .slice ax2 nx2 cx2]⟩] w R :=
  calls_den (fun _ => drawn (by kernel_rfl)) Go.Proofs.Try.func31 (Nat.le_of_ble_eq_true (by kernel_rfl)) ((F31_eq x1 ax2 nx2 cx2 w R).mp h)
end Go.Pl.Try

/- What 'palings/ssa.meet' does, read off its translation by gen.py. -/
namespace Go.Pl.Try
set_option linter.unusedVariables false
set_option maxRecDepth 100000
def F57 (ain1 : Option Addr) (nin1 cin1 : Nat) (n2 : Int) (out3 : Option Nat) (w : World) (R : Value → World → Prop) : Prop :=
  0 ≤ (n2 : Int) ∧ (n2 : Int) < (nin1 : Nat) ∧
  ptAt ain1 fun b4 o5 =>
  ∃ (x6 : Option Nat), cel w b4 (o5 + n2.toNat * 1) = some (.map x6) ∧
  ∃ (x7 : Bool), Sem.run Pg (do eqGuard .eql 56 (.tmp 12) (.const (.map none)) (.map x6) (.map none); binOp .eql 56 (.map x6) (.map none)) w = .ok (.bool x7) w ∧
  sp x7
  (0 ≤ (n2 : Int) ∧ (n2 : Int) < (nin1 : Nat) ∧
  ptAt ain1 fun b8 o9 =>
  StP b8 (o9 + n2.toNat * 1) [.map out3] w fun w10 =>
  R (.bool true) w10)
  (0 ≤ (n2 : Int) ∧ (n2 : Int) < (nin1 : Nat) ∧
  ptAt ain1 fun b11 o12 =>
  ∃ (x13 : Option Nat), cel w b11 (o12 + n2.toNat * 1) = some (.map x13) ∧
  ∃ (x14 : Option Addr), ∃ w15 : World, Sem.run Pg (Instr.range 56 (.map x13)) w = .ok (.pointer x14) w15 ∧
  ∃ J16 : Bool → World → Nat → Prop, (∃ m19, J16 false w15 m19) ∧
  ∀ (turned17 : Bool), ∀ w18 m19, J16 turned17 w18 m19 →
  (∃ w21 : World, Sem.run Pg (Instr.next (.pointer x14) false 0) w18 = .ok (.tuple ⟨[.bool false]⟩) w21 ∧
  R (.bool turned17) w21) ∨
  (∃ (k23 v24 : Value) (w22 : World), Sem.run Pg (Instr.next (.pointer x14) false 0) w18 = .ok (.tuple ⟨[.bool true, k23, v24]⟩) w22 ∧
  ∀ K36 : Bool → World → Prop, (∀ (turned37 : Bool), ∀ w38, (
  ∃ m20, m20 < m19 ∧ J16 turned37 w38 m20) → K36 turned37 w38) →
  ∃ (x39 : Int) (x40 : Bool), Sem.run Pg (Instr.entry (.pointer x14)) w22 = .ok (.tuple ⟨[.int .i64 x39, .bool x40]⟩) w22 ∧
  ∃ (x41 : Bool), Sem.run Pg (Instr.lookup 56 (.map out3) (.int .i64 x39) false) w22 = .ok (.bool x41) w22 ∧
  sp (!x41)
  (0 ≤ (n2 : Int) ∧ (n2 : Int) < (nin1 : Nat) ∧
  ptAt ain1 fun b42 o43 =>
  ∃ (x44 : Option Nat), cel w22 b42 (o43 + n2.toNat * 1) = some (.map x44) ∧
  ∃ (x45 : Value), ∃ w46 : World, Sem.run Pg (Builtin.delete_ #[56, 3] 0 ⟨[.map x44, .int .i64 x39]⟩) w22 = .ok (x45) w46 ∧
  K36 true w46)
  (K36 turned17 w22)))
def T57 : List Sh := [.v (.one .sl), .v (.one (.int .i64)), .v (.one .map), .v (.one .any), .v (.one .any), .v (.one .any), .v (.one .bool), .v (.one .bool), .v (.one (.int .i64)), .v (.one .sl), .v (.one (.int .i64)), .v (.one .ptr), .v (.one .map), .v (.one .bool), .v (.one .sl), .v (.one (.int .i64)), .v (.one .map), .v (.one .ptr), .v (.one .sl), .v (.one (.int .i64)), .v (.one .ptr), .v (.one .map), .v (.one .ptr), .v (.one .any), .v (.one .bool), .t [(.one (.int .i64)), (.one .bool)], .v (.one (.int .i64)), .v (.one .map), .v (.one (.int .i64)), .v (.one .bool), .v (.one .bool), .v (.one .sl), .v (.one (.int .i64)), .v (.one .ptr), .v (.one .map), .v (.one (.int .i64)), .v (.one .bool)]
def A57 : Ann := (.seq none .z (.seq none (.seq none .z (.cond (.seq none .z (.seq none .z .z)) .z)) (.seq none .z (.seq none (.seq none .z (.block none (.loop [7] (.seq none .z (.seq none (.cond .z .z) (.block (some [7]) (.seq none .z (.seq none .z (.cond (.seq none .z .z) .z))))))))) (.seq none .z .z)))))
theorem F57_eq (ain1 : Option Addr) (nin1 cin1 : Nat) (n2 : Int) (out3 : Option Nat) (w : World) (R : Value → World → Prop) : F57 ain1 nin1 cin1 n2 out3 w R = denF Go.Proofs.Try.prog T57 Go.Proofs.Try.f57 A57 [.slice ain1 nin1 cin1, .int .i64 n2, .map out3] w R := by kernel_rfl
theorem F57_ok (ain1 : Option Addr) (nin1 cin1 : Nat) (n2 : Int) (out3 : Option Nat) {w : World} {R : Value → World → Prop} (h : F57 ain1 nin1 cin1 n2 out3 w R) : CallP Go.Proofs.Try.prog 57 [.slice ain1 nin1 cin1, .int .i64 n2, .map out3] w R :=
  calls_den (fun _ => drawn (by kernel_rfl)) Go.Proofs.Try.func57 (Nat.le_of_ble_eq_true (by kernel_rfl)) ((F57_eq ain1 nin1 cin1 n2 out3 w R).mp h)
end Go.Pl.Try

/- 'known', walked. -/
namespace Go.Pl
theorem Rg.nodup {b : Nat} {m left : List (Int × Value)} {om oi : Obj} (h : Rg b m left om oi) : (left.map Prod.fst).Nodup := by
  obtain ⟨es, c, seen, rfl, hm, rfl, hperm⟩ := h
  obtain ⟨_, _, e1, he, hnd, _, _⟩ := hm
  cases e1
  have h1 := (hperm.map Prod.fst)
  rw [List.map_map, List.map_map] at h1
  have h2 : (es.toList.map MapEntry.key).Nodup := by
    have : es.toList.map MapEntry.key = m.map (fun p => Value.int .i64 p.1) := by
      have := congrArg (List.map Prod.fst) he
      rw [List.map_map, List.map_map] at this
      exact this
    rw [this]
    have h3 : m.map (fun p => Value.int .i64 p.1) = (m.map Prod.fst).map (Value.int .i64) := by rw [List.map_map]; rfl
    rw [h3]
    exact hnd.map (Value.int .i64) (fun a b hne e => hne (by injection e))
  have h3 : (((es.toList.filter fun e => !seen.contains e.born).map ((fun p : Value × Value => p.1) ∘ fun e => (e.key, e.val)))).Nodup := h2.sublist (List.Sublist.map _ List.filter_sublist)
  have h4 := (h1.nodup_iff).1 h3
  have h5 : left.map ((fun p : Value × Value => p.1) ∘ fun p : Int × Value => (Value.int .i64 p.1, p.2)) = (left.map Prod.fst).map (Value.int .i64) := by rw [List.map_map]; rfl
  rw [h5] at h4
  exact (List.pairwise_map.1 h4).imp fun hne e => hne (by rw [e])
end Go.Pl
namespace Go.Pl.Try
open M
set_option linter.unusedVariables false
theorem meet_nil {w0 w : World} {L : List (Nat × Obj)} (h : Hp w0 w L) (i : Nat) {bin : Nat} {e : TypeId} {vals : List Value} (hi : L[i]? = some (bin, Cl e vals)) (n : Nat) (hn : vals[n]? = some (.map none)) (out : Option Nat) {N c : Nat} (hN : vals.length = N) :
    CallP Pg 57 [.slice (some ⟨bin, 0, none⟩) N c, .int .i64 n, .map out] w fun v w' => v = .bool true ∧ Hp w0 w' (L.set i (bin, Cl e (vals.set n (.map out)))) := by
  refine F57_ok _ _ _ _ _ ?_
  unfold F57
  have hlt := (List.getElem?_eq_some_iff.1 hn).1
  refine ⟨by omega, by omega, ptAt_of rfl ⟨none, h.cl i hi (by simpa using hn), true, ?_, sp_true rfl ⟨by omega, by omega, ptAt_of rfl ?_⟩⟩⟩
  · exact eql_map_nil (k := 3) (e := 4) (by kernel_rfl) _ _ _ _
  · refine stp h i hi (by simp; omega) rfl fun w10 h10 => ⟨rfl, ?_⟩
    have : splice vals (0 + (n : Int).toNat * 1) [.map out] = vals.set n (.map out) := by
      have := set_splice (fun v : Value => v) vals n (.map out) hlt
      simpa using this
    rw [this] at h10
    exact h10
theorem meet_map {w0 w : World} {L : List (Nat × Obj)} (h : Hp w0 w L) (i : Nat) {bin : Nat} {e : TypeId} {vals : List Value} (hi : L[i]? = some (bin, Cl e vals)) (n : Nat) {b ob : Nat} (hn : vals[n]? = some (.map (some b))) {N c : Nat} (hN : vals.length = N)
    (k : Nat) {o : Obj} (hk : L[k]? = some (b, o)) (hki : k ≠ i) {s t : List Int} (ho : MapO (setF s) o) (hob : (ob = b ∧ t = s) ∨ ∃ k2 oo, k2 ≠ k ∧ L[k2]? = some (ob, oo) ∧ MapO (setF t) oo) :
    CallP Pg 57 [.slice (some ⟨bin, 0, none⟩) N c, .int .i64 n, .map (some ob)] w fun v w' => ∃ o', v = .bool (!(s.all fun x => decide (x ∈ t))) ∧ MapO (setF (s.filter fun x => decide (x ∈ t))) o' ∧ Hp w0 w' (L.set k (b, o')) := by
  refine F57_ok _ _ _ _ _ ?_
  unfold F57
  have hlt := (List.getElem?_eq_some_iff.1 hn).1
  refine ⟨by omega, by omega, ptAt_of rfl ⟨some b, h.cl i hi (by simpa using hn), false, ?_, sp_false rfl ⟨by omega, by omega, ptAt_of rfl ⟨some b, h.cl i hi (by simpa using hn), ?_⟩⟩⟩⟩
  · exact eql_map_nil (k := 3) (e := 4) (by kernel_rfl) _ _ _ _
  obtain ⟨m0, hm0, hget0⟩ := ho
  obtain ⟨r, w15, oi, hrun, h15, hrg, hx15⟩ := range_run mpBool h (h.at k hk) hm0
  have hLk : L.set k (b, o) = L := by
    apply List.ext_getElem?
    intro j
    rw [List.getElem?_set]
    split
    · rename_i e1; subst e1; rw [if_pos (List.getElem?_eq_some_iff.1 hk).1, hk]
    · rfl
  have hkl := (List.getElem?_eq_some_iff.1 hk).1
  refine ⟨_, w15, hrun, ?_⟩
  refine ⟨fun turned w' c => ∃ om oi m left, Hp w0 w' ((r, oi) :: L.set k (b, om)) ∧ Rg b m left om oi ∧ (∀ x, mget m x = if x ∈ s ∧ (x ∈ t ∨ x ∈ left.map Prod.fst) then some (.bool true) else none) ∧ (turned = true ↔ ∃ x ∈ s, x ∉ t ∧ x ∉ left.map Prod.fst) ∧ c = left.length,
    ⟨m0.length, o, oi, m0, m0, by rw [hLk]; exact h15, hrg, ?_, ?_, rfl⟩, ?_⟩
  · intro x
    rw [hget0, setF]
    have := mem_keys hget0 x
    by_cases hx : x ∈ s
    · rw [if_pos hx, if_pos ⟨hx, .inr (this.2 hx)⟩]
    · rw [if_neg hx, if_neg (fun hh => hx hh.1)]
  · constructor
    · intro h; cases h
    · rintro ⟨x, hx, -, h2⟩
      exact absurd ((mem_keys hget0 x).2 hx) h2
  rintro turned w18 c ⟨om, oi, m, left, h18, hrg18, hget, hturn, rfl⟩
  have hbk : (((r, oi) :: L.set k (b, om)) : List (Nat × Obj))[k + 1]? = some (b, om) := by
    rw [List.getElem?_cons_succ, List.getElem?_set_self hkl]
  have hrb : r ≠ b := by
    intro e1
    have hnd := h18.nd
    simp only [List.map_cons, List.nodup_cons] at hnd
    refine hnd.1 (List.mem_map.2 ⟨(b, om), ?_, e1.symm⟩)
    exact List.mem_of_getElem? (i := k) (by rw [List.getElem?_set_self hkl])
  rcases next_run (P := Pg) (ty := 0) h18 0 rfl (h18.at (k + 1) hbk) hrb hrg18 with ⟨rfl, hn'⟩ | ⟨x, v, left', w22, oi2, hperm, hn', h22, hrg22, hxm, hent, -, -⟩
  · left
    refine ⟨w18, hn', om, ?_, ⟨m, hrg18.mp, fun x => ?_⟩, h18.drop 1⟩
    · congr 1
      rw [Bool.eq_iff_iff, hturn]
      simp
    · rw [hget x, setF]
      simp [List.mem_filter]
  · right
    have hndm : (m.map Prod.fst).Nodup := by obtain ⟨_, _, _, _, e2, _⟩ := hrg18.mp; exact e2
    have hgx := mget_mem hndm hxm
    rw [hget x] at hgx
    have hxs : x ∈ s ∧ v = .bool true := by
      split at hgx
      · rename_i hh; cases hgx; exact ⟨hh.1, rfl⟩
      · cases hgx
    obtain ⟨hxs, rfl⟩ := hxs
    have hndl := hrg18.nodup
    rw [(hperm.map Prod.fst).nodup_iff] at hndl
    simp only [List.map_cons, List.nodup_cons] at hndl
    have hleft : ∀ y, y ∈ left.map Prod.fst ↔ y = x ∨ y ∈ left'.map Prod.fst := fun y => by rw [(hperm.map Prod.fst).mem_iff]; simp
    refine ⟨_, _, w22, hn', ?_⟩
    intro K36 hK36
    have h22' : Hp w0 w22 ((r, oi2) :: L.set k (b, om)) := h22
    have hout : RMap w22 (some ob) (setF t) := by
      rcases hob with ⟨rfl, rfl⟩ | ⟨k2, oo, hk2, hL2, hoo⟩
      · refine ⟨om, h22'.at (k + 1) hbk, m, hrg18.mp, fun y => ?_⟩
        rw [hget y, setF]
        by_cases hy : y ∈ t <;> simp [hy]
      · refine ⟨oo, h22'.at (k2 + 1) ?_, hoo⟩
        rw [List.getElem?_cons_succ, List.getElem?_set_ne (Ne.symm hk2)]; exact hL2
    refine ⟨x, true, hent, decide (x ∈ t), ?_, ?_⟩
    · rw [look_map mpBool zB hout, getD_setF]
    · refine sp_of (fun hxt => ?_) (fun hxt => ?_)
      · have hxt' : x ∉ t := by simpa using hxt
        obtain ⟨w46, om2, hdel, hrg46, h46⟩ := del_rg (P := Pg) (kt2 := 3) (ty := 0) mpBool h22' (k + 1) hbk hrg22 x (fun p hp e1 => hndl.1 (e1 ▸ List.mem_map_of_mem hp))
        have h46' : Hp w0 w46 ((r, oi2) :: L.set k (b, om2)) := by
          have e1 : ((r, oi2) :: L.set k (b, om)).set (k + 1) (b, om2) = (r, oi2) :: L.set k (b, om2) := by simp [List.set_set]
          rw [e1] at h46; exact h46
        refine ⟨by omega, by omega, ptAt_of rfl ⟨some b, ?_, _, w46, hdel, hK36 _ _ ⟨left'.length, by rw [hperm.length_eq]; simp, om2, oi2, mdel m x, left', h46', hrg46, ?_, ?_, rfl⟩⟩⟩
        · refine h22'.cl (i + 1) (e := e) (vs := vals) ?_ (by simpa using hn)
          rw [List.getElem?_cons_succ, List.getElem?_set_ne hki]; exact hi
        · intro y
          rw [mget_mdel, hget y]
          by_cases hy : y = x
          · subst hy
            rw [if_pos rfl, if_neg]
            rintro ⟨-, h1 | h1⟩
            · exact hxt' h1
            · exact hndl.1 h1
          · rw [if_neg hy]
            simp only [hleft y, hy, false_or]
        · refine ⟨fun _ => ⟨x, hxs, hxt', hndl.1⟩, fun _ => rfl⟩
      · have hxt' : x ∈ t := by simpa using hxt
        refine hK36 _ _ ⟨left'.length, by rw [hperm.length_eq]; simp, om, oi2, m, left', h22', hrg22, ?_, ?_, rfl⟩
        · intro y
          rw [hget y]
          by_cases hy : y = x
          · subst hy; simp [hxt']
          · simp only [hleft y, hy, false_or]
        · rw [hturn]
          constructor
          · rintro ⟨y, h1, h2, h3⟩
            exact ⟨y, h1, h2, fun h4 => h3 ((hleft y).2 (.inr h4))⟩
          · rintro ⟨y, h1, h2, h3⟩
            refine ⟨y, h1, h2, fun h4 => ?_⟩
            rcases (hleft y).1 h4 with rfl | h5
            · exact h2 hxt'
            · exact h3 h5
end Go.Pl.Try
