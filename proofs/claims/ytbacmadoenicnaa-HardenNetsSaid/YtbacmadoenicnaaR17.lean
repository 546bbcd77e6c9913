/- Joined texts of the proof, part 17: WOpen, Kept. -/
import Derived.Test.YtbacmadoenicnaaR16
import Derived.Deep.Slices
import Derived.ChangeReads
import Derived.ChangeOld
import Derived.WalkKit
import Derived.ProofKit
import Derived.OpenShut
import Derived.ReadAgain
set_option maxRecDepth 2000
set_option linter.unusedVariables false
set_option linter.unusedSimpArgs false
set_option linter.unusedSectionVars false
/- A program that is handed in, opened: from how it reads as data to how it lies. -/
namespace Go.Pl
open M
set_option linter.unusedVariables false
set_option linter.unusedSimpArgs false
abbrev In64 (x : Int) : Prop := -9223372036854775808 ≤ x ∧ x ≤ 9223372036854775807
theorem in64 {n : Int} (h : (Lit.int .i64 n).wf = true) : In64 n := by
  simp only [Lit.wf, Bool.and_eq_true, decide_eq_true_eq] at h
  have e1 : IntKind.i64.min = -9223372036854775808 := by decide
  have e2 : IntKind.i64.max = 9223372036854775807 := by decide
  rw [e1, e2] at h
  exact h
def I64s (xs : List Int) : Prop := ∀ x ∈ xs, In64 x
structure _root_.Go.Pl.M.Edg.I64 (x : Edg) : Prop where
  to : In64 x.to
  args : I64s x.args
structure _root_.Go.Pl.M.Ins.I64 (i : Ins) : Prop where
  op : In64 i.op
  dst : In64 i.dst
  args : I64s i.args
  num : In64 i.num
  bin : In64 i.bin
  arr : In64 i.arr
  fn : In64 i.fn
structure _root_.Go.Pl.M.Blk.I64 (b : Blk) : Prop where
  params : I64s b.params
  ins : ∀ i ∈ b.ins, i.I64
  kind : In64 b.fin.kind
  val : In64 b.fin.val
  ways : ∀ x ∈ b.fin.ways, x.I64
  trap : In64 b.fin.trap
def _root_.Go.Pl.M.Fnc.I64 (f : Fnc) : Prop := ∀ b ∈ f.blocks, b.I64
structure _root_.Go.Pl.M.Arr.I64 (x : Arr) : Prop where
  hold : In64 x.hold
  size : In64 x.size
structure _root_.Go.Pl.M.Prg.I64 (p : Prg) : Prop where
  arrs : ∀ x ∈ p.arrs, x.I64
  funcs : ∀ f ∈ p.funcs, f.I64
  main : In64 p.main
theorem pick {α : Type} {Q : Nat → α → Prop} : ∀ n, (∀ i, i < n → ∃ y, Q i y) → ∃ ys : List α, ys.length = n ∧ ∀ i y, ys[i]? = some y → Q i y
  | 0, _ => ⟨[], rfl, fun i y h => by simp at h⟩
  | n + 1, h => by
    obtain ⟨ys, hl, hy⟩ := pick n fun i hi => h i (by omega)
    obtain ⟨y, hq⟩ := h n (by omega)
    refine ⟨ys ++ [y], by simp [hl], fun i z hz => ?_⟩
    by_cases hi : i < n
    · exact hy i z (by rwa [List.getElem?_append_left (by omega)] at hz)
    · have : i = n := by
        have := (List.getElem?_eq_some_iff.1 hz).1
        simp [hl] at this; omega
      subst this
      rw [List.getElem?_append_right (by omega)] at hz
      simp [hl] at hz
      subst hz; exact hq
section
variable {H : Type} {enc : TypeId × Value → H} {P : Program} {w : World} {base : Nat} {spare : Nat → Bool} {held : Bool}
/-- .. behind the call, where what was there stays. -/
theorem trod_ext {w' : World} {t : TypeId} {v : Value} {d : DataW H} {ps : List MemPlace} (hx : Ext w w') (h : DataW.Trod enc P w base spare held t v d ps) : DataW.Trod enc P w' base spare held t v d ps := by
  obtain ⟨n, hn⟩ := h
  refine ⟨n, DataW.trod_carry n t _ _ hn fun p hp => ?_⟩
  have hlt := DataW.trod_lt n t _ _ hn p hp
  cases p with
  | cell b off =>
    show w'.cell? _ = w.cell? _
    have := hx.blk b hlt
    simp only [World.cell?, this]
  | map b => exact hx.blk b hlt
theorem op_slice {α : Type} {R : World → List Value → α → Prop} {B : α → Prop} {t e size : Nat} (ht : P.underlying t = some (.slice e)) (hc : P.cellsOf e = size) (hp : 0 < size)
    (one : ∀ fuel cs x, cs.length = size → DataW.trod enc P w base spare held fuel e cs = some x → ∃ y, R w cs y ∧ B y)
    {fuel : Nat} {cs : List Value} {x : DataW H × List MemPlace} (h : DataW.trod enc P w base spare held fuel t cs = some x) :
    ∃ a n c ys, cs = [.slice a n c] ∧ n ≤ c ∧ RdS size R w a n ys ∧ ∀ y ∈ ys, B y := by
  rcases Go.Deep.open_slice ht h with ⟨rfl, _⟩ | ⟨a, len, cap, m, n, D, Pl, rfl, hb, hl, hm, hmm, _, hx⟩
  · exact ⟨none, 0, 0, [], rfl, Nat.le_refl _, RdS.nil _ _ _ _, by simp⟩
  · have hlm : len ≤ m := by rw [hmm]; split <;> omega
    obtain ⟨ys, hyl, hy⟩ := pick (α := α) (Q := fun i y => ∃ cs', w.cells? base (a.add (i * P.cellsOf e)) (P.cellsOf e) = some cs' ∧ R w cs' y ∧ B y) len fun i hi => by
      obtain ⟨cs', h1, h2⟩ := hx i (by omega)
      obtain ⟨y, h3, h4⟩ := one n cs' _ (by rw [← hc]; exact (World.cells?_some h1).2.1) h2
      exact ⟨y, cs', h1, h3, h4⟩
    refine ⟨some a, len, cap, ys, rfl, hl, ⟨hyl, by omega, fun i y hi => ?_⟩, fun y hm => ?_⟩
    · obtain ⟨cs', h1, h2, h3⟩ := hy i y hi
      obtain ⟨_, hlen, hcell⟩ := World.cells?_some h1
      rw [hc] at hcell hlen
      have hil := (List.getElem?_eq_some_iff.1 hi).1
      obtain ⟨cs0, g1, _, _⟩ := hy 0 _ (List.getElem?_eq_getElem (by omega))
      obtain ⟨_, glen, gcell⟩ := World.cells?_some g1
      rw [hc] at gcell glen
      obtain ⟨b, o, spot⟩ := a
      have h0 := gcell 0 hp
      rw [List.getElem?_eq_getElem (by omega)] at h0
      have hspot : spot = none := by
        have := World.cell?_spot h0
        simpa [Addr.add] using this
      subst hspot
      refine ⟨b, o, cs', rfl, fun j v hj => ?_, hlen, h2⟩
      have hjl := (List.getElem?_eq_some_iff.1 hj).1
      have := hcell j (by omega)
      rw [hj, Go.WideShapes.add_plain, Go.WideShapes.add_plain] at this
      exact this
    · obtain ⟨i, hi⟩ := List.mem_iff_getElem?.1 hm
      obtain ⟨_, _, _, h⟩ := hy i y hi
      exact h
end
section
variable {H : Type} {enc : TypeId × Value → H} {w : World} {base : Nat} {spare : Nat → Bool} {held : Bool}
theorem op_int {t fuel : Nat} {cs : List Value} {x : DataW H × List MemPlace} (ht : Go.Proofs.Try.prog.underlying t = some (.int .i64)) (h : DataW.trod enc Go.Proofs.Try.prog w base spare held fuel t cs = some x) : ∃ n, cs = [.int .i64 n] ∧ In64 n := by
  obtain ⟨n, h1, _, h2⟩ := DataW.trod_int ht h
  exact ⟨n, h1, in64 h2⟩
theorem op_ints {fuel : Nat} {cs : List Value} {x : DataW H × List MemPlace} (h : DataW.trod enc Go.Proofs.Try.prog w base spare held fuel 34 cs = some x) : ∃ a n c ys, cs = [.slice a n c] ∧ n ≤ c ∧ RdI w a n ys ∧ I64s ys :=
  op_slice (R := RI .i64) (B := In64) Go.Proofs.Try.underlying34 (by kernel_rfl) (by omega) (fun fuel cs x hl h => let ⟨n, h1, h2⟩ := op_int Go.Proofs.Try.underlying3 h; ⟨n, h1, h2⟩) h
theorem fld {t fuel : Nat} {fs : Array Field} {cs : List Value} {x : DataW H × List MemPlace} (ht : Go.Proofs.Try.prog.underlying t = some (.struct fs)) (h : DataW.trod enc Go.Proofs.Try.prog w base spare held fuel t cs = some x) (i : Nat) (f : Field) (hf : fs[i]? = some f)
    (n : Nat) (hc : Go.Proofs.Try.prog.cellsOf f.type = n) : ∃ m y, DataW.trod enc Go.Proofs.Try.prog w base spare held m f.type ((cs.drop f.offset).take n) = some y := by
  obtain ⟨xs, m, _, _, _, hxl, hg⟩ := DataW.trod_struct ht h
  have := hg i f hf
  have hi := (Array.getElem?_eq_some_iff.1 hf).1
  rw [hc, List.getElem?_eq_getElem (by omega)] at this
  exact ⟨m, _, this⟩
theorem op_edge (fuel : Nat) (cs : List Value) (x : DataW H × List MemPlace) (hl : cs.length = 2) (h : DataW.trod enc Go.Proofs.Try.prog w base spare held fuel 41 cs = some x) : ∃ y, REdge w cs y ∧ y.I64 := by
  match cs, hl with
  | [c0, c1], _ =>
  obtain ⟨_, _, h0⟩ := fld Go.Proofs.Try.underlying41 h 0 _ rfl 1 (by kernel_rfl)
  obtain ⟨_, _, h1⟩ := fld Go.Proofs.Try.underlying41 h 1 _ rfl 1 (by kernel_rfl)
  obtain ⟨to, e0, b0⟩ := op_int Go.Proofs.Try.underlying3 h0
  obtain ⟨a, n, c, ys, e1, _, r1, b1⟩ := op_ints h1
  cases e0; cases e1
  exact ⟨⟨to, ys⟩, ⟨a, n, c, rfl, r1⟩, b0, b1⟩
theorem op_ins (fuel : Nat) (cs : List Value) (x : DataW H × List MemPlace) (hl : cs.length = 7) (h : DataW.trod enc Go.Proofs.Try.prog w base spare held fuel 37 cs = some x) : ∃ y, RIns w cs y ∧ y.I64 := by
  match cs, hl with
  | [c0, c1, c2, c3, c4, c5, c6], _ =>
  obtain ⟨_, _, h0⟩ := fld Go.Proofs.Try.underlying37 h 0 _ rfl 1 (by kernel_rfl)
  obtain ⟨_, _, h1⟩ := fld Go.Proofs.Try.underlying37 h 1 _ rfl 1 (by kernel_rfl)
  obtain ⟨_, _, h2⟩ := fld Go.Proofs.Try.underlying37 h 2 _ rfl 1 (by kernel_rfl)
  obtain ⟨_, _, h3⟩ := fld Go.Proofs.Try.underlying37 h 3 _ rfl 1 (by kernel_rfl)
  obtain ⟨_, _, h4⟩ := fld Go.Proofs.Try.underlying37 h 4 _ rfl 1 (by kernel_rfl)
  obtain ⟨_, _, h5⟩ := fld Go.Proofs.Try.underlying37 h 5 _ rfl 1 (by kernel_rfl)
  obtain ⟨_, _, h6⟩ := fld Go.Proofs.Try.underlying37 h 6 _ rfl 1 (by kernel_rfl)
  obtain ⟨x0, e0, b0⟩ := op_int Go.Proofs.Try.underlying33 h0
  obtain ⟨x1, e1, b1⟩ := op_int Go.Proofs.Try.underlying3 h1
  obtain ⟨a, n, c, ys, e2, hc, r2, b2⟩ := op_ints h2
  obtain ⟨x3, e3, b3⟩ := op_int Go.Proofs.Try.underlying2 h3
  obtain ⟨x4, e4, b4⟩ := op_int Go.Proofs.Try.underlying35 h4
  obtain ⟨x5, e5, b5⟩ := op_int Go.Proofs.Try.underlying3 h5
  obtain ⟨x6, e6, b6⟩ := op_int Go.Proofs.Try.underlying3 h6
  cases e0; cases e1; cases e2; cases e3; cases e4; cases e5; cases e6
  exact ⟨⟨x0, x1, ys, x3, x4, x5, x6⟩, ⟨a, n, c, rfl, r2, hc⟩, b0, b1, b2, b3, b4, b5, b6⟩
theorem op_block (fuel : Nat) (cs : List Value) (x : DataW H × List MemPlace) (hl : cs.length = 6) (h : DataW.trod enc Go.Proofs.Try.prog w base spare held fuel 47 cs = some x) : ∃ y, RBlock w cs y ∧ y.I64 := by
  match cs, hl with
  | [c0, c1, c2, c3, c4, c5], _ =>
  obtain ⟨_, _, h0⟩ := fld Go.Proofs.Try.underlying47 h 0 _ rfl 1 (by kernel_rfl)
  obtain ⟨_, _, h1⟩ := fld Go.Proofs.Try.underlying47 h 1 _ rfl 1 (by kernel_rfl)
  obtain ⟨_, _, h2⟩ := fld Go.Proofs.Try.underlying47 h 2 _ rfl 4 (by kernel_rfl)
  obtain ⟨_, _, g0⟩ := fld Go.Proofs.Try.underlying45 h2 0 _ rfl 1 (by kernel_rfl)
  obtain ⟨_, _, g1⟩ := fld Go.Proofs.Try.underlying45 h2 1 _ rfl 1 (by kernel_rfl)
  obtain ⟨_, _, g2⟩ := fld Go.Proofs.Try.underlying45 h2 2 _ rfl 1 (by kernel_rfl)
  obtain ⟨_, _, g3⟩ := fld Go.Proofs.Try.underlying45 h2 3 _ rfl 1 (by kernel_rfl)
  obtain ⟨ap, np, cp, ps, e0, _, r0, b0⟩ := op_ints h0
  obtain ⟨ai, ni, ci, is, e1, _, r1, b1⟩ := op_slice (R := RIns) (B := Ins.I64) Go.Proofs.Try.underlying38 (by kernel_rfl) (by omega) op_ins h1
  obtain ⟨kd, e2, b2⟩ := op_int Go.Proofs.Try.underlying39 g0
  obtain ⟨vl, e3, b3⟩ := op_int Go.Proofs.Try.underlying3 g1
  obtain ⟨ae, ne, ce, ws, e4, _, r4, b4⟩ := op_slice (R := REdge) (B := Edg.I64) Go.Proofs.Try.underlying42 (by kernel_rfl) (by omega) op_edge g2
  obtain ⟨tp, e5, b5⟩ := op_int Go.Proofs.Try.underlying43 g3
  cases e0; cases e1; cases e2; cases e3; cases e4; cases e5
  exact ⟨⟨ps, is, kd, vl, ws, tp⟩, ⟨ap, np, cp, ai, ni, ci, ae, ne, ce, rfl, r0, r1, r4⟩, b0, b1, b2, b3, b4, b5⟩
theorem op_func (fuel : Nat) (cs : List Value) (x : DataW H × List MemPlace) (hl : cs.length = 2) (h : DataW.trod enc Go.Proofs.Try.prog w base spare held fuel 29 cs = some x) : ∃ y, RFunc w cs y ∧ y.I64 := by
  match cs, hl with
  | [c0, c1], _ =>
  obtain ⟨_, _, h0⟩ := fld Go.Proofs.Try.underlying29 h 0 _ rfl 1 (by kernel_rfl)
  obtain ⟨_, _, h1⟩ := fld Go.Proofs.Try.underlying29 h 1 _ rfl 1 (by kernel_rfl)
  obtain ⟨nm, e0, _⟩ := DataW.trod_string Go.Proofs.Try.underlying9 h0
  obtain ⟨a, n, c, bs, e1, _, r1, b1⟩ := op_slice (R := RBlock) (B := Blk.I64) Go.Proofs.Try.underlying27 (by kernel_rfl) (by omega) op_block h1
  cases e0; cases e1
  exact ⟨⟨nm, bs⟩, ⟨a, n, c, rfl, r1⟩, b1⟩
theorem op_arr (fuel : Nat) (cs : List Value) (x : DataW H × List MemPlace) (hl : cs.length = 3) (h : DataW.trod enc Go.Proofs.Try.prog w base spare held fuel 25 cs = some x) : ∃ y, RArr w cs y ∧ y.I64 := by
  match cs, hl with
  | [c0, c1, c2], _ =>
  obtain ⟨_, _, h0⟩ := fld Go.Proofs.Try.underlying25 h 0 _ rfl 1 (by kernel_rfl)
  obtain ⟨_, _, h1⟩ := fld Go.Proofs.Try.underlying25 h 1 _ rfl 1 (by kernel_rfl)
  obtain ⟨_, _, h2⟩ := fld Go.Proofs.Try.underlying25 h 2 _ rfl 1 (by kernel_rfl)
  obtain ⟨nm, e0, _⟩ := DataW.trod_string Go.Proofs.Try.underlying9 h0
  obtain ⟨x1, e1, b1⟩ := op_int Go.Proofs.Try.underlying23 h1
  obtain ⟨x2, e2, b2⟩ := op_int Go.Proofs.Try.underlying3 h2
  cases e0; cases e1; cases e2
  exact ⟨⟨nm, x1, x2⟩, rfl, b1, b2⟩
theorem op_prog {v : Value} {d : DataW H} {ps : List MemPlace} (hv : ∃ cs : Array Value, v = .agg cs ∧ cs.size = 3) (h : DataW.Trod enc Go.Proofs.Try.prog w base spare held 32 v d ps) : ∃ vs p, v = .agg ⟨vs⟩ ∧ RProg w vs p ∧ p.I64 := by
  obtain ⟨cs, rfl, hs⟩ := hv
  obtain ⟨cs⟩ := cs
  obtain ⟨fuel, h⟩ := h
  have hl : cs.length = 3 := by simpa using hs
  have h : DataW.trod enc Go.Proofs.Try.prog w base spare held fuel 32 cs = some (d, ps) := h
  match cs, hl with
  | [c0, c1, c2], _ =>
  obtain ⟨_, _, h0⟩ := fld Go.Proofs.Try.underlying32 h 0 _ rfl 1 (by kernel_rfl)
  obtain ⟨_, _, h1⟩ := fld Go.Proofs.Try.underlying32 h 1 _ rfl 1 (by kernel_rfl)
  obtain ⟨_, _, h2⟩ := fld Go.Proofs.Try.underlying32 h 2 _ rfl 1 (by kernel_rfl)
  obtain ⟨aa, na, ca, ar, e0, _, r0, b0⟩ := op_slice (R := RArr) (B := Arr.I64) Go.Proofs.Try.underlying26 (by kernel_rfl) (by omega) op_arr h0
  obtain ⟨af, nf, cf, fs, e1, _, r1, b1⟩ := op_slice (R := RFunc) (B := Fnc.I64) Go.Proofs.Try.underlying30 (by kernel_rfl) (by omega) op_func h1
  obtain ⟨mn, e2, b2⟩ := op_int Go.Proofs.Try.underlying3 h2
  cases e0; cases e1; cases e2
  exact ⟨_, ⟨ar, fs, mn⟩, rfl, ⟨aa, na, ca, af, nf, cf, rfl, r0, r1⟩, b0, b1, b2⟩
end
end Go.Pl

/- What stays of the arguments behind a call that makes new blocks alone. -/
namespace Go.Pl
set_option linter.unusedVariables false
theorem ext_keptB {w w' : World} (h : Ext w w') (may : MemPlace → Prop) : w.keptBut w' may := by
  refine ⟨h.os, h.out, fun i hi => ?_⟩
  rw [h.blk i hi]
  split
  · rename_i h1 h2
    rw [h1] at h2
    cases h2
    exact ⟨rfl, rfl, rfl, fun _ _ => rfl⟩
  · rename_i h1 h2
    rw [h1] at h2
    cases h2
    exact .inr ⟨rfl, rfl⟩
  · rfl
section
variable {H : Type} {enc : TypeId × Value → H} {P : Program} {base : Nat} {spare : Nat → Bool} {held : Bool}
theorem trodAll_ext {w w' : World} (hx : Ext w w') : ∀ {ts : List TypeId} {vs : List Value} {ds : List (DataW H)} {ps : List MemPlace}, DataW.TrodAll enc P w base spare held ts vs ds ps → DataW.TrodAll enc P w' base spare held ts vs ds ps
  | [], [], [], _, h => h
  | _ :: _, _ :: _, _ :: _, _, ⟨p, q, h1, h2, e⟩ => ⟨p, q, trod_ext hx h1, trodAll_ext hx h2, e⟩
end
theorem kidsA : Kids Go.Proofs.Try.prog (· < Go.Proofs.Try.prog.types.size) := kids_rows (by kernel_rfl) (by kernel_rfl)
theorem fullA : ∀ t e, t < Go.Proofs.Try.prog.types.size → Go.Proofs.Try.prog.underlying t = some (.slice e) → 0 < Go.Proofs.Try.prog.cellsOf e := slices_full_of _ (by kernel_rfl)
theorem args_again {H : Type} {enc : TypeId × Value → H} {w w' : World} (hx : Ext w w') {ts : List TypeId} {vs : List Value} {ds : List (DataW H)} {ps : List MemPlace} (ht : ∀ t ∈ ts, t < Go.Proofs.Try.prog.types.size) (h : DataW.TrodAll enc Go.Proofs.Try.prog w 0 (fun _ => true) true ts vs ds ps) :
    DataW.TrodAll enc Go.Proofs.Try.prog w' 0 (fun b => decide (b < w.heap.size)) true ts vs ds ps :=
  DataW.TrodAll.respare kidsA fullA ht (trodAll_ext hx h) fun p hp => by simpa using DataW.TrodAll.lt h p hp
theorem prog_wide {w : World} {r : Reach} {b : Nat} {v : Value} (h : Value.okWide Go.Proofs.Try.prog w r b 32 v) : ∃ cs : Array Value, v = .agg cs ∧ cs.size = 3 := by
  unfold Value.okWide at h
  rw [Go.Proofs.Try.underlying32] at h
  obtain ⟨cs, h1, h2, _⟩ := h
  have k : Go.Proofs.Try.prog.cellsOf 32 = 3 := by kernel_rfl
  rw [k] at h2
  exact ⟨cs, h1, h2⟩
end Go.Pl
