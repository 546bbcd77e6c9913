/- Joined texts of the proof, part 5: F32, F58, F59, WSsa1, F26, F27, F30, F29, WSsa2, Model3. -/
import Derived.Test.YtbacmadoenicnaaQ04
set_option maxRecDepth 2000
set_option linter.unusedVariables false
set_option linter.unusedSimpArgs false
set_option linter.unusedSectionVars false
/- What 'palings/ssa.used' does, read off its translation by gen.py. -/
namespace Go.Pl.Try
set_option linter.unusedVariables false
set_option maxRecDepth 100000
def F32 (x1 : Option Nat) (ax2 : Option Addr) (nx2 cx2 : Nat) (ax3 : Option Addr) (nx3 cx3 : Nat) (x4 : Int) (x5 : Int) (ax6 : Option Addr) (nx6 cx6 : Nat) (x7 : Int) (w : World) (R : Value → World → Prop) : Prop :=
  AlP 47 [.slice ax2 nx2 cx2, .slice ax3 nx3 cx3, .int .i64 x4, .int .i64 x5, .slice ax6 nx6 cx6, .int .i64 x7] w fun b8 w9 =>
  AlM w9 fun b10 w11 =>
  AlP 56 [.map none] w11 fun b12 w13 =>
  StP b12 0 [.map (some b10)] w13 fun w14 =>
  ∃ (x15 : Option Addr), ∃ w16 : World, Sem.run Pg (Instr.range 56 (.map x1)) w14 = .ok (.pointer x15) w16 ∧
  ∃ J17 : World → Nat → Prop, (∃ m19, J17 w16 m19) ∧
  ∀ w18 m19, J17 w18 m19 →
  (∃ w21 : World, Sem.run Pg (Instr.next (.pointer x15) false 0) w18 = .ok (.tuple ⟨[.bool false]⟩) w21 ∧
  ∃ (ax29 : Option Addr) (nx29 cx29 : Nat), cel w21 b8 0 = some (.slice ax29 nx29 cx29) ∧
  ∃ J30 : Int → World → Nat → Prop, (∃ m33, J30 0 w21 m33) ∧
  ∀ (x31 : Int), ∀ w32 m33, J30 x31 w32 m33 →
  sp (decide ((x31 : Int) < (nx29 : Nat)))
  (0 ≤ (x31 : Int) ∧ (x31 : Int) < (nx29 : Nat) ∧
  ptAt ax29 fun b35 o36 =>
  ∃ (x37 : Int), cel w32 b35 (o36 + x31.toNat * 1) = some (.int .i64 x37) ∧
  ∃ (x38 : Option Nat), cel w32 b12 0 = some (.map x38) ∧
  ∃ w39 : World, Sem.run Pg (Instr.mapUpdate 56 (.map x38) (.int .i64 x37) (.bool true)) w32 = .ok () w39 ∧
  ∃ m34, m34 < m33 ∧ J30 (IntKind.wrap .i64 (x31 + 1)) w39 m34)
  (∃ (ax40 : Option Addr) (nx40 cx40 : Nat), cel w32 b8 1 = some (.slice ax40 nx40 cx40) ∧
  ∃ J41 : Int → World → Nat → Prop, (∃ m44, J41 0 w32 m44) ∧
  ∀ (x42 : Int), ∀ w43 m44, J41 x42 w43 m44 →
  sp (decide ((x42 : Int) < (nx40 : Nat)))
  (∀ K46 : World → Prop, (∀ w47, (
  ∃ m45, m45 < m44 ∧ J41 (IntKind.wrap .i64 (x42 + 1)) w47 m45) → K46 w47) →
  0 ≤ (x42 : Int) ∧ (x42 : Int) < (nx40 : Nat) ∧
  ptAt ax40 fun b48 o49 =>
  ∃ (x50 : Int) (x51 : Int) (ax52 : Option Addr) (nx52 cx52 : Nat) (x53 : Int) (x54 : Int) (x55 : Int) (x56 : Int), Row w43 b48 (o49 + x42.toNat * 7) [.int .i64 x50, .int .i64 x51, .slice ax52 nx52 cx52, .int .i64 x53, .int .i64 x54, .int .i64 x55, .int .i64 x56] ∧
  AlP 37 [.int .i64 0, .int .i64 0, .slice none 0 0, .int .i64 0, .int .i64 0, .int .i64 0, .int .i64 0] w43 fun b57 w58 =>
  StP b57 0 [.int .i64 x50, .int .i64 x51, .slice ax52 nx52 cx52, .int .i64 x53, .int .i64 x54, .int .i64 x55, .int .i64 x56] w58 fun w59 =>
  ∃ (ax60 : Option Addr) (nx60 cx60 : Nat), cel w59 b57 2 = some (.slice ax60 nx60 cx60) ∧
  CallV Pg (.func (.func 58) ⟨[]⟩ ⟨[.pointer (some ⟨b12, 0, none⟩)]⟩) [.slice ax60 nx60 cx60] w59 fun v61 w62 => ∃ (x63 : Bool), v61 = .bool x63 ∧
  sp (!x63)
  (R (.bool false) w62)
  (∃ (x64 : Int), cel w62 b57 1 = some (.int .i64 x64) ∧
  sp (!decide ((x64 : Int) = 0))
  (∃ (x65 : Option Nat), cel w62 b12 0 = some (.map x65) ∧
  ∃ (x66 : Int), cel w62 b57 1 = some (.int .i64 x66) ∧
  ∃ w67 : World, Sem.run Pg (Instr.mapUpdate 56 (.map x65) (.int .i64 x66) (.bool true)) w62 = .ok () w67 ∧
  K46 w67)
  (K46 w62)))
  (∃ (ax68 : Option Addr) (nx68 cx68 : Nat), cel w43 b8 4 = some (.slice ax68 nx68 cx68) ∧
  ∃ J69 : Int → World → Nat → Prop, (∃ m72, J69 0 w43 m72) ∧
  ∀ (x70 : Int), ∀ w71 m72, J69 x70 w71 m72 →
  sp (decide ((x70 : Int) < (nx68 : Nat)))
  (0 ≤ (x70 : Int) ∧ (x70 : Int) < (nx68 : Nat) ∧
  ptAt ax68 fun b74 o75 =>
  ∃ (x76 : Int) (ax77 : Option Addr) (nx77 cx77 : Nat), Row w71 b74 (o75 + x70.toNat * 2) [.int .i64 x76, .slice ax77 nx77 cx77] ∧
  AlP 41 [.int .i64 0, .slice none 0 0] w71 fun b78 w79 =>
  StP b78 0 [.int .i64 x76, .slice ax77 nx77 cx77] w79 fun w80 =>
  ∃ (ax81 : Option Addr) (nx81 cx81 : Nat), cel w80 b78 1 = some (.slice ax81 nx81 cx81) ∧
  CallV Pg (.func (.func 58) ⟨[]⟩ ⟨[.pointer (some ⟨b12, 0, none⟩)]⟩) [.slice ax81 nx81 cx81] w80 fun v82 w83 => ∃ (x84 : Bool), v82 = .bool x84 ∧
  sp (!x84)
  (R (.bool false) w83)
  (∃ m73, m73 < m72 ∧ J69 (IntKind.wrap .i64 (x70 + 1)) w83 m73))
  (∃ (x85 : Int), cel w71 b8 3 = some (.int .i64 x85) ∧
  sp (decide ((x85 : Int) = 0))
  (R (.bool true) w71)
  (∃ (x86 : Option Nat), cel w71 b12 0 = some (.map x86) ∧
  ∃ (x87 : Int), cel w71 b8 3 = some (.int .i64 x87) ∧
  ∃ (x88 : Bool), Sem.run Pg (Instr.lookup 56 (.map x86) (.int .i64 x87) false) w71 = .ok (.bool x88) w71 ∧
  R (.bool x88) w71))))) ∨
  (∃ (k23 v24 : Value) (w22 : World), Sem.run Pg (Instr.next (.pointer x15) false 0) w18 = .ok (.tuple ⟨[.bool true, k23, v24]⟩) w22 ∧
  ∃ (x89 : Int) (x90 : Bool), Sem.run Pg (Instr.entry (.pointer x15)) w22 = .ok (.tuple ⟨[.int .i64 x89, .bool x90]⟩) w22 ∧
  ∃ (x91 : Option Nat), cel w22 b12 0 = some (.map x91) ∧
  ∃ w92 : World, Sem.run Pg (Instr.mapUpdate 56 (.map x91) (.int .i64 x89) (.bool true)) w22 = .ok () w92 ∧
  ∃ m20, m20 < m19 ∧ J17 w92 m20)
def T32 : List Sh := [.v (.one .map), .v (.agg [.sl, .sl, (.int .i64), (.int .i64), .sl, (.int .i64)]), .v (.one .any), .v (.one .ptr), .v (.one .bool), .v (.one .ptr), .v (.one (.int .i64)), .v (.one .any), .v (.one (.int .i64)), .v (.one .any), .v (.one .any), .v (.one .ptr), .v (.one .any), .v (.one .ptr), .v (.one .map), .v (.one .map), .v (.one .ptr), .v (.one .any), .v (.one .bool), .t [(.one (.int .i64)), (.one .bool)], .v (.one (.int .i64)), .v (.one .map), .v (.one (.int .i64)), .v (.one .ptr), .v (.one .sl), .v (.one (.int .i64)), .v (.one (.int .i64)), .v (.one .bool), .v (.one .ptr), .v (.one (.int .i64)), .v (.one .map), .v (.one (.int .i64)), .v (.one (.int .i64)), .v (.one .any), .v (.one .ptr), .v (.one .sl), .v (.one (.int .i64)), .v (.one (.int .i64)), .v (.one .bool), .v (.one .ptr), .v (.agg [(.int .i64), (.int .i64), .sl, (.int .i64), (.int .i64), (.int .i64), (.int .i64)]), .v (.one .any), .v (.one .ptr), .v (.one .sl), .v (.one .bool), .v (.one .bool), .v (.one .ptr), .v (.one (.int .i64)), .v (.one .bool), .v (.one .map), .v (.one .ptr), .v (.one (.int .i64)), .v (.one (.int .i64)), .v (.one .ptr), .v (.one .ptr), .v (.one .sl), .v (.one (.int .i64)), .v (.one (.int .i64)), .v (.one .bool), .v (.one .ptr), .v (.agg [(.int .i64), .sl]), .v (.one .any), .v (.one .ptr), .v (.one .sl), .v (.one .bool), .v (.one .bool), .v (.one (.int .i64)), .v (.one .ptr), .v (.one .ptr), .v (.one (.int .i64)), .v (.one .bool), .v (.one .bool), .v (.one .map), .v (.one .ptr), .v (.one .ptr), .v (.one (.int .i64)), .v (.one .bool), .v (.one .bool)]
def A32 : Ann := (.seq none .z (.seq none .z (.seq none (.seq none .z (.block none (.loop [] (.seq none .z (.seq none (.cond .z .z) (.block none (.seq none .z .z))))))) (.seq none (.seq none .z (.block none (.loop [26] (.seq none .z (.seq none (.cond .z .z) (.seq none (.block none (.seq none .z .z)) .z)))))) (.seq none .z (.seq none (.seq none .z (.block none (.loop [37] (.seq none .z (.seq none (.cond .z .z) (.seq none (.block (some []) (.seq none .z (.seq none (.seq none .z (.cond (.seq none .z .z) .z)) (.seq none .z (.cond .z .z))))) .z)))))) (.seq none (.seq none .z (.block none (.loop [57] (.seq none .z (.seq none (.cond .z .z) (.seq none (.block none (.seq none .z (.seq none .z (.cond (.seq none .z .z) .z)))) .z)))))) (.seq none .z .z))))))))
theorem F32_eq (x1 : Option Nat) (ax2 : Option Addr) (nx2 cx2 : Nat) (ax3 : Option Addr) (nx3 cx3 : Nat) (x4 : Int) (x5 : Int) (ax6 : Option Addr) (nx6 cx6 : Nat) (x7 : Int) (w : World) (R : Value → World → Prop) : F32 x1 ax2 nx2 cx2 ax3 nx3 cx3 x4 x5 ax6 nx6 cx6 x7 w R = denF Go.Proofs.Try.prog T32 Go.Proofs.Try.f32 A32 [.map x1, .agg ⟨[.slice ax2 nx2 cx2, .slice ax3 nx3 cx3, .int .i64 x4, .int .i64 x5, .slice ax6 nx6 cx6, .int .i64 x7]⟩] w R := by kernel_rfl
theorem F32_ok (x1 : Option Nat) (ax2 : Option Addr) (nx2 cx2 : Nat) (ax3 : Option Addr) (nx3 cx3 : Nat) (x4 : Int) (x5 : Int) (ax6 : Option Addr) (nx6 cx6 : Nat) (x7 : Int) {w : World} {R : Value → World → Prop} (h : F32 x1 ax2 nx2 cx2 ax3 nx3 cx3 x4 x5 ax6 nx6 cx6 x7 w R) : CallP Go.Proofs.Try.prog 32 [.map x1, .agg ⟨[.slice ax2 nx2 cx2, .slice ax3 nx3 cx3, .int .i64 x4, .int .i64 x5, .slice ax6 nx6 cx6, .int .i64 x7]⟩] w R :=
  calls_den (fun _ => drawn (by kernel_rfl)) Go.Proofs.Try.func32 (Nat.le_of_ble_eq_true (by kernel_rfl)) ((F32_eq x1 ax2 nx2 cx2 ax3 nx3 cx3 x4 x5 ax6 nx6 cx6 x7 w R).mp h)
end Go.Pl.Try

/- What 'palings/ssa.used$1' does, read off its translation by gen.py. -/
namespace Go.Pl.Try
set_option linter.unusedVariables false
set_option maxRecDepth 100000
def F58 (alist1 : Option Addr) (nlist1 clist1 : Nat) (b2 : Nat) (o3 : Nat) (w : World) (R : Value → World → Prop) : Prop :=
  CallP Pg 41 [.slice alist1 nlist1 clist1, .func (.func 59) ⟨[]⟩ ⟨[.pointer (some ⟨b2, o3, none⟩)]⟩] w fun v4 w5 => ∃ (x6 : Bool), v4 = .bool x6 ∧
  R (.bool (!x6)) w5
def T58 : List Sh := [.v (.one .sl), .v (.one .ptr), .v (.one .any), .v (.one .bool), .v (.one .sl), .v (.one .any), .v (.one .bool), .v (.one .bool)]
def A58 : Ann := (.seq none .z (.seq none .z .z))
theorem F58_eq (alist1 : Option Addr) (nlist1 clist1 : Nat) (b2 : Nat) (o3 : Nat) (w : World) (R : Value → World → Prop) : F58 alist1 nlist1 clist1 b2 o3 w R = denF Go.Proofs.Try.prog T58 Go.Proofs.Try.f58 A58 [.slice alist1 nlist1 clist1, .pointer (some ⟨b2, o3, none⟩)] w R := by kernel_rfl
theorem F58_ok (alist1 : Option Addr) (nlist1 clist1 : Nat) (b2 : Nat) (o3 : Nat) {w : World} {R : Value → World → Prop} (h : F58 alist1 nlist1 clist1 b2 o3 w R) : CallP Go.Proofs.Try.prog 58 [.slice alist1 nlist1 clist1, .pointer (some ⟨b2, o3, none⟩)] w R :=
  calls_den (fun _ => drawn (by kernel_rfl)) Go.Proofs.Try.func58 (Nat.le_of_ble_eq_true (by kernel_rfl)) ((F58_eq alist1 nlist1 clist1 b2 o3 w R).mp h)
end Go.Pl.Try

/- What 'palings/ssa.used$1$1' does, read off its translation by gen.py. -/
namespace Go.Pl.Try
set_option linter.unusedVariables false
set_option maxRecDepth 100000
def F59 (v1 : Int) (b2 : Nat) (o3 : Nat) (w : World) (R : Value → World → Prop) : Prop :=
  ∃ (x4 : Option Nat), cel w b2 o3 = some (.map x4) ∧
  ∃ (x5 : Bool), Sem.run Pg (Instr.lookup 56 (.map x4) (.int .i64 v1) false) w = .ok (.bool x5) w ∧
  R (.bool (!x5)) w
def T59 : List Sh := [.v (.one (.int .i64)), .v (.one .ptr), .v (.one .any), .v (.one .bool), .v (.one .map), .v (.one (.int .i64)), .v (.one .bool), .v (.one .bool)]
def A59 : Ann := (.seq none .z (.seq none .z .z))
theorem F59_eq (v1 : Int) (b2 : Nat) (o3 : Nat) (w : World) (R : Value → World → Prop) : F59 v1 b2 o3 w R = denF Go.Proofs.Try.prog T59 Go.Proofs.Try.f59 A59 [.int .i64 v1, .pointer (some ⟨b2, o3, none⟩)] w R := by kernel_rfl
theorem F59_ok (v1 : Int) (b2 : Nat) (o3 : Nat) {w : World} {R : Value → World → Prop} (h : F59 v1 b2 o3 w R) : CallP Go.Proofs.Try.prog 59 [.int .i64 v1, .pointer (some ⟨b2, o3, none⟩)] w R :=
  calls_den (fun _ => drawn (by kernel_rfl)) Go.Proofs.Try.func59 (Nat.le_of_ble_eq_true (by kernel_rfl)) ((F59_eq v1 b2 o3 w R).mp h)
end Go.Pl.Try

/- What is known ahead of a block, and what is used: walked. -/
namespace Go.Pl
theorem go_keep {w0 w1 w2 : World} {p : Option Nat} {f : Int → Option Value} {m left : List (Int × Value)} {oi : Obj} (hp : RMap w0 p f) (h1 : Ext w0 w1) (h2 : Ext w0 w2) (h : Going w1 p m left oi) : Going w2 p m left oi := by
  cases p with
  | none => exact h
  | some b =>
    obtain ⟨o, hb, -⟩ := hp
    have hlt := (Array.getElem?_eq_some_iff.1 hb).1
    obtain ⟨om, hb1, hr⟩ := h
    exact ⟨om, by rw [h2.blk b hlt, ← h1.blk b hlt]; exact hb1, hr⟩
def setF (l : List Int) : Int → Option Value := fun k => if k ∈ l then some (.bool true) else none
theorem setF_congr {a b : List Int} (h : ∀ k, k ∈ a ↔ k ∈ b) (k : Int) : setF a k = setF b k := by simp [setF, h k]
theorem setF_add (l : List Int) (k x : Int) : (if x = k then some (Value.bool true) else setF l x) = setF (l ++ [k]) x := by
  unfold setF
  by_cases h : x = k <;> simp [h]
theorem MapO.add {l : List Int} {k : Int} {o : Obj} (h : MapO (fun x => if x = k then some (Value.bool true) else setF l x) o) : MapO (setF (l ++ [k])) o := h.congr fun x => setF_add l k x
theorem setF_nil : MapO (setF []) (.map #[] 0) := MapO.empty.congr fun k => by simp [setF]
theorem getD_setF (l : List Int) (k : Int) : (setF l k).getD (.bool false) = .bool (decide (k ∈ l)) := by unfold setF; by_cases h : k ∈ l <;> simp [h]
end Go.Pl
namespace Go.Pl.Try
open M
set_option linter.unusedVariables false
theorem mpBool : mpT Pg 56 4 = true := by kernel_rfl
theorem mpEnds : mpT Pg 133 3 = true := by kernel_rfl
theorem zI : zeroOf Pg 3 = some (.int .i64 0) := by kernel_rfl
theorem zB : zeroOf Pg 4 = some (.bool false) := by kernel_rfl
theorem dsts_step {is : List Ins} {j : Nat} {i : Ins} (h : is[j]? = some i) : dsts (is.take (j + 1)) = dsts (is.take j) ++ (if i.dst = 0 then [] else [i.dst]) := by
  rw [List.take_add_one, h]
  unfold dsts
  by_cases h0 : i.dst = 0 <;> simp [h0]
theorem mem_keys {m : List (Int × Value)} {S : List Int} (h : ∀ k, mget m k = setF S k) (k : Int) : k ∈ m.map Prod.fst ↔ k ∈ S := by
  have := h k
  constructor
  · intro hk
    obtain ⟨p, hp, rfl⟩ := List.mem_map.1 hk
    by_cases hs : p.1 ∈ S
    · exact hs
    · simp only [setF, hs, if_false] at this
      exact absurd rfl (mget_none.1 this p hp)
  · intro hs
    simp only [setF, hs, if_true] at this
    exact List.mem_map.2 ⟨_, mem_of_mget this, rfl⟩
theorem after_w {w : World} {p : Option Nat} {S : List Int} {vs : List Value} {b : Blk} (hp : RMap w p (setF S)) (hb : RBlock w vs b) :
    CallP Pg 56 [.map p, .agg ⟨vs⟩] w fun v w' => ∃ r o, v = .map (some r) ∧ MapO (setF (after S b)) o ∧ Hp w w' [(r, o)] := by
  obtain ⟨ap, np, cp, ai, ni, ci, ae, ne, ce, rfl, hpa, hia, hea⟩ := hb
  refine F56_ok _ _ _ _ _ _ _ _ _ _ _ _ _ ?_
  unfold F56
  refine alp (Hp.refl w) fun b8 w9 h9 => ?_
  refine alm h9 fun b10 w11 h11 => ?_
  obtain ⟨r, w13, oi, m, hrun, h13, hg, hget, hnd, hx13, hne⟩ := go_range mpBool h11 (hp.ext h11.ext)
  refine ⟨_, w13, hrun, ?_⟩
  refine ⟨fun w' c => ∃ oi' left done o, Hp w w' [(r, oi'), (b10, o), (b8, Cl 47 [.slice ap np cp, .slice ai ni ci, .int .i64 b.fin.kind, .int .i64 b.fin.val, .slice ae ne ce, .int .i64 b.fin.trap])] ∧ Going w' p m left oi' ∧
    MapO (setF done) o ∧ (∀ k, k ∈ S ↔ k ∈ done ∨ k ∈ left.map Prod.fst) ∧ c = left.length, ⟨m.length, oi, m, [], _, h13, hg, setF_nil, fun k => by rw [← mem_keys hget k]; simp, rfl⟩, ?_⟩
  rintro w15 c ⟨oi', left, done, o, h15, hg15, ho, hS, rfl⟩
  rcases go_next (P := Pg) (ty := 0) h15 0 rfl hne hg15 with ⟨rfl, hn⟩ | ⟨k, v, left', w16, oi2, hperm, hn, h16, hg16, hkm, hent, -, -⟩
  · left
    have ho' : MapO (setF S) o := ho.congr (setF_congr fun k => by rw [hS k]; simp)
    refine ⟨w15, hn, _, _, _, h15.cl 2 rfl rfl, ?_⟩
    refine ⟨fun i w' c => ∃ (j : Nat) (o : Obj), i = j ∧ j ≤ np ∧ c = np - j ∧ Hp w w' [(r, oi'), (b10, o), (b8, Cl 47 [.slice ap np cp, .slice ai ni ci, .int .i64 b.fin.kind, .int .i64 b.fin.val, .slice ae ne ce, .int .i64 b.fin.trap])] ∧
      MapO (setF (S ++ b.params.take j)) o, ⟨np, 0, o, rfl, by omega, by omega, h15, by simpa using ho'⟩, ?_⟩
    have hpl := hpa.len
    have hple := hpa.le
    rintro i w28 c ⟨j, o1, rfl, hj, rfl, h28, ho1⟩
    refine sp_dec (fun hlt => ?_) (fun hge => ?_)
    · have hjn : j < np := by omega
      have hx : b.params[j]? = some b.params[j] := List.getElem?_eq_getElem (by omega)
      obtain ⟨bb, ob, ha, hc⟩ := RdI.at hpa hx
      obtain ⟨w34, o2, hu, ho2, h34⟩ := upd_map mpBool h28 1 rfl ho1 b.params[j] (.bool true)
      refine ⟨by omega, by omega, ptAt_of ha ⟨_, h28.ext.cel hc, w34, hu, np - (j + 1), by omega, j + 1, o2, wrap_succ (by omega), by omega, rfl, h34, ?_⟩⟩
      have := ho2.add
      rw [List.take_add_one, hx]
      simpa using this
    · have hjn : j = np := by omega
      subst hjn
      rw [List.take_of_length_le (by omega)] at ho1
      refine ⟨_, _, _, h28.cl 2 rfl rfl, ?_⟩
      refine ⟨fun i w' c => ∃ (j' : Nat) (o : Obj), i = j' ∧ j' ≤ ni ∧ c = ni - j' ∧ Hp w w' [(r, oi'), (b10, o), (b8, Cl 47 [.slice ap j cp, .slice ai ni ci, .int .i64 b.fin.kind, .int .i64 b.fin.val, .slice ae ne ce, .int .i64 b.fin.trap])] ∧
        MapO (setF (S ++ b.params ++ dsts (b.ins.take j'))) o, ⟨ni, 0, o1, rfl, by omega, by omega, h28, by simpa [dsts] using ho1⟩, ?_⟩
      have hil := hia.len
      have hile := hia.le
      rintro i w38 c ⟨j', o2, rfl, hj', rfl, h38, ho2⟩
      refine sp_dec (fun hlt => ?_) (fun hge => ?_)
      · intro K hK
        have hx : b.ins[j']? = some b.ins[j'] := List.getElem?_eq_getElem (by omega)
        generalize b.ins[j'] = x at hx
        obtain ⟨bb, ob, vs, ha, hrow, hvl, aa, na, ca, rfl, hargs⟩ := hia.at_ _ _ hx
        refine ⟨by omega, by omega, ptAt_of ha ⟨_, _, _, _, _, _, _, _, _, h38.ext.row hrow, ?_⟩⟩
        refine alp h38 fun b52 w53 h53 => ?_
        refine stp h53 0 rfl (by simp) rfl fun w54 h54 => ?_
        have hds := dsts_step hx
        refine ⟨_, h54.cl 0 rfl rfl, ?_⟩
        refine sp_of (fun h0 => ?_) (fun h0 => ?_)
        · have h0' : x.dst ≠ 0 := by simpa using h0
          obtain ⟨w57, o3, hu, ho3, h57⟩ := upd_map mpBool h54 2 rfl ho2 x.dst (.bool true)
          refine ⟨_, h54.cl 0 rfl rfl, w57, hu, hK _ ⟨ni - (j' + 1), by omega, j' + 1, o3, wrap_succ (by omega), by omega, rfl, h57.drop 1, ?_⟩⟩
          rw [hds, if_neg h0', ← List.append_assoc]
          exact ho3.add
        · have h0' : x.dst = 0 := by simpa using h0
          refine hK _ ⟨ni - (j' + 1), by omega, j' + 1, o2, wrap_succ (by omega), by omega, rfl, h54.drop 1, ?_⟩
          rw [hds, if_pos h0', List.append_nil]
          exact ho2
      · have : j' = ni := by omega
        subst this
        rw [List.take_of_length_le (by omega)] at ho2
        refine ⟨b10, o2, rfl, ?_, h38.sub (by simp)⟩
        simpa [after, Blk.made] using ho2
  · right
    have hv : v = .bool true := by
      have h1 := mget_mem hnd hkm
      rw [hget] at h1
      unfold setF at h1
      split at h1
      · cases h1; rfl
      · cases h1
    subst hv
    obtain ⟨w17, o2, hu, ho2, h17⟩ := upd_map mpBool h16 1 rfl ho k (.bool true)
    refine ⟨_, _, w16, hn, k, true, hent, w17, hu, left'.length, by rw [hperm.length_eq]; simp, oi2, left', done ++ [k], o2, h17, go_keep hp h16.ext h17.ext hg16, ho2.add, ?_, rfl⟩
    intro x
    rw [hS x, (hperm.map Prod.fst).mem_iff]
    simp only [List.map_cons, List.mem_cons, List.mem_append, List.mem_singleton, List.not_mem_nil, or_false]
    exact or_assoc.symm
theorem used11_w {w : World} {b o : Nat} {p : Option Nat} {S : List Int} (v : Int) (hc : cel w b o = some (.map p)) (hp : RMap w p (setF S)) :
    CallP Pg 59 [.int .i64 v, .pointer (some ⟨b, o, none⟩)] w fun r w' => r = .bool (!decide (v ∈ S)) ∧ w' = w := by
  refine F59_ok _ _ _ ⟨_, hc, decide (v ∈ S), ?_, rfl, rfl⟩
  rw [look_map mpBool zB hp, getD_setF]
theorem used1_w {w : World} {b o : Nat} {p : Option Nat} {S : List Int} {a : Option Addr} {n c : Nat} {xs : List Int} (h : RdI w a n xs) (hc : cel w b o = some (.map p)) (hp : RMap w p (setF S)) :
    CallP Pg 58 [.slice a n c, .pointer (some ⟨b, o, none⟩)] w fun r w' => r = .bool (xs.all fun v => decide (v ∈ S)) ∧ Ext w w' := by
  refine F58_ok _ _ _ _ _ ?_
  refine (hasInt_w (fun v => !decide (v ∈ S)) h ?_).mono ?_
  · intro x _ w1 hx
    refine ⟨by kernel_rfl, ?_⟩
    exact (used11_w x (hx.cel hc) (hp.ext hx)).mono fun v w' ⟨h1, h2⟩ => ⟨h1, by rw [h2]; exact Ext.refl _⟩
  · rintro v w' ⟨rfl, hx⟩
    refine ⟨_, rfl, ?_, hx⟩
    rw [List.any_eq_not_all_not]
    simp
theorem usedIns_mem {a b : List Int} (h : ∀ k, k ∈ a ↔ k ∈ b) : ∀ is, usedIns a is = usedIns b is := by
  intro is
  induction is generalizing a b with
  | nil => rfl
  | cons i is ih =>
    simp only [usedIns]
    have h1 : (i.args.all fun v => decide (v ∈ a)) = (i.args.all fun v => decide (v ∈ b)) := by congr 1; funext v; simp [h v]
    rw [h1]
    congr 1
    by_cases h0 : i.dst = 0
    · simp only [h0, if_true]; exact ih h
    · simp only [h0, if_false]; exact ih fun k => by simp [h k]
theorem used_w {w : World} {p : Option Nat} {S : List Int} {vs : List Value} {b : Blk} (hp : RMap w p (setF S)) (hb : RBlock w vs b) :
    CallP Pg 32 [.map p, .agg ⟨vs⟩] w fun v w' => v = .bool (used S b) ∧ Ext w w' := by
  obtain ⟨ap, np, cp, ai, ni, ci, ae, ne, ce, rfl, hpa, hia, hea⟩ := hb
  refine F32_ok _ _ _ _ _ _ _ _ _ _ _ _ _ ?_
  unfold F32
  refine alp (Hp.refl w) fun b8 w9 h9 => ?_
  refine alm h9 fun b10 w11 h11 => ?_
  refine alp h11 fun b12 w13 h13 => ?_
  refine stp h13 0 rfl (by simp) rfl fun w14 h14 => ?_
  have hpl := hpa.len
  have hple := hpa.le
  have hil := hia.len
  have hile := hia.le
  have hel := hea.len
  have hele := hea.le
  obtain ⟨r, w16, oi, m, hrun, h16, hg, hget, hnd, hx16, hne⟩ := go_range mpBool h14 (hp.ext h14.ext)
  refine ⟨_, w16, hrun, ?_⟩
  generalize hbx : Cl 47 [.slice ap np cp, .slice ai ni ci, .int .i64 b.fin.kind, .int .i64 b.fin.val, .slice ae ne ce, .int .i64 b.fin.trap] = box at *
  refine ⟨fun w' c => ∃ oi' left done o, Hp w w' [(r, oi'), (b12, Cl 56 [.map (some b10)]), (b10, o), (b8, box)] ∧ Going w' p m left oi' ∧
    MapO (setF done) o ∧ (∀ k, k ∈ S ↔ k ∈ done ∨ k ∈ left.map Prod.fst) ∧ c = left.length, ⟨m.length, oi, m, [], _, h16, hg, setF_nil, fun k => by rw [← mem_keys hget k]; simp, rfl⟩, ?_⟩
  rintro w15 c ⟨oi', left, done, o, h15, hg15, ho, hS, rfl⟩
  rcases go_next (P := Pg) (ty := 0) h15 0 rfl hne hg15 with ⟨rfl, hn⟩ | ⟨k, v, left', w16, oi2, hperm, hn, h16, hg16, hkm, hent, -, -⟩
  · left
    have ho' : MapO (setF S) o := ho.congr (setF_congr fun k => by rw [hS k]; simp)
    subst hbx
    refine ⟨w15, hn, _, _, _, h15.cl 3 rfl rfl, ?_⟩
    generalize hbx : Cl 47 [.slice ap np cp, .slice ai ni ci, .int .i64 b.fin.kind, .int .i64 b.fin.val, .slice ae ne ce, .int .i64 b.fin.trap] = box at *
    refine ⟨fun i w' c => ∃ (j : Nat) (o : Obj), i = j ∧ j ≤ np ∧ c = np - j ∧ Hp w w' [(r, oi'), (b12, Cl 56 [.map (some b10)]), (b10, o), (b8, box)] ∧ MapO (setF (S ++ b.params.take j)) o, ⟨np, 0, o, rfl, by omega, by omega, h15, by simpa using ho'⟩, ?_⟩
    rintro i w28 c ⟨j, o1, rfl, hj, rfl, h28, ho1⟩
    refine sp_dec (fun hlt => ?_) (fun hge => ?_)
    · have hjn : j < np := by omega
      have hx : b.params[j]? = some b.params[j] := List.getElem?_eq_getElem (by omega)
      obtain ⟨bb, ob, ha, hc⟩ := RdI.at hpa hx
      obtain ⟨w34, o2, hu, ho2, h34⟩ := upd_map mpBool h28 2 rfl ho1 b.params[j] (.bool true)
      refine ⟨by omega, by omega, ptAt_of ha ⟨_, h28.ext.cel hc, _, h28.cl 1 rfl rfl, w34, hu, np - (j + 1), by omega, j + 1, o2, wrap_succ (by omega), by omega, rfl, h34, ?_⟩⟩
      have := ho2.add
      rw [List.take_add_one, hx]
      simpa using this
    · have hjn : j = np := by omega
      rw [List.take_of_length_le (by omega)] at ho1
      subst hbx
      refine ⟨_, _, _, h28.cl 3 rfl rfl, ?_⟩
      generalize hbx : Cl 47 [.slice ap np cp, .slice ai ni ci, .int .i64 b.fin.kind, .int .i64 b.fin.val, .slice ae ne ce, .int .i64 b.fin.trap] = box at *
      refine ⟨fun i w' c => ∃ (j' : Nat) (o : Obj) (now : List Int), i = j' ∧ j' ≤ ni ∧ c = ni - j' ∧ Hp w w' [(r, oi'), (b12, Cl 56 [.map (some b10)]), (b10, o), (b8, box)] ∧
        MapO (setF now) o ∧ (∀ k, k ∈ now ↔ k ∈ S ++ b.params ++ dsts (b.ins.take j')) ∧ usedIns (S ++ b.params) b.ins = usedIns now (b.ins.drop j'), ⟨ni, 0, o1, S ++ b.params, rfl, by omega, by omega, h28, ho1, by simp [dsts], rfl⟩, ?_⟩
      rintro i w38 c ⟨j', o2, now, rfl, hj', rfl, h38, ho2, hnow, hus⟩
      refine sp_dec (fun hlt => ?_) (fun hge => ?_)
      · intro K hK
        have hx : b.ins[j']? = some b.ins[j'] := List.getElem?_eq_getElem (by omega)
        have hdrop : b.ins.drop j' = b.ins[j'] :: b.ins.drop (j' + 1) := List.drop_eq_getElem_cons (by omega)
        generalize b.ins[j'] = x at hx hdrop
        rw [hdrop] at hus
        simp only [usedIns] at hus
        obtain ⟨bb, ob, vs, ha, hrow, hvl, aa, na, ca, rfl, hargs⟩ := hia.at_ _ _ hx
        refine ⟨by omega, by omega, ptAt_of ha ⟨_, _, _, _, _, _, _, _, _, h38.ext.row hrow, ?_⟩⟩
        refine alp h38 fun b52 w53 h53 => ?_
        refine stp h53 0 rfl (by simp) rfl fun w54 h54 => ?_
        refine ⟨_, _, _, h54.cl 0 rfl rfl, by kernel_rfl, ?_⟩
        refine (used1_w (RdI.ext hargs.rd h54.ext) (h54.cl 2 rfl rfl) (h54.rmap 3 rfl ho2)).mono ?_
        rintro v w62 ⟨rfl, hx62⟩
        have h62 := h54.step hx62
        have hds := dsts_step hx
        refine ⟨_, rfl, sp_of (fun hall => ?_) (fun hall => ?_)⟩
        · refine ⟨?_, h62.ext⟩
          have : (x.args.all fun v => decide (v ∈ now)) = false := by simpa using hall
          rw [used, hus, this]; simp
        · have hall' : (x.args.all fun v => decide (v ∈ now)) = true := by simpa using hall
          rw [hall', Bool.true_and] at hus
          refine ⟨_, h62.cl 0 rfl rfl, sp_of (fun h0 => ?_) (fun h0 => ?_)⟩
          · have h0' : x.dst ≠ 0 := by simpa using h0
            obtain ⟨w57, o3, hu, ho3, h57⟩ := upd_map mpBool h62 3 rfl ho2 x.dst (.bool true)
            refine ⟨_, h62.cl 2 rfl rfl, _, h62.cl 0 rfl rfl, w57, hu, hK _ ⟨ni - (j' + 1), by omega, j' + 1, o3, now ++ [x.dst], wrap_succ (by omega), by omega, rfl, h57.drop 1, ho3.add, ?_, ?_⟩⟩
            · intro k; rw [hds, if_neg h0']
              simp only [List.mem_append, hnow k, or_assoc]
            · rw [hus, if_neg h0']
              exact usedIns_mem (fun k => by simp [or_comm]) _
          · have h0' : x.dst = 0 := by simpa using h0
            refine hK _ ⟨ni - (j' + 1), by omega, j' + 1, o2, now, wrap_succ (by omega), by omega, rfl, h62.drop 1, ho2, ?_, ?_⟩
            · intro k; rw [hds, if_pos h0', List.append_nil]; exact hnow k
            · rw [hus, if_pos h0']
      · have hj'n : j' = ni := by omega
        rw [List.take_of_length_le (by omega)] at hnow
        rw [List.drop_of_length_le (by omega)] at hus
        simp only [usedIns] at hus
        have hnow' : ∀ k, k ∈ now ↔ k ∈ after S b := fun k => by rw [hnow k]; simp [after, Blk.made]
        subst hbx
        refine ⟨_, _, _, h38.cl 3 rfl rfl, ?_⟩
        refine ⟨fun i w' c => ∃ (j : Nat), i = j ∧ j ≤ ne ∧ c = ne - j ∧ Hp w w' [(r, oi'), (b12, Cl 56 [.map (some b10)]), (b10, o2), (b8, Cl 47 [.slice ap np cp, .slice ai ni ci, .int .i64 b.fin.kind, .int .i64 b.fin.val, .slice ae ne ce, .int .i64 b.fin.trap])] ∧
          ((b.fin.ways.take j).all fun w => w.args.all fun v => decide (v ∈ after S b)) = true, ⟨ne, 0, rfl, by omega, by omega, h38, by simp⟩, ?_⟩
        rintro i w71 c ⟨q, rfl, hq, rfl, h71, hways⟩
        refine sp_dec (fun hlt => ?_) (fun hge => ?_)
        · have hx : b.fin.ways[q]? = some b.fin.ways[q] := List.getElem?_eq_getElem (by omega)
          generalize b.fin.ways[q] = x at hx
          obtain ⟨bb, ob, vs, ha, hrow, hvl, aa, na, ca, rfl, hargs⟩ := hea.at_ _ _ hx
          refine ⟨by omega, by omega, ptAt_of ha ⟨_, _, _, _, h71.ext.row hrow, ?_⟩⟩
          refine alp h71 fun b52 w53 h53 => ?_
          refine stp h53 0 rfl (by simp) rfl fun w54 h54 => ?_
          refine ⟨_, _, _, h54.cl 0 rfl rfl, by kernel_rfl, ?_⟩
          refine (used1_w (RdI.ext hargs h54.ext) (h54.cl 2 rfl rfl) (h54.rmap 3 rfl ho2)).mono ?_
          rintro v w62 ⟨rfl, hx62⟩
          have h62 := h54.step hx62
          have heq : (x.args.all fun v => decide (v ∈ now)) = x.args.all fun v => decide (v ∈ after S b) := by congr 1; funext v; simp [hnow' v]
          refine ⟨_, rfl, sp_of (fun hall => ?_) (fun hall => ?_)⟩
          · refine ⟨?_, h62.ext⟩
            have h1 : (x.args.all fun v => decide (v ∈ after S b)) = false := by rw [← heq]; simpa using hall
            have h2 : (b.fin.ways.all fun w => w.args.all fun v => decide (v ∈ after S b)) = false := by
              rw [List.all_eq_false]
              exact ⟨x, List.mem_of_getElem? hx, by rw [h1]; decide⟩
            rw [used, h2]; simp
          · have h1 : (x.args.all fun v => decide (v ∈ after S b)) = true := by rw [← heq]; simpa using hall
            refine ⟨ne - (q + 1), by omega, q + 1, wrap_succ (by omega), by omega, rfl, h62.drop 1, ?_⟩
            rw [List.take_add_one, hx, List.all_append, hways]
            simp [h1]
        · have : q = ne := by omega
          rw [List.take_of_length_le (by omega)] at hways
          refine ⟨_, h71.cl 3 rfl rfl, sp_dec (fun h0 => ?_) (fun h0 => ?_)⟩
          · refine ⟨?_, h71.ext⟩
            rw [used, hus, hways, h0]; simp
          · refine ⟨_, h71.cl 1 rfl rfl, _, h71.cl 3 rfl rfl, decide (b.fin.val ∈ now), ?_, ?_, h71.ext⟩
            · rw [look_map mpBool zB (h71.rmap 2 rfl ho2), getD_setF]
            · rw [used, hus, hways]; simp [h0, hnow' b.fin.val]
  · right
    have hv : v = .bool true := by
      have h1 := mget_mem hnd hkm
      rw [hget] at h1
      unfold setF at h1
      split at h1
      · cases h1; rfl
      · cases h1
    subst hv
    obtain ⟨w17, o2, hu, ho2, h17⟩ := upd_map mpBool h16 2 rfl ho k (.bool true)
    refine ⟨_, _, w16, hn, k, true, hent, _, h16.cl 1 rfl rfl, w17, hu, left'.length, by rw [hperm.length_eq]; simp, oi2, left', done ++ [k], o2, h17, go_keep hp h16.ext h17.ext hg16, ho2.add, ?_, rfl⟩
    intro x
    rw [hS x, (hperm.map Prod.fst).mem_iff]
    simp only [List.map_cons, List.mem_cons, List.mem_append, List.mem_singleton, List.not_mem_nil, or_false]
    exact or_assoc.symm
end Go.Pl.Try

/- What '(palings/ssa.Func).once' does, read off its translation by gen.py. -/
namespace Go.Pl.Try
set_option linter.unusedVariables false
set_option maxRecDepth 100000
def F26 (f1 : ByteArray) (af2 : Option Addr) (nf2 cf2 : Nat) (w : World) (R : Value → World → Prop) : Prop :=
  AlP 29 [.string f1, .slice af2 nf2 cf2] w fun b3 w4 =>
  AlM w4 fun b5 w6 =>
  ∃ (ax7 : Option Addr) (nx7 cx7 : Nat), cel w6 b3 1 = some (.slice ax7 nx7 cx7) ∧
  ∃ J8 : Int → World → Nat → Prop, (∃ m11, J8 0 w6 m11) ∧
  ∀ (x9 : Int), ∀ w10 m11, J8 x9 w10 m11 →
  sp (decide ((x9 : Int) < (nx7 : Nat)))
  (0 ≤ (x9 : Int) ∧ (x9 : Int) < (nx7 : Nat) ∧
  ptAt ax7 fun b13 o14 =>
  ∃ (ax15 : Option Addr) (nx15 cx15 : Nat) (ax16 : Option Addr) (nx16 cx16 : Nat) (x17 : Int) (x18 : Int) (ax19 : Option Addr) (nx19 cx19 : Nat) (x20 : Int), Row w10 b13 (o14 + x9.toNat * 6) [.slice ax15 nx15 cx15, .slice ax16 nx16 cx16, .int .i64 x17, .int .i64 x18, .slice ax19 nx19 cx19, .int .i64 x20] ∧
  AlP 47 [.slice none 0 0, .slice none 0 0, .int .i64 0, .int .i64 0, .slice none 0 0, .int .i64 0] w10 fun b21 w22 =>
  StP b21 0 [.slice ax15 nx15 cx15, .slice ax16 nx16 cx16, .int .i64 x17, .int .i64 x18, .slice ax19 nx19 cx19, .int .i64 x20] w22 fun w23 =>
  ∃ (ax24 : Option Addr) (nx24 cx24 : Nat), cel w23 b21 0 = some (.slice ax24 nx24 cx24) ∧
  CallP Pg 52 [.slice ax24 nx24 cx24] w23 fun v25 w26 => ∃ (ax27 : Option Addr) (nx27 cx27 : Nat), v25 = .slice ax27 nx27 cx27 ∧
  ∃ (ax28 : Option Addr) (nx28 cx28 : Nat), cel w26 b21 1 = some (.slice ax28 nx28 cx28) ∧
  ∃ J29 : Option Addr → Nat → Nat → Int → World → Nat → Prop, (∃ m33, J29 ax27 nx27 cx27 0 w26 m33) ∧
  ∀ (amade30 : Option Addr) (nmade30 cmade30 : Nat) (x31 : Int), ∀ w32 m33, J29 amade30 nmade30 cmade30 x31 w32 m33 →
  sp (decide ((x31 : Int) < (nx28 : Nat)))
  (∀ K35 : Option Addr → Nat → Nat → World → Prop, (∀ (amade36 : Option Addr) (nmade36 cmade36 : Nat), ∀ w37, (
  ∃ m34, m34 < m33 ∧ J29 amade36 nmade36 cmade36 (IntKind.wrap .i64 (x31 + 1)) w37 m34) → K35 amade36 nmade36 cmade36 w37) →
  0 ≤ (x31 : Int) ∧ (x31 : Int) < (nx28 : Nat) ∧
  ptAt ax28 fun b38 o39 =>
  ∃ (x40 : Int) (x41 : Int) (ax42 : Option Addr) (nx42 cx42 : Nat) (x43 : Int) (x44 : Int) (x45 : Int) (x46 : Int), Row w32 b38 (o39 + x31.toNat * 7) [.int .i64 x40, .int .i64 x41, .slice ax42 nx42 cx42, .int .i64 x43, .int .i64 x44, .int .i64 x45, .int .i64 x46] ∧
  AlP 37 [.int .i64 0, .int .i64 0, .slice none 0 0, .int .i64 0, .int .i64 0, .int .i64 0, .int .i64 0] w32 fun b47 w48 =>
  StP b47 0 [.int .i64 x40, .int .i64 x41, .slice ax42 nx42 cx42, .int .i64 x43, .int .i64 x44, .int .i64 x45, .int .i64 x46] w48 fun w49 =>
  ∃ (x50 : Int), cel w49 b47 1 = some (.int .i64 x50) ∧
  sp (!decide ((x50 : Int) = 0))
  (∃ (x51 : Int), cel w49 b47 1 = some (.int .i64 x51) ∧
  AlP 3 [.int .i64 x51] w49 fun b52 w53 =>
  ∃ (ax54 : Option Addr) (nx54 cx54 : Nat), ∃ w55 : World, Sem.run Pg (Builtin.append_ #[34, 34] 34 ⟨[.slice amade30 nmade30 cmade30, .slice (some ⟨b52, 0, none⟩) 1 1]⟩) w53 = .ok (.slice ax54 nx54 cx54) w55 ∧
  K35 ax54 nx54 cx54 w55)
  (K35 amade30 nmade30 cmade30 w49))
  (∃ J56 : Int → World → Nat → Prop, (∃ m59, J56 0 w32 m59) ∧
  ∀ (x57 : Int), ∀ w58 m59, J56 x57 w58 m59 →
  sp (decide ((x57 : Int) < (nmade30 : Nat)))
  (0 ≤ (x57 : Int) ∧ (x57 : Int) < (nmade30 : Nat) ∧
  ptAt amade30 fun b61 o62 =>
  ∃ (x63 : Int), cel w58 b61 (o62 + x57.toNat * 1) = some (.int .i64 x63) ∧
  ∀ K64 : World → Prop, (∀ w65, (
  ∃ w66 : World, Sem.run Pg (Instr.mapUpdate 56 (.map (some b5)) (.int .i64 x63) (.bool true)) w65 = .ok () w66 ∧
  ∃ m60, m60 < m59 ∧ J56 (IntKind.wrap .i64 (x57 + 1)) w66 m60) → K64 w65) →
  ∀ K67 : World → Prop, (∀ w68, (
  R (.bool false) w68) → K67 w68) →
  sp (decide ((x63 : Int) ≤ 0))
  (K67 w58)
  (∃ (x69 : Bool), Sem.run Pg (Instr.lookup 56 (.map (some b5)) (.int .i64 x63) false) w58 = .ok (.bool x69) w58 ∧
  sp x69
  (K67 w58)
  (K64 w58)))
  (∃ m12, m12 < m11 ∧ J8 (IntKind.wrap .i64 (x9 + 1)) w58 m12)))
  (R (.bool true) w10)
def T26 : List Sh := [.v (.agg [.str, .sl]), .v (.one .ptr), .v (.one .bool), .v (.one .map), .v (.one .any), .v (.one .ptr), .v (.one .sl), .v (.one .any), .v (.one .ptr), .v (.one .any), .v (.one (.int .i64)), .v (.one .map), .v (.one .ptr), .v (.one .sl), .v (.one (.int .i64)), .v (.one (.int .i64)), .v (.one .bool), .v (.one .ptr), .v (.agg [.sl, .sl, (.int .i64), (.int .i64), .sl, (.int .i64)]), .v (.one .ptr), .v (.one .sl), .v (.one .sl), .v (.one .ptr), .v (.one .sl), .v (.one (.int .i64)), .v (.one (.int .i64)), .v (.one .bool), .v (.one .ptr), .v (.agg [(.int .i64), (.int .i64), .sl, (.int .i64), (.int .i64), (.int .i64), (.int .i64)]), .v (.one .ptr), .v (.one (.int .i64)), .v (.one .bool), .v (.one .sl), .v (.one .ptr), .v (.one (.int .i64)), .v (.one .sl), .v (.one .sl), .v (.one (.int .i64)), .v (.one .sl), .v (.one (.int .i64)), .v (.one (.int .i64)), .v (.one .bool), .v (.one .ptr), .v (.one (.int .i64)), .v (.one (.int .i64)), .v (.one .bool), .v (.one .bool), .v (.one .map), .v (.one (.int .i64)), .v (.one .bool), .v (.one .bool), .v (.one .map), .v (.one (.int .i64)), .v (.one (.int .i64)), .v (.one (.int .i64))]
def A26 : Ann := (.seq none .z (.seq none .z (.seq none (.seq none .z (.block none (.loop [15] (.seq none .z (.seq none (.cond .z .z) (.seq none (.block none (.seq none .z (.seq none .z (.seq none (.seq none .z (.block none (.loop [6, 25] (.seq none .z (.seq none (.cond .z .z) (.seq none (.block (some [6]) (.seq none .z (.seq none .z (.cond .z .z)))) .z)))))) (.seq none .z (.block none (.loop [40] (.seq none .z (.seq none (.cond .z .z) (.seq none (.block none (.seq none .z (.seq (some []) (.ifs (some []) none (.seq none .z .z) .z) .z))) .z)))))))))) .z)))))) (.seq none .z .z))))
theorem F26_eq (f1 : ByteArray) (af2 : Option Addr) (nf2 cf2 : Nat) (w : World) (R : Value → World → Prop) : F26 f1 af2 nf2 cf2 w R = denF Go.Proofs.Try.prog T26 Go.Proofs.Try.f26 A26 [.agg ⟨[.string f1, .slice af2 nf2 cf2]⟩] w R := by kernel_rfl
theorem F26_ok (f1 : ByteArray) (af2 : Option Addr) (nf2 cf2 : Nat) {w : World} {R : Value → World → Prop} (h : F26 f1 af2 nf2 cf2 w R) : CallP Go.Proofs.Try.prog 26 [.agg ⟨[.string f1, .slice af2 nf2 cf2]⟩] w R :=
  calls_den (fun _ => drawn (by kernel_rfl)) Go.Proofs.Try.func26 (Nat.le_of_ble_eq_true (by kernel_rfl)) ((F26_eq f1 af2 nf2 cf2 w R).mp h)
end Go.Pl.Try

/- What '(palings/ssa.Func).ends' does, read off its translation by gen.py. -/
namespace Go.Pl.Try
set_option linter.unusedVariables false
set_option maxRecDepth 100000
def F27 (x1 : ByteArray) (ax2 : Option Addr) (nx2 cx2 : Nat) (x3 : Int) (x4 : Int) (ax5 : Option Addr) (nx5 cx5 : Nat) (x6 : Int) (w : World) (R : Value → World → Prop) : Prop :=
  AlP 29 [.string x1, .slice ax2 nx2 cx2] w fun b7 w8 =>
  AlP 45 [.int .i64 x3, .int .i64 x4, .slice ax5 nx5 cx5, .int .i64 x6] w8 fun b9 w10 =>
  AlM w10 fun b11 w12 =>
  ∃ w13 : World, Sem.run Pg (Instr.mapUpdate 133 (.map (some b11)) (.int .i64 1) (.int .i64 1)) w12 = .ok () w13 ∧
  ∃ w14 : World, Sem.run Pg (Instr.mapUpdate 133 (.map (some b11)) (.int .i64 2) (.int .i64 2)) w13 = .ok () w14 ∧
  ∃ w15 : World, Sem.run Pg (Instr.mapUpdate 133 (.map (some b11)) (.int .i64 3) (.int .i64 0)) w14 = .ok () w15 ∧
  ∃ w16 : World, Sem.run Pg (Instr.mapUpdate 133 (.map (some b11)) (.int .i64 4) (.int .i64 0)) w15 = .ok () w16 ∧
  ∃ (x17 : Int), cel w16 b9 0 = some (.int .i64 x17) ∧
  ∃ (x18 : Int) (x19 : Bool), Sem.run Pg (Instr.lookup 133 (.map (some b11)) (.int .i64 x17) true) w16 = .ok (.tuple ⟨[.int .i64 x18, .bool x19]⟩) w16 ∧
  ∀ K20 : World → Prop, (∀ w21, (
  ∃ (ax22 : Option Addr) (nx22 cx22 : Nat), cel w21 b9 2 = some (.slice ax22 nx22 cx22) ∧
  ∃ J23 : Int → World → Nat → Prop, (∃ m26, J23 0 w21 m26) ∧
  ∀ (x24 : Int), ∀ w25 m26, J23 x24 w25 m26 →
  sp (decide ((x24 : Int) < (nx22 : Nat)))
  (0 ≤ (x24 : Int) ∧ (x24 : Int) < (nx22 : Nat) ∧
  ptAt ax22 fun b28 o29 =>
  ∃ (x30 : Int) (ax31 : Option Addr) (nx31 cx31 : Nat), Row w25 b28 (o29 + x24.toNat * 2) [.int .i64 x30, .slice ax31 nx31 cx31] ∧
  AlP 41 [.int .i64 0, .slice none 0 0] w25 fun b32 w33 =>
  StP b32 0 [.int .i64 x30, .slice ax31 nx31 cx31] w33 fun w34 =>
  ∀ K35 : Bool → World → Prop, (∀ (x36 : Bool), ∀ w37, (
  sp x36
  (R (.bool false) w37)
  (∃ m27, m27 < m26 ∧ J23 (IntKind.wrap .i64 (x24 + 1)) w37 m27)) → K35 x36 w37) →
  ∃ (x38 : Int), cel w34.drew b32 0 = some (.int .i64 x38) ∧
  sp (decide ((x38 : Int) < 1))
  (K35 true w34.drew)
  (∃ (x39 : Int), cel w34.drew b32 0 = some (.int .i64 x39) ∧
  ∃ (ax40 : Option Addr) (nx40 cx40 : Nat), cel w34.drew b7 1 = some (.slice ax40 nx40 cx40) ∧
  sp (decide (((nx40 : Nat) : Int) ≤ x39))
  (K35 true w34.drew)
  (∃ (ax41 : Option Addr) (nx41 cx41 : Nat), cel w34.drew b32 1 = some (.slice ax41 nx41 cx41) ∧
  ∃ (ax42 : Option Addr) (nx42 cx42 : Nat), cel w34.drew b7 1 = some (.slice ax42 nx42 cx42) ∧
  ∃ (x43 : Int), cel w34.drew b32 0 = some (.int .i64 x43) ∧
  0 ≤ (x43 : Int) ∧ (x43 : Int) < (nx42 : Nat) ∧
  ptAt ax42 fun b44 o45 =>
  ∃ (ax46 : Option Addr) (nx46 cx46 : Nat), cel w34.drew b44 (o45 + x43.toNat * 6) = some (.slice ax46 nx46 cx46) ∧
  K35 (!decide (((nx41 : Nat) : Int) = (nx46 : Nat))) w34.drew)))
  (R (.bool true) w25)) → K20 w21) →
  ∀ K47 : World → Prop, (∀ w48, (
  R (.bool false) w48) → K47 w48) →
  sp (!x19)
  (K47 w16)
  (∃ (ax49 : Option Addr) (nx49 cx49 : Nat), cel w16 b9 2 = some (.slice ax49 nx49 cx49) ∧
  sp (!decide (((nx49 : Nat) : Int) = x18))
  (K47 w16)
  (∃ (x50 : Int), cel w16 b9 0 = some (.int .i64 x50) ∧
  ∃ (x51 : Int), cel w16 b9 3 = some (.int .i64 x51) ∧
  sp (decide ((x51 : Int) = 1))
  (sp (!(decide ((x50 : Int) = 4) == true))
  (K47 w16)
  (∃ (x52 : Int), cel w16 b9 0 = some (.int .i64 x52) ∧
  sp (decide ((x52 : Int) = 2))
  (∃ (x53 : Int), cel w16 b9 1 = some (.int .i64 x53) ∧
  sp (!(true == decide ((0 : Int) < x53)))
  (K47 w16)
  (∃ (x54 : Int), cel w16 b9 1 = some (.int .i64 x54) ∧
  sp (decide ((x54 : Int) < 0))
  (K47 w16)
  (K20 w16)))
  (∃ (x55 : Int), cel w16 b9 0 = some (.int .i64 x55) ∧
  ∃ (x56 : Int), cel w16 b9 1 = some (.int .i64 x56) ∧
  sp (!(decide ((x55 : Int) = 3) == decide ((0 : Int) < x56)))
  (K47 w16)
  (∃ (x57 : Int), cel w16 b9 1 = some (.int .i64 x57) ∧
  sp (decide ((x57 : Int) < 0))
  (K47 w16)
  (K20 w16)))))
  (∃ (x58 : Int), cel w16 b9 3 = some (.int .i64 x58) ∧
  sp (!(decide ((x50 : Int) = 4) == decide ((x58 : Int) = 2)))
  (K47 w16)
  (∃ (x59 : Int), cel w16 b9 0 = some (.int .i64 x59) ∧
  sp (decide ((x59 : Int) = 2))
  (∃ (x60 : Int), cel w16 b9 1 = some (.int .i64 x60) ∧
  sp (!(true == decide ((0 : Int) < x60)))
  (K47 w16)
  (∃ (x61 : Int), cel w16 b9 1 = some (.int .i64 x61) ∧
  sp (decide ((x61 : Int) < 0))
  (K47 w16)
  (K20 w16)))
  (∃ (x62 : Int), cel w16 b9 0 = some (.int .i64 x62) ∧
  ∃ (x63 : Int), cel w16 b9 1 = some (.int .i64 x63) ∧
  sp (!(decide ((x62 : Int) = 3) == decide ((0 : Int) < x63)))
  (K47 w16)
  (∃ (x64 : Int), cel w16 b9 1 = some (.int .i64 x64) ∧
  sp (decide ((x64 : Int) < 0))
  (K47 w16)
  (K20 w16)))))))
def T27 : List Sh := [.v (.agg [.str, .sl]), .v (.agg [(.int .i64), (.int .i64), .sl, (.int .i64)]), .v (.one .ptr), .v (.one .ptr), .v (.one .bool), .v (.one .map), .v (.one (.int .i64)), .v (.one .bool), .v (.one .any), .v (.one .ptr), .v (.one .map), .v (.one .map), .t [(.one (.int .i64)), (.one .bool)], .v (.one .map), .v (.one .ptr), .v (.one (.int .i64)), .t [(.one (.int .i64)), (.one .bool)], .v (.one (.int .i64)), .v (.one .bool), .v (.one .bool), .v (.one .bool), .v (.one .bool), .v (.one .ptr), .v (.one .sl), .v (.one (.int .i64)), .v (.one (.int .i64)), .v (.one .bool), .v (.one .bool), .v (.one .bool), .v (.one .ptr), .v (.one (.int .i64)), .v (.one .bool), .v (.one .ptr), .v (.one (.int .i64)), .v (.one .bool), .v (.one .bool), .v (.one .ptr), .v (.one (.int .i64)), .v (.one .bool), .v (.one .bool), .v (.one .bool), .v (.one .bool), .v (.one .bool), .v (.one .ptr), .v (.one (.int .i64)), .v (.one .bool), .v (.one .bool), .v (.one .ptr), .v (.one (.int .i64)), .v (.one .bool), .v (.one .bool), .v (.one .ptr), .v (.one (.int .i64)), .v (.one .bool), .v (.one .bool), .v (.one .bool), .v (.one .bool), .v (.one .ptr), .v (.one (.int .i64)), .v (.one .bool), .v (.one .bool), .v (.one .ptr), .v (.one .sl), .v (.one (.int .i64)), .v (.one (.int .i64)), .v (.one .bool), .v (.one .ptr), .v (.agg [(.int .i64), .sl]), .v (.one .ptr), .v (.one (.int .i64)), .v (.one .bool), .v (.one .bool), .v (.one .ptr), .v (.one (.int .i64)), .v (.one .ptr), .v (.one .sl), .v (.one (.int .i64)), .v (.one .bool), .v (.one .bool), .v (.one .bool), .v (.one .ptr), .v (.one .sl), .v (.one (.int .i64)), .v (.one .ptr), .v (.one .sl), .v (.one .ptr), .v (.one (.int .i64)), .v (.one .ptr), .v (.one .ptr), .v (.one .sl), .v (.one (.int .i64)), .v (.one .bool), .v (.one .bool), .v (.one (.int .i64))]
def A27 : Ann := (.seq none .z (.seq none .z (.seq none .z (.seq (some []) (.ifs (some []) none (.seq none .z .z) .z) (.seq none (.seq none .z (.block none (.loop [64] (.seq none .z (.seq none (.cond .z .z) (.seq none (.block none (.seq none .z (.seq (some [92]) (.dr [0, 1, 0, 0, 0, 1, 0, 1, 0, 0, 0, 0, 0, 1, 0, 0, 1, 0, 1, 0, 0, 1, 0, 0, 0] [0, 1, 2, 3, 4, 5, 6, 7, 8, 9, 10, 11, 12, 13, 14, 15, 16, 17, 18, 19, 20, 21, 22, 23, 24]) (.cond (.seq none .z .z) .z)))) .z)))))) (.seq none .z .z))))))
theorem F27_eq (x1 : ByteArray) (ax2 : Option Addr) (nx2 cx2 : Nat) (x3 : Int) (x4 : Int) (ax5 : Option Addr) (nx5 cx5 : Nat) (x6 : Int) (w : World) (R : Value → World → Prop) : F27 x1 ax2 nx2 cx2 x3 x4 ax5 nx5 cx5 x6 w R = denF Go.Proofs.Try.prog T27 Go.Proofs.Try.f27 A27 [.agg ⟨[.string x1, .slice ax2 nx2 cx2]⟩, .agg ⟨[.int .i64 x3, .int .i64 x4, .slice ax5 nx5 cx5, .int .i64 x6]⟩] w R := by kernel_rfl
theorem F27_ok (x1 : ByteArray) (ax2 : Option Addr) (nx2 cx2 : Nat) (x3 : Int) (x4 : Int) (ax5 : Option Addr) (nx5 cx5 : Nat) (x6 : Int) {w : World} {R : Value → World → Prop} (h : F27 x1 ax2 nx2 cx2 x3 x4 ax5 nx5 cx5 x6 w R) : CallP Go.Proofs.Try.prog 27 [.agg ⟨[.string x1, .slice ax2 nx2 cx2]⟩, .agg ⟨[.int .i64 x3, .int .i64 x4, .slice ax5 nx5 cx5, .int .i64 x6]⟩] w R :=
  calls_den (fun _ => drawn (by kernel_rfl)) Go.Proofs.Try.func27 (Nat.le_of_ble_eq_true (by kernel_rfl)) ((F27_eq x1 ax2 nx2 cx2 x3 x4 ax5 nx5 cx5 x6 w R).mp h)
end Go.Pl.Try

/- What '(palings/ssa.Prog).right' does, read off its translation by gen.py. -/
namespace Go.Pl.Try
set_option linter.unusedVariables false
set_option maxRecDepth 100000
def F30 (ax1 : Option Addr) (nx1 cx1 : Nat) (ax2 : Option Addr) (nx2 cx2 : Nat) (x3 : Int) (x4 : Int) (x5 : Int) (ax6 : Option Addr) (nx6 cx6 : Nat) (x7 : Int) (x8 : Int) (x9 : Int) (x10 : Int) (w : World) (R : Value → World → Prop) : Prop :=
  AlP 32 [.slice ax1 nx1 cx1, .slice ax2 nx2 cx2, .int .i64 x3] w fun b11 w12 =>
  AlP 37 [.int .i64 x4, .int .i64 x5, .slice ax6 nx6 cx6, .int .i64 x7, .int .i64 x8, .int .i64 x9, .int .i64 x10] w12 fun b13 w14 =>
  ∃ (x15 : Int), cel w14 b13 0 = some (.int .i64 x15) ∧
  CallP Pg 54 [.int .i64 x15] w14 fun v16 w17 => ∃ (x18 : Int) (x19 : Bool), v16 = .tuple ⟨[.int .i64 x18, .bool x19]⟩ ∧
  ∀ K20 : World → Prop, (∀ w21, (
  ∃ (x22 : Int), cel w21 b13 0 = some (.int .i64 x22) ∧
  sp (decide ((x22 : Int) = 2))
  (∃ (x23 : Int), cel w21 b13 4 = some (.int .i64 x23) ∧
  CallP Pg 55 [.int .i64 x23] w21 fun v24 w25 => ∃ (x26 : Bool), v24 = .bool x26 ∧
  R (.bool x26) w25)
  (∀ K27 : Bool → World → Prop, (∀ (x28 : Bool), ∀ w29, (
  sp x28
  (∃ (x30 : Int), cel w29 b13 5 = some (.int .i64 x30) ∧
  sp (decide ((0 : Int) ≤ x30))
  (∃ (x31 : Int), cel w29 b13 5 = some (.int .i64 x31) ∧
  ∃ (ax32 : Option Addr) (nx32 cx32 : Nat), cel w29 b11 0 = some (.slice ax32 nx32 cx32) ∧
  sp (decide ((x31 : Int) < (nx32 : Nat)))
  (∃ (ax33 : Option Addr) (nx33 cx33 : Nat), cel w29 b11 0 = some (.slice ax33 nx33 cx33) ∧
  ∃ (x34 : Int), cel w29 b13 5 = some (.int .i64 x34) ∧
  0 ≤ (x34 : Int) ∧ (x34 : Int) < (nx33 : Nat) ∧
  ptAt ax33 fun b35 o36 =>
  ∃ (x37 : Int), cel w29 b35 (o36 + x34.toNat * 3 + 2) = some (.int .i64 x37) ∧
  R (.bool (decide ((x37 : Int) = 0))) w29)
  (R (.bool false) w29))
  (R (.bool false) w29))
  (∀ K38 : Bool → World → Prop, (∀ (x39 : Bool), ∀ w40, (
  sp x39
  (∃ (x41 : Int), cel w40 b13 5 = some (.int .i64 x41) ∧
  sp (decide ((0 : Int) ≤ x41))
  (∃ (x42 : Int), cel w40 b13 5 = some (.int .i64 x42) ∧
  ∃ (ax43 : Option Addr) (nx43 cx43 : Nat), cel w40 b11 0 = some (.slice ax43 nx43 cx43) ∧
  sp (decide ((x42 : Int) < (nx43 : Nat)))
  (∃ (ax44 : Option Addr) (nx44 cx44 : Nat), cel w40 b11 0 = some (.slice ax44 nx44 cx44) ∧
  ∃ (x45 : Int), cel w40 b13 5 = some (.int .i64 x45) ∧
  0 ≤ (x45 : Int) ∧ (x45 : Int) < (nx44 : Nat) ∧
  ptAt ax44 fun b46 o47 =>
  ∃ (x48 : Int), cel w40 b46 (o47 + x45.toNat * 3 + 2) = some (.int .i64 x48) ∧
  R (.bool (decide ((0 : Int) < x48))) w40)
  (R (.bool false) w40))
  (R (.bool false) w40))
  (sp (decide ((x22 : Int) = 7))
  (∃ (x49 : Int), cel w40.drew b13 6 = some (.int .i64 x49) ∧
  sp (decide ((0 : Int) ≤ x49))
  (∃ (x50 : Int), cel w40.drew b13 6 = some (.int .i64 x50) ∧
  ∃ (ax51 : Option Addr) (nx51 cx51 : Nat), cel w40.drew b11 1 = some (.slice ax51 nx51 cx51) ∧
  sp (decide ((x50 : Int) < (nx51 : Nat)))
  (∃ (ax52 : Option Addr) (nx52 cx52 : Nat), cel w40.drew b11 1 = some (.slice ax52 nx52 cx52) ∧
  ∃ (x53 : Int), cel w40.drew b13 6 = some (.int .i64 x53) ∧
  0 ≤ (x53 : Int) ∧ (x53 : Int) < (nx52 : Nat) ∧
  ptAt ax52 fun b54 o55 =>
  ∃ (ax56 : Option Addr) (nx56 cx56 : Nat), cel w40.drew b54 (o55 + x53.toNat * 2 + 1) = some (.slice ax56 nx56 cx56) ∧
  sp (decide ((0 : Int) < (nx56 : Nat)))
  (∃ (ax57 : Option Addr) (nx57 cx57 : Nat), cel w40.drew b13 2 = some (.slice ax57 nx57 cx57) ∧
  ∃ (ax58 : Option Addr) (nx58 cx58 : Nat), cel w40.drew b11 1 = some (.slice ax58 nx58 cx58) ∧
  ∃ (x59 : Int), cel w40.drew b13 6 = some (.int .i64 x59) ∧
  0 ≤ (x59 : Int) ∧ (x59 : Int) < (nx58 : Nat) ∧
  ptAt ax58 fun b60 o61 =>
  ∃ (ax62 : Option Addr) (nx62 cx62 : Nat), cel w40.drew b60 (o61 + x59.toNat * 2 + 1) = some (.slice ax62 nx62 cx62) ∧
  0 ≤ (0 : Int) ∧ (0 : Int) < (nx62 : Nat) ∧
  ptAt ax62 fun b63 o64 =>
  ∃ (ax65 : Option Addr) (nx65 cx65 : Nat), cel w40.drew b63 o64 = some (.slice ax65 nx65 cx65) ∧
  R (.bool (decide (((nx57 : Nat) : Int) = (nx65 : Nat)))) w40.drew)
  (R (.bool false) w40.drew))
  (R (.bool false) w40.drew))
  (R (.bool false) w40.drew))
  (R (.bool true) w40))) → K38 x39 w40) →
  sp (decide ((x22 : Int) = 5))
  (K38 (decide ((x22 : Int) = 5)) w29)
  (K38 (decide ((x22 : Int) = 6)) w29))) → K27 x28 w29) →
  sp (decide ((x22 : Int) = 3))
  (K27 (decide ((x22 : Int) = 3)) w21)
  (K27 (decide ((x22 : Int) = 4)) w21))) → K20 w21) →
  ∀ K66 : World → Prop, (∀ w67, (
  R (.bool false) w67) → K66 w67) →
  sp (decide ((x18 : Int) = (-2)))
  (K66 w17)
  (sp (decide ((0 : Int) ≤ x18))
  (∃ (ax68 : Option Addr) (nx68 cx68 : Nat), cel w17 b13 2 = some (.slice ax68 nx68 cx68) ∧
  sp (!decide (((nx68 : Nat) : Int) = x18))
  (K66 w17)
  (∃ (x69 : Int), cel w17 b13 1 = some (.int .i64 x69) ∧
  sp (!(x19 == decide ((0 : Int) < x69)))
  (K66 w17)
  (∃ (x70 : Int), cel w17 b13 1 = some (.int .i64 x70) ∧
  sp (decide ((x70 : Int) < 0))
  (K66 w17)
  (K20 w17))))
  (∃ (x71 : Int), cel w17 b13 1 = some (.int .i64 x71) ∧
  sp (!(x19 == decide ((0 : Int) < x71)))
  (K66 w17)
  (∃ (x72 : Int), cel w17 b13 1 = some (.int .i64 x72) ∧
  sp (decide ((x72 : Int) < 0))
  (K66 w17)
  (K20 w17))))
def T30 : List Sh := [.v (.agg [.sl, .sl, (.int .i64)]), .v (.agg [(.int .i64), (.int .i64), .sl, (.int .i64), (.int .i64), (.int .i64), (.int .i64)]), .v (.one .ptr), .v (.one .ptr), .v (.one .bool), .v (.one (.int .i64)), .v (.one .bool), .t [(.one (.int .i64)), (.one .bool)], .v (.one .ptr), .v (.one (.int .i64)), .t [(.one (.int .i64)), (.one .bool)], .v (.one (.int .i64)), .v (.one .bool), .v (.one (.int .i64)), .v (.one .bool), .v (.one .bool), .v (.one (.int .i64)), .v (.one .bool), .v (.one .bool), .v (.one .ptr), .v (.one .sl), .v (.one (.int .i64)), .v (.one (.int .i64)), .v (.one .bool), .v (.one .bool), .v (.one .bool), .v (.one .bool), .v (.one .bool), .v (.one .ptr), .v (.one (.int .i64)), .v (.one .bool), .v (.one .bool), .v (.one .bool), .v (.one .bool), .v (.one .ptr), .v (.one (.int .i64)), .v (.one .bool), .v (.one .bool), .v (.one .ptr), .v (.one (.int .i64)), .v (.one .bool), .v (.one .bool), .v (.one .ptr), .v (.one (.int .i64)), .v (.one .bool), .v (.one .bool), .v (.one .bool), .v (.one .bool), .v (.one .ptr), .v (.one (.int .i64)), .v (.one .bool), .v (.one .bool), .v (.one .ptr), .v (.one (.int .i64)), .v (.one .ptr), .v (.one .sl), .v (.one (.int .i64)), .v (.one .bool), .v (.one .bool), .v (.one .bool), .v (.one .ptr), .v (.one .sl), .v (.one .ptr), .v (.one (.int .i64)), .v (.one .ptr), .v (.one .ptr), .v (.one (.int .i64)), .v (.one .bool), .v (.one .bool), .v (.one .bool), .v (.one .bool), .v (.one .bool), .v (.one .ptr), .v (.one (.int .i64)), .v (.one .bool), .v (.one .bool), .v (.one .ptr), .v (.one (.int .i64)), .v (.one .ptr), .v (.one .sl), .v (.one (.int .i64)), .v (.one .bool), .v (.one .bool), .v (.one .bool), .v (.one .ptr), .v (.one .sl), .v (.one .ptr), .v (.one (.int .i64)), .v (.one .ptr), .v (.one .ptr), .v (.one (.int .i64)), .v (.one .bool), .v (.one .bool), .v (.one .bool), .v (.one .bool), .v (.one .ptr), .v (.one (.int .i64)), .v (.one .bool), .v (.one .bool), .v (.one .ptr), .v (.one (.int .i64)), .v (.one .ptr), .v (.one .sl), .v (.one (.int .i64)), .v (.one .bool), .v (.one .bool), .v (.one .bool), .v (.one .ptr), .v (.one .sl), .v (.one .ptr), .v (.one (.int .i64)), .v (.one .ptr), .v (.one .ptr), .v (.one .sl), .v (.one (.int .i64)), .v (.one .bool), .v (.one .bool), .v (.one .bool), .v (.one .ptr), .v (.one .sl), .v (.one (.int .i64)), .v (.one .ptr), .v (.one .sl), .v (.one .ptr), .v (.one (.int .i64)), .v (.one .ptr), .v (.one .ptr), .v (.one .sl), .v (.one .ptr), .v (.one .ptr), .v (.one .sl), .v (.one (.int .i64)), .v (.one .bool), .v (.one .bool)]
def A30 : Ann := (.seq none .z (.seq none .z (.seq (some []) (.ifs (some []) none (.seq none .z .z) .z) (.seq none (.seq none .z (.block none (.seq none .z (.cond (.seq none .z .z) (.seq (some [45]) (.seq none .z (.cond .z .z)) (.cond (.seq none .z .z) (.seq (some [69]) (.seq none .z (.cond .z .z)) (.cond (.seq none .z .z) (.seq none .z (.cond (.seq none (.dr [0, 1, 0, 0, 0, 1, 0, 1, 0, 0, 0, 0, 0, 1, 0, 1, 0, 0, 1, 0, 0, 0, 0, 0, 1, 0, 0, 1, 0, 1, 0, 0, 1, 0, 0, 1, 0, 0, 0, 0] [0, 1, 2, 3, 4, 5, 6, 7, 8, 9, 10, 11, 12, 13, 14, 15, 16, 17, 18, 19, 20, 21, 22, 23, 24, 25, 26, 27, 28, 29, 30, 31, 32, 33, 34, 35, 36, 37, 38, 39]) .z) .z)))))))))) (.seq none .z .z)))))
theorem F30_eq (ax1 : Option Addr) (nx1 cx1 : Nat) (ax2 : Option Addr) (nx2 cx2 : Nat) (x3 : Int) (x4 : Int) (x5 : Int) (ax6 : Option Addr) (nx6 cx6 : Nat) (x7 : Int) (x8 : Int) (x9 : Int) (x10 : Int) (w : World) (R : Value → World → Prop) : F30 ax1 nx1 cx1 ax2 nx2 cx2 x3 x4 x5 ax6 nx6 cx6 x7 x8 x9 x10 w R = denF Go.Proofs.Try.prog T30 Go.Proofs.Try.f30 A30 [.agg ⟨[.slice ax1 nx1 cx1, .slice ax2 nx2 cx2, .int .i64 x3]⟩, .agg ⟨[.int .i64 x4, .int .i64 x5, .slice ax6 nx6 cx6, .int .i64 x7, .int .i64 x8, .int .i64 x9, .int .i64 x10]⟩] w R := by kernel_rfl
theorem F30_ok (ax1 : Option Addr) (nx1 cx1 : Nat) (ax2 : Option Addr) (nx2 cx2 : Nat) (x3 : Int) (x4 : Int) (x5 : Int) (ax6 : Option Addr) (nx6 cx6 : Nat) (x7 : Int) (x8 : Int) (x9 : Int) (x10 : Int) {w : World} {R : Value → World → Prop} (h : F30 ax1 nx1 cx1 ax2 nx2 cx2 x3 x4 x5 ax6 nx6 cx6 x7 x8 x9 x10 w R) : CallP Go.Proofs.Try.prog 30 [.agg ⟨[.slice ax1 nx1 cx1, .slice ax2 nx2 cx2, .int .i64 x3]⟩, .agg ⟨[.int .i64 x4, .int .i64 x5, .slice ax6 nx6 cx6, .int .i64 x7, .int .i64 x8, .int .i64 x9, .int .i64 x10]⟩] w R :=
  calls_den (fun _ => drawn (by kernel_rfl)) Go.Proofs.Try.func30 (Nat.le_of_ble_eq_true (by kernel_rfl)) ((F30_eq ax1 nx1 cx1 ax2 nx2 cx2 x3 x4 x5 ax6 nx6 cx6 x7 x8 x9 x10 w R).mp h)
end Go.Pl.Try

/- What '(palings/ssa.Prog).Check$1' does, read off its translation by gen.py. -/
namespace Go.Pl.Try
set_option linter.unusedVariables false
set_option maxRecDepth 100000
def F29 (i1 : Int) (i2 : Int) (ai3 : Option Addr) (ni3 ci3 : Nat) (i4 : Int) (i5 : Int) (i6 : Int) (i7 : Int) (b8 : Nat) (o9 : Nat) (w : World) (R : Value → World → Prop) : Prop :=
  AlP 37 [.int .i64 i1, .int .i64 i2, .slice ai3 ni3 ci3, .int .i64 i4, .int .i64 i5, .int .i64 i6, .int .i64 i7] w fun b10 w11 =>
  ∃ (ax12 : Option Addr) (nx12 cx12 : Nat) (ax13 : Option Addr) (nx13 cx13 : Nat) (x14 : Int), Row w11 b8 o9 [.slice ax12 nx12 cx12, .slice ax13 nx13 cx13, .int .i64 x14] ∧
  ∃ (x15 : Int) (x16 : Int) (ax17 : Option Addr) (nx17 cx17 : Nat) (x18 : Int) (x19 : Int) (x20 : Int) (x21 : Int), Row w11 b10 0 [.int .i64 x15, .int .i64 x16, .slice ax17 nx17 cx17, .int .i64 x18, .int .i64 x19, .int .i64 x20, .int .i64 x21] ∧
  CallP Pg 30 [.agg ⟨[.slice ax12 nx12 cx12, .slice ax13 nx13 cx13, .int .i64 x14]⟩, .agg ⟨[.int .i64 x15, .int .i64 x16, .slice ax17 nx17 cx17, .int .i64 x18, .int .i64 x19, .int .i64 x20, .int .i64 x21]⟩] w11 fun v22 w23 => ∃ (x24 : Bool), v22 = .bool x24 ∧
  R (.bool (!x24)) w23
def T29 : List Sh := [.v (.agg [(.int .i64), (.int .i64), .sl, (.int .i64), (.int .i64), (.int .i64), (.int .i64)]), .v (.one .ptr), .v (.one .ptr), .v (.one .bool), .v (.agg [.sl, .sl, (.int .i64)]), .v (.agg [(.int .i64), (.int .i64), .sl, (.int .i64), (.int .i64), (.int .i64), (.int .i64)]), .v (.one .bool), .v (.one .bool)]
def A29 : Ann := (.seq none .z (.seq none .z .z))
theorem F29_eq (i1 : Int) (i2 : Int) (ai3 : Option Addr) (ni3 ci3 : Nat) (i4 : Int) (i5 : Int) (i6 : Int) (i7 : Int) (b8 : Nat) (o9 : Nat) (w : World) (R : Value → World → Prop) : F29 i1 i2 ai3 ni3 ci3 i4 i5 i6 i7 b8 o9 w R = denF Go.Proofs.Try.prog T29 Go.Proofs.Try.f29 A29 [.agg ⟨[.int .i64 i1, .int .i64 i2, .slice ai3 ni3 ci3, .int .i64 i4, .int .i64 i5, .int .i64 i6, .int .i64 i7]⟩, .pointer (some ⟨b8, o9, none⟩)] w R := by kernel_rfl
theorem F29_ok (i1 : Int) (i2 : Int) (ai3 : Option Addr) (ni3 ci3 : Nat) (i4 : Int) (i5 : Int) (i6 : Int) (i7 : Int) (b8 : Nat) (o9 : Nat) {w : World} {R : Value → World → Prop} (h : F29 i1 i2 ai3 ni3 ci3 i4 i5 i6 i7 b8 o9 w R) : CallP Go.Proofs.Try.prog 29 [.agg ⟨[.int .i64 i1, .int .i64 i2, .slice ai3 ni3 ci3, .int .i64 i4, .int .i64 i5, .int .i64 i6, .int .i64 i7]⟩, .pointer (some ⟨b8, o9, none⟩)] w R :=
  calls_den (fun _ => drawn (by kernel_rfl)) Go.Proofs.Try.func29 (Nat.le_of_ble_eq_true (by kernel_rfl)) ((F29_eq i1 i2 ai3 ni3 ci3 i4 i5 i6 i7 b8 o9 w R).mp h)
end Go.Pl.Try

/- What is right of a function's parts: walked. -/
namespace Go.Pl.Try
open M
set_option linter.unusedVariables false
theorem blkOf {w : World} {a : Option Addr} {n : Nat} {bs : List Blk} (h : RdBlocks w a n bs) {i : Nat} {b : Blk} (hi : bs[i]? = some b) :
    ∃ bb o ap np cp ai ni ci ae ne ce, a = some ⟨bb, o, none⟩ ∧ Row w bb (o + i * 6) [.slice ap np cp, .slice ai ni ci, .int .i64 b.fin.kind, .int .i64 b.fin.val, .slice ae ne ce, .int .i64 b.fin.trap] ∧
      RdI w ap np b.params ∧ RdS 7 RIns w ai ni b.ins ∧ RdS 2 REdge w ae ne b.fin.ways := by
  obtain ⟨bb, o, vs, ha, hrow, hvl, ap, np, cp, ai, ni, ci, ae, ne, ce, rfl, h1, h2, h3⟩ := h.at_ _ _ hi
  exact ⟨bb, o, ap, np, cp, ai, ni, ci, ae, ne, ce, ha, hrow, h1, h2, h3⟩
theorem nodup_snoc {l : List Int} {x : Int} : (l ++ [x]).Nodup ↔ l.Nodup ∧ x ∉ l := by
  rw [List.nodup_append]
  constructor
  · rintro ⟨h1, -, h3⟩
    exact ⟨h1, fun hx => h3 x hx x (by simp) rfl⟩
  · rintro ⟨h1, h2⟩
    refine ⟨h1, by simp, ?_⟩
    intro a ha b hb e
    simp at hb
    subst hb; subst e
    exact h2 ha
theorem once_false {f : Fnc} {l1 l2 l3 : List Int} {x : Int} (hf : f.made = l1 ++ x :: l2) (h : x ≤ 0 ∨ x ∈ l1) : once f = false := by
  unfold once
  rw [decide_eq_false_iff_not]
  rintro ⟨h1, h2⟩
  rw [hf] at h1 h2
  rcases h with h | h
  · have := h1 x (by simp); omega
  · rw [List.nodup_append] at h2
    exact h2.2.2 x h x (by simp) rfl
theorem once_w {w : World} {f : Fnc} {vs : List Value} (h : RFunc w vs f) (hl : f.Lim) :
    CallP Pg 26 [.agg ⟨vs⟩] w fun v w' => v = .bool (once f) ∧ Ext w w' := by
  obtain ⟨a, n, c, rfl, hb⟩ := h
  refine F26_ok _ _ _ _ ?_
  unfold F26
  refine alp (Hp.refl w) fun b3 w4 h4 => ?_
  refine alm h4 fun b5 w6 h6 => ⟨_, _, _, h6.cl 1 rfl rfl, ?_⟩
  have hbl := hb.len
  have hble := hb.le
  refine ⟨fun i w' c' => ∃ (j : Nat) (o : Obj), i = j ∧ j ≤ n ∧ c' = n - j ∧ Hp w w' [(b5, o)] ∧ MapO (setF ((f.blocks.take j).flatMap Blk.made)) o ∧ (∀ v ∈ (f.blocks.take j).flatMap Blk.made, 0 < v) ∧ ((f.blocks.take j).flatMap Blk.made).Nodup,
    ⟨n, 0, _, rfl, by omega, by omega, h6.sub (by simp), setF_nil, by simp, by simp⟩, ?_⟩
  rintro i w10 c' ⟨j, o, rfl, hj, rfl, h10, ho, hpos, hnd⟩
  refine sp_dec (fun hlt => ?_) (fun hge => ?_)
  · have hx : f.blocks[j]? = some f.blocks[j] := List.getElem?_eq_getElem (by omega)
    have hdrop : f.blocks.drop j = f.blocks[j] :: f.blocks.drop (j + 1) := List.drop_eq_getElem_cons (by omega)
    have hblim := hl.each _ (List.mem_of_getElem? hx)
    generalize f.blocks[j] = b at hx hdrop hblim
    have hmade : f.made = (f.blocks.take j).flatMap Blk.made ++ (b.made ++ (f.blocks.drop (j + 1)).flatMap Blk.made) := by
      unfold Fnc.made
      rw [← List.flatMap_cons, ← hdrop, ← List.flatMap_append, List.take_append_drop]
    obtain ⟨bb, ob, ap, np, cp, ai, ni, ci, ae, ne, ce, ha, hrow, hp, hi, he⟩ := blkOf hb hx
    refine ⟨by omega, by omega, ptAt_of ha ⟨_, _, _, _, _, _, _, _, _, _, _, _, h10.ext.row hrow, ?_⟩⟩
    refine alp h10 fun b21 w22 h22 => ?_
    refine stp h22 0 rfl (by simp) rfl fun w23 h23 => ?_
    have hpl := hp.len
    have hil := hi.len
    have hile := hi.le
    have hds := dsts_length b.ins
    have := hblim.params
    have := hblim.ins
    simp only [lim] at *
    refine ⟨_, _, _, h23.cl 0 rfl rfl, (cloneI_w (RdI.ext hp h23.ext) (by omega)).mono ?_⟩
    rintro v w26 ⟨a', c'', r, rfl, hs, hh⟩
    have h26 := h23.call hh
    refine ⟨_, _, _, rfl, _, _, _, (h26.perm List.perm_append_comm).cl 0 rfl rfl, ?_⟩
    have h26' := h26.perm List.perm_append_comm
    refine ⟨fun am nm cm i w' c' => ∃ (q : Nat) (r : Rw), i = q ∧ q ≤ ni ∧ c' = ni - q ∧ Sls 1 am nm cm ((b.params ++ dsts (b.ins.take q)).map (Value.int .i64)) r ∧
      Hp w w' ([(b21, Cl 47 [.slice ap np cp, .slice ai ni ci, .int .i64 b.fin.kind, .int .i64 b.fin.val, .slice ae ne ce, .int .i64 b.fin.trap]), (b5, o)] ++ (r.L 3 ((b.params ++ dsts (b.ins.take q)).map (Value.int .i64)) ++ [])),
      ⟨ni, 0, r, rfl, by omega, by omega, by simpa [dsts] using hs, by simpa [dsts, splice] using h26'⟩, ?_⟩
    rintro am nm cm i w32 c' ⟨q, r, rfl, hq, rfl, hs, h32⟩
    have hnm := hs.n_eq
    have hdq := dsts_length (b.ins.take q)
    rw [List.length_map, List.length_append] at hnm
    rw [List.length_take] at hdq
    refine sp_dec (fun hlt2 => ?_) (fun hge2 => ?_)
    · intro K hK
      have hy : b.ins[q]? = some b.ins[q] := List.getElem?_eq_getElem (by omega)
      generalize b.ins[q] = x at hy
      obtain ⟨bi, oi, vs, hai, hrowi, hvli, aa, na, ca, rfl, hargs⟩ := hi.at_ _ _ hy
      refine ⟨by omega, by omega, ptAt_of hai ⟨_, _, _, _, _, _, _, _, _, h32.ext.row hrowi, ?_⟩⟩
      refine alp h32 fun b52 w53 h53 => ?_
      refine stp h53 0 rfl (by simp) rfl fun w54 h54 => ?_
      have hd := dsts_step hy
      refine ⟨_, h54.cl 0 rfl rfl, sp_of (fun h0 => ?_) (fun h0 => ?_)⟩
      · have h0' : x.dst ≠ 0 := by simpa using h0
        refine ⟨_, h54.cl 0 rfl rfl, ?_⟩
        refine alp h54 fun b62 w63 h63 => ?_
        obtain ⟨a64, c64, w65, r64, happ, hs64, h65⟩ := app1 (ty := 34) slInts (by omega) hs [_, _, _, _] h63 0 rfl rfl rfl (by simp only [maxLen]; omega) (by omega)
        refine ⟨_, _, _, w65, happ, hK _ _ _ _ ⟨ni - (q + 1), by omega, q + 1, r64, wrap_succ (by omega), by omega, rfl, ?_, ?_⟩⟩
        · rw [hd, if_neg h0', ← List.append_assoc]; simpa using hs64
        · rw [hd, if_neg h0', ← List.append_assoc]; simpa using h65.drop 2
      · have h0' : x.dst = 0 := by simpa using h0
        have hd' : dsts (b.ins.take (q + 1)) = dsts (b.ins.take q) := by rw [hd, if_pos h0', List.append_nil]
        refine hK _ _ _ _ ⟨ni - (q + 1), by omega, q + 1, r, wrap_succ (by omega), by omega, rfl, ?_, ?_⟩
        · rw [hd']; exact hs
        · rw [hd']; exact h54.drop 1
    · have hqn : q = ni := by omega
      rw [List.take_of_length_le (by omega)] at hs h32 hnm
      have hm : b.params ++ dsts b.ins = b.made := rfl
      have hml : b.made.length ≤ 2097152 := by rw [← hm, List.length_append]; omega
      rw [hm] at hs h32
      rw [← List.length_append, hm] at hnm
      refine ⟨fun i w' c' => ∃ (s : Nat) (o : Obj), i = s ∧ s ≤ nm ∧ c' = nm - s ∧ Hp w w' ([(b21, Cl 47 [.slice ap np cp, .slice ai ni ci, .int .i64 b.fin.kind, .int .i64 b.fin.val, .slice ae ne ce, .int .i64 b.fin.trap]), (b5, o)] ++ (r.L 3 (b.made.map (Value.int .i64)) ++ [])) ∧
        MapO (setF ((f.blocks.take j).flatMap Blk.made ++ b.made.take s)) o ∧ (∀ v ∈ (f.blocks.take j).flatMap Blk.made ++ b.made.take s, 0 < v) ∧ ((f.blocks.take j).flatMap Blk.made ++ b.made.take s).Nodup,
        ⟨nm, 0, o, rfl, by omega, by omega, h32, by simpa using ho, by simpa using hpos, by simpa using hnd⟩, ?_⟩
      rintro i w58 c' ⟨s, o2, rfl, hs', rfl, h58, ho2, hpos2, hnd2⟩
      refine sp_dec (fun hlt3 => ?_) (fun hge3 => ?_)
      · have hz : b.made[s]? = some b.made[s] := List.getElem?_eq_getElem (by omega)
        have hsplit : b.made = b.made.take s ++ b.made[s] :: b.made.drop (s + 1) := by
          rw [← List.drop_eq_getElem_cons (by omega), List.take_append_drop]
        generalize b.made[s] = v at hz hsplit
        obtain ⟨bs, os, rfl, hcs⟩ := hs.cel_at [_, _] h58 (j := s) (v := .int .i64 v) (by rw [List.getElem?_map, hz]; rfl)
        refine ⟨by omega, by omega, ptAt_of rfl ⟨v, by simpa using hcs, ?_⟩⟩
        intro K1 hK1 K2 hK2
        have hfm : f.made = ((f.blocks.take j).flatMap Blk.made ++ b.made.take s) ++ v :: (b.made.drop (s + 1) ++ (f.blocks.drop (j + 1)).flatMap Blk.made) := by
          rw [hmade]
          conv => lhs; rw [hsplit]
          simp
        refine sp_dec (fun hv => ?_) (fun hv => ?_)
        · exact hK2 _ ⟨by rw [once_false (l3 := []) hfm (.inl hv)], h58.ext⟩
        · refine ⟨decide (v ∈ (f.blocks.take j).flatMap Blk.made ++ b.made.take s), ?_, sp_dec (fun hin => ?_) (fun hin => ?_)⟩
          · rw [look_map mpBool zB (h58.rmap 1 rfl ho2), getD_setF]
          · exact hK2 _ ⟨by rw [once_false (l3 := []) hfm (.inr hin)], h58.ext⟩
          · obtain ⟨w66, o3, hu, ho3, h66⟩ := upd_map mpBool h58 1 rfl ho2 v (.bool true)
            have ht : b.made.take (s + 1) = b.made.take s ++ [v] := by rw [List.take_add_one, hz]; rfl
            refine hK1 _ ⟨w66, hu, nm - (s + 1), by omega, s + 1, o3, wrap_succ (by simp only [maxLen]; omega), by omega, rfl, h66, ?_, ?_, ?_⟩
            · rw [ht, ← List.append_assoc]; exact ho3.add
            · rw [ht, ← List.append_assoc]
              intro y hy
              rcases List.mem_append.1 hy with hy | hy
              · exact hpos2 y hy
              · simp at hy; omega
            · rw [ht, ← List.append_assoc, nodup_snoc]
              exact ⟨hnd2, hin⟩
      · have hsn : s = nm := by omega
        have hst : b.made.take s = b.made := List.take_of_length_le (by omega)
        rw [hst] at ho2 hpos2 hnd2
        have ht : (f.blocks.take (j + 1)).flatMap Blk.made = (f.blocks.take j).flatMap Blk.made ++ b.made := by rw [List.take_add_one, hx]; simp
        refine ⟨n - (j + 1), by omega, j + 1, o2, wrap_succ (by omega), by omega, rfl, h58.sub (by simp), ?_, ?_, ?_⟩
        · rw [ht]; exact ho2
        · rw [ht]; exact hpos2
        · rw [ht]; exact hnd2
  · have hjn : j = n := by omega
    rw [List.take_of_length_le (by omega)] at hpos hnd
    refine ⟨?_, h10.ext⟩
    have : once f = true := by unfold once; rw [decide_eq_true_iff]; exact ⟨hpos, hnd⟩
    rw [this]
theorem ends_w {w : World} {f : Fnc} {vs : List Value} (h : RFunc w vs f) {e : Fin} {ae : Option Addr} {ne ce : Nat} (he : RdS 2 REdge w ae ne e.ways) :
    CallP Pg 27 [.agg ⟨vs⟩, .agg ⟨[.int .i64 e.kind, .int .i64 e.val, .slice ae ne ce, .int .i64 e.trap]⟩] w fun v w' => v = .bool (endsOk f.blocks e) ∧ Ext w w' := by
  obtain ⟨a, n, c, rfl, hb⟩ := h
  refine F27_ok _ _ _ _ _ _ _ _ _ _ ?_
  unfold F27
  refine alp (Hp.refl w) fun b7 w8 h8 => ?_
  refine alp h8 fun b9 w10 h10 => ?_
  refine alm h10 fun b11 w12 h12 => ?_
  obtain ⟨w13, o13, hu1, ho1, h13⟩ := upd_map mpEnds h12 0 rfl MapO.empty 1 (.int .i64 1)
  obtain ⟨w14, o14, hu2, ho2, h14⟩ := upd_map mpEnds h13 0 rfl ho1 2 (.int .i64 2)
  obtain ⟨w15, o15, hu3, ho3, h15⟩ := upd_map mpEnds h14 0 rfl ho2 3 (.int .i64 0)
  obtain ⟨w16, o16, hu4, ho4, h16⟩ := upd_map mpEnds h15 0 rfl ho3 4 (.int .i64 0)
  have hbl := hb.len
  have hble := hb.le
  have hel := he.len
  have hele := he.le
  refine ⟨w13, hu1, w14, hu2, w15, hu3, w16, hu4, _, h16.cl 1 rfl rfl, (if e.kind = 1 then 1 else if e.kind = 2 then 2 else 0 : Int), (decide (1 ≤ e.kind) && decide (e.kind ≤ 4)), ?_, ?_⟩
  · rw [look_map2 mpEnds zI (p := some b11) (h16.rmap 0 rfl ho4) e.kind]
    by_cases k4 : e.kind = 4
    · simp [k4]
    by_cases k3 : e.kind = 3
    · simp [k3]
    by_cases k2 : e.kind = 2
    · simp [k2]
    by_cases k1 : e.kind = 1
    · simp [k1]
    · have : ¬ (1 ≤ e.kind ∧ e.kind ≤ 4) := by omega
      simp [k1, k2, k3, k4]
      omega
  intro K hK K0 hK0
  have hbad : endsOk f.blocks e = false → K0 w16 := fun hf => hK0 _ ⟨by rw [hf], h16.ext⟩
  have hgood : endsOk f.blocks e = e.ways.all (wayOk f.blocks) → K w16 := by
    intro hall
    refine hK _ ⟨_, _, _, h16.cl 1 rfl rfl, ?_⟩
    refine ⟨fun i w' c' => ∃ (j : Nat), i = j ∧ j ≤ ne ∧ c' = ne - j ∧ Hp w w' [(b11, o16), (b9, Cl 45 [.int .i64 e.kind, .int .i64 e.val, .slice ae ne ce, .int .i64 e.trap]), (b7, Cl 29 [.string f.name, .slice a n c])] ∧ ((e.ways.take j).all (wayOk f.blocks)) = true,
      ⟨ne, 0, rfl, by omega, by omega, h16, by simp⟩, ?_⟩
    rintro i w25 c' ⟨j, rfl, hj, rfl, h25, hw⟩
    refine sp_dec (fun hlt => ?_) (fun hge => ?_)
    · have hx : e.ways[j]? = some e.ways[j] := List.getElem?_eq_getElem (by omega)
      generalize e.ways[j] = x at hx
      obtain ⟨bb, ob, vs, ha, hrow, hvl, aa, na, ca, rfl, hargs⟩ := he.at_ _ _ hx
      refine ⟨by omega, by omega, ptAt_of ha ⟨_, _, _, _, h25.ext.row hrow, ?_⟩⟩
      refine alp h25 fun b32 w33 h33 => ?_
      refine stp h33 0 rfl (by simp) rfl fun w34 h34 => ?_
      intro K35 hK35
      have hd := h34.drew
      have key : ∀ q, q = !wayOk f.blocks x → K35 q w34.drew := by
        intro q hq
        refine hK35 q _ ?_
        subst hq
        refine sp_of (fun hbw => ⟨?_, hd.ext⟩) (fun hgw => ?_)
        · rw [hall]
          have : (e.ways.all (wayOk f.blocks)) = false := by
            rw [List.all_eq_false]
            exact ⟨x, List.mem_of_getElem? hx, by simpa using hbw⟩
          rw [this]
        · have hgw' : wayOk f.blocks x = true := by simpa using hgw
          refine ⟨ne - (j + 1), by omega, j + 1, wrap_succ (by omega), by omega, rfl, hd.drop 1, ?_⟩
          rw [List.take_add_one, hx, List.all_append, hw]; simp [hgw']
      have hal := hargs.len
      refine ⟨_, hd.cl 0 rfl rfl, sp_dec (fun h1 => key _ ?_) (fun h1 => ⟨_, hd.cl 0 rfl rfl, _, _, _, hd.cl 3 rfl rfl, sp_dec (fun h2 => key _ ?_) (fun h2 => ?_)⟩)⟩
      · have : ¬ 1 ≤ x.to := by omega
        simp [wayOk, this]
      · have : ¬ x.to < f.blocks.length := by omega
        simp [wayOk, this]
      · have htl : x.to.toNat < f.blocks.length := by omega
        have hbk := List.getElem?_eq_getElem htl
        generalize f.blocks[x.to.toNat] = bk at hbk
        obtain ⟨bt, ot, ap, np, cp, ai, ni, ci, ax, nx, cx, hat, hrowt, hp, hi, hex⟩ := blkOf hb hbk
        refine ⟨_, _, _, hd.cl 0 rfl rfl, _, _, _, hd.cl 3 rfl rfl, _, hd.cl 0 rfl rfl, by omega, by omega, ptAt_of hat ⟨ap, np, cp, hd.ext.cel ?_, key _ ?_⟩⟩
        · exact hrowt 0 _ rfl
        · have hpl := hp.len
          have h1' : 1 ≤ x.to := by omega
          have h2' : x.to < f.blocks.length := by omega
          simp only [wayOk, h1', h2', hbk, decide_true, Bool.true_and]
          rw [← hal, ← hpl]
          exact congrArg Bool.not (decide_eq_decide.2 ⟨fun h => by omega, fun h => by omega⟩)
    · have : j = ne := by omega
      rw [List.take_of_length_le (by omega)] at hw
      exact ⟨by rw [hall, hw], h25.ext⟩
  have hend : endsOk f.blocks e = ((decide (1 ≤ e.kind) && decide (e.kind ≤ 4)) && decide (((ne : Nat) : Int) = if e.kind = 1 then 1 else if e.kind = 2 then 2 else 0) && (decide (e.kind = 4) == (decide (e.trap = 1) || decide (e.trap = 2))) &&
      ((decide (e.kind = 2) || decide (e.kind = 3)) == decide (0 < e.val)) && !decide (e.val < 0) && e.ways.all (wayOk f.blocks)) := by rw [endsOk, hel]
  rw [hend] at hbad hgood
  clear hend hK hK0
  obtain ⟨C, hC⟩ : ∃ x, x = (decide (1 ≤ e.kind) && decide (e.kind ≤ 4)) := ⟨_, rfl⟩
  obtain ⟨W, hW⟩ : ∃ x, x = decide (((ne : Nat) : Int) = if e.kind = 1 then 1 else if e.kind = 2 then 2 else 0) := ⟨_, rfl⟩
  obtain ⟨k4, hk4⟩ : ∃ x, x = decide (e.kind = 4) := ⟨_, rfl⟩
  obtain ⟨t1, ht1⟩ : ∃ x, x = decide (e.trap = 1) := ⟨_, rfl⟩
  obtain ⟨t2, ht2⟩ : ∃ x, x = decide (e.trap = 2) := ⟨_, rfl⟩
  obtain ⟨k2, hk2⟩ : ∃ x, x = decide (e.kind = 2) := ⟨_, rfl⟩
  obtain ⟨k3, hk3⟩ : ∃ x, x = decide (e.kind = 3) := ⟨_, rfl⟩
  obtain ⟨P, hP⟩ : ∃ x, x = decide (0 < e.val) := ⟨_, rfl⟩
  obtain ⟨N, hN⟩ : ∃ x, x = decide (e.val < 0) := ⟨_, rfl⟩
  obtain ⟨A, hA⟩ : ∃ x, x = e.ways.all (wayOk f.blocks) := ⟨_, rfl⟩
  rw [← hC, ← hW, ← hk4, ← ht1, ← ht2, ← hk2, ← hk3, ← hP, ← hN, ← hA] at hbad hgood
  refine sp_of (fun g1 => hbad (by simp only [← hC, ← hW, ← hk4, ← ht1, ← ht2, ← hk2, ← hk3, ← hP, ← hN] at *; revert g1; cases C <;> simp)) (fun g1 => ⟨_, _, _, h16.cl 1 rfl rfl, sp_of (fun g2 => hbad (by simp only [← hC, ← hW, ← hk4, ← ht1, ← ht2, ← hk2, ← hk3, ← hP, ← hN] at *; revert g2; cases W <;> simp)) (fun g2 => ⟨_, h16.cl 1 rfl rfl, _, h16.cl 1 rfl rfl, ?_⟩)⟩)
  simp only [← hC, ← hW] at g1 g2
  have e1 : C = true := by simpa using g1
  have e2 : W = true := by simpa using g2
  rw [e1, e2] at hbad hgood
  refine sp_of (fun g3 => sp_of (fun g4 => hbad (by simp only [← hC, ← hW, ← hk4, ← ht1, ← ht2, ← hk2, ← hk3, ← hP, ← hN] at *; subst g3; revert g4; cases k4 <;> simp)) (fun g4 => ?_)) (fun g3 => ⟨_, h16.cl 1 rfl rfl, sp_of (fun g4 => hbad (by simp only [← hC, ← hW, ← hk4, ← ht1, ← ht2, ← hk2, ← hk3, ← hP, ← hN] at *; subst g3; revert g4; cases k4 <;> cases t2 <;> simp)) (fun g4 => ?_)⟩)
  · have e3 : (k4 == (t1 || t2)) = true := by
      simp only [← hk4, ← ht1, ← ht2] at g3 g4
      subst g3; revert g4; cases k4 <;> simp
    rw [e3] at hbad hgood
    refine ⟨_, h16.cl 1 rfl rfl, sp_of (fun g5 => ⟨_, h16.cl 1 rfl rfl, sp_of (fun g6 => hbad (by simp only [← hC, ← hW, ← hk4, ← ht1, ← ht2, ← hk2, ← hk3, ← hP, ← hN] at *; subst g5; revert g6; cases P <;> simp)) (fun g6 => ⟨_, h16.cl 1 rfl rfl, sp_of (fun g7 => hbad (by simp only [← hC, ← hW, ← hk4, ← ht1, ← ht2, ← hk2, ← hk3, ← hP, ← hN] at *; subst g7; simp)) (fun g7 => hgood (by simp only [← hC, ← hW, ← hk4, ← ht1, ← ht2, ← hk2, ← hk3, ← hP, ← hN] at *; subst g7 g5; revert g6; cases P <;> simp))⟩)⟩)
      (fun g5 => ⟨_, h16.cl 1 rfl rfl, _, h16.cl 1 rfl rfl, sp_of (fun g6 => hbad (by simp only [← hC, ← hW, ← hk4, ← ht1, ← ht2, ← hk2, ← hk3, ← hP, ← hN] at *; subst g5; revert g6; cases P <;> cases k3 <;> simp)) (fun g6 => ⟨_, h16.cl 1 rfl rfl, sp_of (fun g7 => hbad (by simp only [← hC, ← hW, ← hk4, ← ht1, ← ht2, ← hk2, ← hk3, ← hP, ← hN] at *; subst g7; simp)) (fun g7 => hgood (by simp only [← hC, ← hW, ← hk4, ← ht1, ← ht2, ← hk2, ← hk3, ← hP, ← hN] at *; subst g7 g5; revert g6; cases P <;> cases k3 <;> simp))⟩)⟩)⟩
  · have e3 : (k4 == (t1 || t2)) = true := by
      simp only [← hk4, ← ht1, ← ht2] at g3 g4
      subst g3; revert g4; cases k4 <;> cases t2 <;> simp
    rw [e3] at hbad hgood
    refine ⟨_, h16.cl 1 rfl rfl, sp_of (fun g5 => ⟨_, h16.cl 1 rfl rfl, sp_of (fun g6 => hbad (by simp only [← hC, ← hW, ← hk4, ← ht1, ← ht2, ← hk2, ← hk3, ← hP, ← hN] at *; subst g5; revert g6; cases P <;> simp)) (fun g6 => ⟨_, h16.cl 1 rfl rfl, sp_of (fun g7 => hbad (by simp only [← hC, ← hW, ← hk4, ← ht1, ← ht2, ← hk2, ← hk3, ← hP, ← hN] at *; subst g7; simp)) (fun g7 => hgood (by simp only [← hC, ← hW, ← hk4, ← ht1, ← ht2, ← hk2, ← hk3, ← hP, ← hN] at *; subst g7 g5; revert g6; cases P <;> simp))⟩)⟩)
      (fun g5 => ⟨_, h16.cl 1 rfl rfl, _, h16.cl 1 rfl rfl, sp_of (fun g6 => hbad (by simp only [← hC, ← hW, ← hk4, ← ht1, ← ht2, ← hk2, ← hk3, ← hP, ← hN] at *; subst g5; revert g6; cases P <;> cases k3 <;> simp)) (fun g6 => ⟨_, h16.cl 1 rfl rfl, sp_of (fun g7 => hbad (by simp only [← hC, ← hW, ← hk4, ← ht1, ← ht2, ← hk2, ← hk3, ← hP, ← hN] at *; subst g7; simp)) (fun g7 => hgood (by simp only [← hC, ← hW, ← hk4, ← ht1, ← ht2, ← hk2, ← hk3, ← hP, ← hN] at *; subst g7 g5; revert g6; cases P <;> cases k3 <;> simp))⟩)⟩)⟩
theorem right_w {w : World} {p : Prg} {vs : List Value} (h : RProg w vs p) {i : Ins} {us : List Value} (hi : RIns w us i) :
    CallP Pg 30 [.agg ⟨vs⟩, .agg ⟨us⟩] w fun v w' => v = .bool (rightOk p i) ∧ Ext w w' := by
  obtain ⟨aa, na, ca, af, nf, cf, rfl, harr, hfun⟩ := h
  obtain ⟨ai, ni, ci, rfl, hargs⟩ := hi
  refine F30_ok _ _ _ _ _ _ _ _ _ _ _ _ _ _ _ _ ?_
  unfold F30
  refine alp (Hp.refl w) fun b11 w12 h12 => ?_
  refine alp h12 fun b13 w14 h14 => ⟨_, h14.cl 0 rfl rfl, (shape_w i.op w14).mono ?_⟩
  rintro v w17 ⟨rfl, rfl⟩
  refine ⟨_, _, rfl, ?_⟩
  have hal := hargs.len
  have harl := harr.len
  have hfl := hfun.len
  intro K20 hK20 K66 hK66
  obtain ⟨tail, htail⟩ : ∃ t : Bool, t = (if i.op = 2 then opKnown i.bin
   else if i.op = 3 ∨ i.op = 4 then decide (0 ≤ i.arr) && (match p.arrs[i.arr.toNat]? with | some a => decide (a.size = 0) | none => false)
   else if i.op = 5 ∨ i.op = 6 then decide (0 ≤ i.arr) && (match p.arrs[i.arr.toNat]? with | some a => decide (0 < a.size) | none => false)
   else if i.op = 7 then decide (0 ≤ i.fn) && (match p.funcs[i.fn.toNat]? with | some f => (match f.blocks with | b :: _ => decide (i.args.length = b.params.length) | [] => false) | none => false)
   else true) := ⟨_, rfl⟩
  have hE : rightOk p i = (!decide ((shapeOf i.op).1 = -2) && !(decide (0 ≤ (shapeOf i.op).1) && !decide (((ni : Nat) : Int) = (shapeOf i.op).1)) && ((shapeOf i.op).2 == decide (0 < i.dst)) && !decide (i.dst < 0) && tail) := by
    rw [htail, rightOk, hal]; rfl
  have hbad : rightOk p i = false → K66 w17 := fun hf => hK66 _ ⟨by rw [hf], h14.ext⟩
  have hgood : rightOk p i = tail → K20 w17 := by
    intro he
    refine hK20 _ ⟨_, h14.cl 0 rfl rfl, sp_dec (fun h2 => ?_) (fun h2 => ?_)⟩
    · refine ⟨_, h14.cl 0 rfl rfl, (known_op i.bin w17).mono ?_⟩
      rintro v w' ⟨rfl, rfl⟩
      exact ⟨_, rfl, by rw [he, htail, if_pos h2], h14.ext⟩
    rw [if_neg h2] at htail
    intro K27 hK27
    have k27 : ∀ x, x = decide (i.op = 3 ∨ i.op = 4) → K27 x w17 := by
      intro x hx
      refine hK27 x _ ?_
      subst hx
      refine sp_dec (fun h3 => ?_) (fun h3 => ?_)
      · rw [if_pos h3] at htail
        refine ⟨_, h14.cl 0 rfl rfl, sp_dec (fun h0 => ⟨_, h14.cl 0 rfl rfl, _, _, _, h14.cl 1 rfl rfl, sp_dec (fun hl => ?_) (fun hl => ?_)⟩) (fun h0 => ⟨?_, h14.ext⟩)⟩
        · have hx : p.arrs[i.arr.toNat]? = some p.arrs[i.arr.toNat] := List.getElem?_eq_getElem (by omega)
          generalize p.arrs[i.arr.toNat] = x at hx
          obtain ⟨bb, ob, vs, ha, hrow, hvl, rfl⟩ := harr.at_ _ _ hx
          refine ⟨_, _, _, h14.cl 1 rfl rfl, _, h14.cl 0 rfl rfl, h0, hl, ptAt_of ha ⟨x.size, h14.ext.cel (hrow 2 _ rfl), ?_, h14.ext⟩⟩
          rw [he, htail, hx]; simp [h0]
        · have : p.arrs[i.arr.toNat]? = none := List.getElem?_eq_none (by omega)
          refine ⟨?_, h14.ext⟩
          rw [he, htail, this]; simp
        · rw [he, htail]; simp [h0]
      · rw [if_neg h3] at htail
        intro K38 hK38
        have k38 : ∀ x, x = decide (i.op = 5 ∨ i.op = 6) → K38 x w17 := by
          intro x hx
          refine hK38 x _ ?_
          subst hx
          refine sp_dec (fun h5 => ?_) (fun h5 => ?_)
          · rw [if_pos h5] at htail
            refine ⟨_, h14.cl 0 rfl rfl, sp_dec (fun h0 => ⟨_, h14.cl 0 rfl rfl, _, _, _, h14.cl 1 rfl rfl, sp_dec (fun hl => ?_) (fun hl => ?_)⟩) (fun h0 => ⟨?_, h14.ext⟩)⟩
            · have hx : p.arrs[i.arr.toNat]? = some p.arrs[i.arr.toNat] := List.getElem?_eq_getElem (by omega)
              generalize p.arrs[i.arr.toNat] = x at hx
              obtain ⟨bb, ob, vs, ha, hrow, hvl, rfl⟩ := harr.at_ _ _ hx
              refine ⟨_, _, _, h14.cl 1 rfl rfl, _, h14.cl 0 rfl rfl, h0, hl, ptAt_of ha ⟨x.size, h14.ext.cel (hrow 2 _ rfl), ?_, h14.ext⟩⟩
              rw [he, htail, hx]; simp [h0]
            · have : p.arrs[i.arr.toNat]? = none := List.getElem?_eq_none (by omega)
              refine ⟨?_, h14.ext⟩
              rw [he, htail, this]; simp
            · rw [he, htail]; simp [h0]
          · rw [if_neg h5] at htail
            have hd := h14.drew
            refine sp_dec (fun h7 => ?_) (fun h7 => ?_)
            · rw [if_pos h7] at htail
              refine ⟨_, hd.cl 0 rfl rfl, sp_dec (fun h0 => ⟨_, hd.cl 0 rfl rfl, _, _, _, hd.cl 1 rfl rfl, sp_dec (fun hl => ?_) (fun hl => ?_)⟩) (fun h0 => ⟨?_, hd.ext⟩)⟩
              · have hx : p.funcs[i.fn.toNat]? = some p.funcs[i.fn.toNat] := List.getElem?_eq_getElem (by omega)
                generalize p.funcs[i.fn.toNat] = x at hx
                obtain ⟨bb, ob, vs, ha, hrow, hvl, ab, nb, cb, rfl, hbs⟩ := hfun.at_ _ _ hx
                have hbl := hbs.len
                refine ⟨_, _, _, hd.cl 1 rfl rfl, _, hd.cl 0 rfl rfl, h0, hl, ptAt_of ha ⟨ab, nb, cb, hd.ext.cel (hrow 1 _ rfl), sp_dec (fun hpos => ?_) (fun hpos => ?_)⟩⟩
                · obtain ⟨k, ks, hk⟩ : ∃ k ks, x.blocks = k :: ks := by
                    cases hq : x.blocks with
                    | nil => rw [hq] at hbl; simp at hbl; omega
                    | cons k ks => exact ⟨k, ks, rfl⟩
                  obtain ⟨bt, ot, ap, np, cp, ai2, ni2, ci2, ax, nx, cx, hat, hrowt, hp, hi, hex⟩ := blkOf hbs (i := 0) (b := k) (by rw [hk]; rfl)
                  have hpl := hp.len
                  refine ⟨_, _, _, hd.cl 0 rfl rfl, _, _, _, hd.cl 1 rfl rfl, _, hd.cl 0 rfl rfl, h0, hl, ptAt_of ha ⟨ab, nb, cb, hd.ext.cel (hrow 1 _ rfl), by omega, by omega, ptAt_of hat ⟨ap, np, cp, hd.ext.cel ?_, ?_, hd.ext⟩⟩⟩
                  · have := hrowt 0 _ rfl; simp only [Nat.zero_mul, Nat.add_zero] at this; exact this
                  · rw [he, htail, hx]
                    simp only [hk, h0, decide_true, Bool.true_and]
                    congr 1
                    exact decide_eq_decide.2 ⟨fun h => by omega, fun h => by omega⟩
                · have hq : x.blocks = [] := List.eq_nil_of_length_eq_zero (by omega)
                  refine ⟨?_, hd.ext⟩
                  rw [he, htail, hx]; simp [hq]
              · have : p.funcs[i.fn.toNat]? = none := List.getElem?_eq_none (by omega)
                refine ⟨?_, hd.ext⟩
                rw [he, htail, this]; simp
              · rw [he, htail]; simp [h0]
            · rw [if_neg h7] at htail
              exact ⟨by rw [he, htail], h14.ext⟩
        exact sp_dec (fun h5 => k38 _ (by simp [h5])) (fun h5 => k38 _ (by simp [h5]))
    exact sp_dec (fun h5 => k27 _ (by simp [h5])) (fun h5 => k27 _ (by simp [h5]))
  rw [hE] at hbad hgood
  clear hE htail hK20 hK66
  generalize (shapeOf i.op).1 = n at *
  generalize (shapeOf i.op).2 = has at *
  refine sp_dec (fun g1 => hbad (by simp [g1])) (fun g1 => ?_)
  refine sp_dec (fun g2 => ⟨_, _, _, h14.cl 0 rfl rfl, sp_of (fun g3 => hbad ?_) (fun g3 => ⟨_, h14.cl 0 rfl rfl, sp_of (fun g4 => hbad ?_) (fun g4 => ⟨_, h14.cl 0 rfl rfl, sp_dec (fun g5 => hbad ?_) (fun g5 => hgood ?_)⟩)⟩)⟩)
    (fun g2 => ⟨_, h14.cl 0 rfl rfl, sp_of (fun g4 => hbad ?_) (fun g4 => ⟨_, h14.cl 0 rfl rfl, sp_dec (fun g5 => hbad ?_) (fun g5 => hgood ?_)⟩)⟩)
  · simp only [g3, g2]; simp
  · have g4' : (has == decide (0 < i.dst)) = false := by simpa using g4
    rw [g4']; simp
  · simp [g5]
  · have g3' : decide (((ni : Nat) : Int) = n) = true := by simpa using g3
    have g4' : (has == decide (0 < i.dst)) = true := by simpa using g4
    rw [g3', g4']; simp [g1, g5]
  · have g4' : (has == decide (0 < i.dst)) = false := by simpa using g4
    rw [g4']; simp
  · simp [g5]
  · have g4' : (has == decide (0 < i.dst)) = true := by simpa using g4
    rw [g4']; simp [g1, g2, g5]
theorem check1_w {w : World} {p : Prg} {vs : List Value} (h : RProg w vs p) {i : Ins} {us : List Value} (hi : RIns w us i) {b o : Nat} (hb : Row w b o vs) :
    CallP Pg 29 [.agg ⟨us⟩, .pointer (some ⟨b, o, none⟩)] w fun v w' => v = .bool (!rightOk p i) ∧ Ext w w' := by
  have h' := h
  obtain ⟨aa, na, ca, af, nf, cf, rfl, harr, hfun⟩ := h
  have hi' := hi
  obtain ⟨ai, ni, ci, rfl, hargs⟩ := hi
  refine F29_ok _ _ _ _ _ _ _ _ _ _ _ ?_
  unfold F29
  refine alp (Hp.refl w) fun b10 w11 h11 => ?_
  refine ⟨_, _, _, _, _, _, _, h11.ext.row hb, _, _, _, _, _, _, _, _, _, h11.row 0 rfl, ?_⟩
  refine (right_w (h'.ext h11.ext) (hi'.ext' h11.ext)).mono ?_
  rintro v w23 ⟨rfl, hx⟩
  exact ⟨_, rfl, rfl, h11.ext.trans hx⟩
end Go.Pl.Try

/- The loops of 'Reach' and 'known' come to an end. -/
namespace Go.Pl.M
set_option linter.unusedVariables false
theorem count_set_f {out : List Bool} {i : Nat} (h : out[i]? = some false) : (out.set i true).count false + 1 = out.count false := by
  have hi := (List.getElem?_eq_some_iff.1 h).1
  have hv := (List.getElem?_eq_some_iff.1 h).2
  rw [List.count_set hi]
  have : 0 < out.count false := by
    rw [List.count_pos_iff]
    exact hv ▸ List.getElem_mem hi
  simp [hv]
  omega
theorem reachIn_facts (n : Nat) : ∀ (ws : List Edg) (out : List Bool) (todo : List Int), out.length = n → (∀ t ∈ todo, 0 ≤ t ∧ t < n) →
    (reachIn n ws out todo).1.length = n ∧ (∀ t ∈ (reachIn n ws out todo).2, 0 ≤ t ∧ t < n) ∧ (reachIn n ws out todo).2.length + (reachIn n ws out todo).1.count false = todo.length + out.count false
  | [], out, todo, h, ht => ⟨h, ht, rfl⟩
  | w :: ws, out, todo, h, ht => by
    rw [reachIn]
    split
    · rename_i hc
      have := reachIn_facts n ws (out.set w.to.toNat true) (todo ++ [w.to]) (by simpa using h) (by
        intro t hm
        rcases List.mem_append.1 hm with hm | hm
        · exact ht t hm
        · simp at hm; subst hm; exact ⟨hc.1, hc.2.1⟩)
      refine ⟨this.1, this.2.1, ?_⟩
      rw [this.2.2]
      have := count_set_f hc.2.2
      simp
      omega
    · exact reachIn_facts n ws out todo h ht
theorem reachGo_some (bs : List Blk) : ∀ (k : Nat) (out : List Bool) (todo : List Int), out.length = bs.length → (∀ t ∈ todo, 0 ≤ t ∧ t < bs.length) → todo.length + out.count false < k →
    ∃ r, reachGo bs k out todo = some r ∧ r.length = bs.length
  | 0, _, _, _, _, h => by omega
  | k + 1, out, [], ho, _, _ => ⟨out, rfl, ho⟩
  | k + 1, out, t :: todo, ho, ht, h => by
    have h0 := ht t (by simp)
    have hb : bs[t.toNat]? = some (bs[t.toNat]'(by omega)) := List.getElem?_eq_getElem (by omega)
    rw [reachGo, hb]
    simp only [h0.1, if_true]
    have hf := reachIn_facts bs.length (bs[t.toNat]'(by omega)).fin.ways out todo ho (fun x hx => ht x (by simp [hx]))
    refine reachGo_some bs k _ _ hf.1 hf.2.1 ?_
    rw [hf.2.2]
    simp at h
    omega
def Fnc.reach (f : Fnc) : List Bool := if f.blocks = [] then [] else (reachGo f.blocks (f.blocks.length + 2) ((List.replicate f.blocks.length false).set 0 true) [0]).getD []
theorem Fnc.reach_go {f : Fnc} (h : f.blocks.length ≠ 0) : ∃ k, reachGo f.blocks k ((List.replicate f.blocks.length false).set 0 true) [0] = some f.reach := by
  have h1 : f.blocks ≠ [] := fun e => h (by rw [e]; rfl)
  obtain ⟨r, hr, -⟩ := reachGo_some f.blocks (f.blocks.length + 2) ((List.replicate f.blocks.length false).set 0 true) [0] (by simp) (by simp; omega) (by
    have := count_set_f (out := List.replicate f.blocks.length false) (i := 0) (by rw [List.getElem?_replicate, if_pos (by omega)])
    simp only [List.length_cons, List.length_nil, List.count_replicate] at this ⊢
    simp at this ⊢
    omega)
  exact ⟨_, by rw [hr, Fnc.reach, if_neg h1, hr]; rfl⟩
theorem Fnc.reach_length (f : Fnc) : f.reach.length = f.blocks.length := by
  unfold Fnc.reach
  split
  · rename_i h; simp [h]
  · rename_i h
    have h0 : f.blocks.length ≠ 0 := fun e => h (List.eq_nil_of_length_eq_zero e)
    obtain ⟨r, hr, hl⟩ := reachGo_some f.blocks (f.blocks.length + 2) ((List.replicate f.blocks.length false).set 0 true) [0] (by simp) (by simp; omega) (by
      have := count_set_f (out := List.replicate f.blocks.length false) (i := 0) (by rw [List.getElem?_replicate, if_pos (by omega)])
      simp only [List.length_cons, List.length_nil, List.count_replicate] at this ⊢
      simp at this ⊢
      omega)
    rw [hr]; exact hl
theorem Fnc.reach_nil {f : Fnc} (h : f.blocks.length = 0) : f.reach = [] := by
  unfold Fnc.reach; rw [if_pos (List.eq_nil_of_length_eq_zero h)]
theorem filter_len {l : List Int} {p : Int → Bool} : (!decide ((l.filter p).length = l.length)) = !(l.all p) := by
  congr 1
  rw [Bool.eq_iff_iff, decide_eq_true_iff, List.all_eq_true]
  exact List.length_filter_eq_length_iff
end Go.Pl.M
