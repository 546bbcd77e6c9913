/- Joined texts of the proof, part 15: F24, F19, WCut5, WPlace, F7, WOf, Iter, F21, F8. -/
import Derived.Test.YtbacmadoenicnaaS14
import Derived.Shelf.SlIterI.Nil
import Derived.Shelf.SortM.Plain
import Derived.Shelf.SortM.SortNone
import Derived.Ground.GgzProg
import Derived.Ground.SlgmProg
import Derived.Test.YtbacmadoenicnaaProg
set_option maxRecDepth 2000
set_option linter.unusedVariables false
set_option linter.unusedSimpArgs false
set_option linter.unusedSectionVars false
/- What 'palings/cut.Least' does, read off its translation by gen.py. -/
namespace Go.Pl.Try
set_option linter.unusedVariables false
set_option maxRecDepth 100000
def F24 (an1 : Option Addr) (nn1 cn1 : Nat) (an2 : Option Addr) (nn2 cn2 : Nat) (an3 : Option Addr) (nn3 cn3 : Nat) (an4 : Option Addr) (nn4 cn4 : Nat) (w : World) (R : Value → World → Prop) : Prop :=
  AlP 62 [.slice an1 nn1 cn1, .slice an2 nn2 cn2, .slice an3 nn3 cn3, .slice an4 nn4 cn4] w fun b5 w6 =>
  ∃ (ax7 : Option Addr) (nx7 cx7 : Nat) (ax8 : Option Addr) (nx8 cx8 : Nat) (ax9 : Option Addr) (nx9 cx9 : Nat) (ax10 : Option Addr) (nx10 cx10 : Nat), Row w6 b5 0 [.slice ax7 nx7 cx7, .slice ax8 nx8 cx8, .slice ax9 nx9 cx9, .slice ax10 nx10 cx10] ∧
  CallP Pg 39 [.agg ⟨[.slice ax7 nx7 cx7, .slice ax8 nx8 cx8, .slice ax9 nx9 cx9, .slice ax10 nx10 cx10]⟩] w6 fun v11 w12 => ∃ (x13 : Bool), v11 = .bool x13 ∧
  sp (!x13)
  (R (.tuple ⟨[.slice none 0 0, .bool false]⟩) w12)
  (∃ (ax14 : Option Addr) (nx14 cx14 : Nat) (ax15 : Option Addr) (nx15 cx15 : Nat) (ax16 : Option Addr) (nx16 cx16 : Nat) (ax17 : Option Addr) (nx17 cx17 : Nat), Row w12 b5 0 [.slice ax14 nx14 cx14, .slice ax15 nx15 cx15, .slice ax16 nx16 cx16, .slice ax17 nx17 cx17] ∧
  CallP Pg 49 [.agg ⟨[.slice ax14 nx14 cx14, .slice ax15 nx15 cx15, .slice ax16 nx16 cx16, .slice ax17 nx17 cx17]⟩] w12 fun v18 w19 => ∃ (x20 : Option Addr), v18 = .pointer x20 ∧
  CallP Pg 50 [.pointer x20] w19 fun v21 w22 => ∃ (ax23 : Option Addr) (nx23 cx23 : Nat), v21 = .slice ax23 nx23 cx23 ∧
  ∃ J24 : Option Addr → Nat → Nat → World → Nat → Prop, (∃ m27, J24 ax23 nx23 cx23 w22 m27) ∧
  ∀ (aby25 : Option Addr) (nby25 cby25 : Nat), ∀ w26 m27, J24 aby25 nby25 cby25 w26 m27 →
  0 ≤ (IntKind.wrap .i64 ((nby25 : Nat) - 1) : Int) ∧ (IntKind.wrap .i64 ((nby25 : Nat) - 1) : Int) < (nby25 : Nat) ∧
  ptAt aby25 fun b29 o30 =>
  ∃ (x31 : Int), cel w26 b29 (o30 + (IntKind.wrap .i64 ((nby25 : Nat) - 1)).toNat * 1) = some (.int .i64 x31) ∧
  sp (!decide ((x31 : Int) = (-1)))
  (CallP Pg 51 [.pointer x20, .slice aby25 nby25 cby25] w26 fun v32 w33 => v32 = .tuple ⟨[]⟩ ∧
  CallP Pg 50 [.pointer x20] w33 fun v34 w35 => ∃ (ax36 : Option Addr) (nx36 cx36 : Nat), v34 = .slice ax36 nx36 cx36 ∧
  ∃ m28, m28 < m27 ∧ J24 ax36 nx36 cx36 w35 m28)
  (∃ (ax37 : Option Addr) (nx37 cx37 : Nat), cel w26 b5 0 = some (.slice ax37 nx37 cx37) ∧
  ∃ J38 : Option Addr → Nat → Nat → Int → World → Nat → Prop, (∃ m42, J38 none 0 0 0 w26 m42) ∧
  ∀ (aout39 : Option Addr) (nout39 cout39 : Nat) (x40 : Int), ∀ w41 m42, J38 aout39 nout39 cout39 x40 w41 m42 →
  sp (decide ((x40 : Int) < (nx37 : Nat)))
  (∀ K44 : Option Addr → Nat → Nat → World → Prop, (∀ (aout45 : Option Addr) (nout45 cout45 : Nat), ∀ w46, (
  ∃ m43, m43 < m42 ∧ J38 aout45 nout45 cout45 (IntKind.wrap .i64 (x40 + 1)) w46 m43) → K44 aout45 nout45 cout45 w46) →
  0 ≤ (IntKind.wrap .i64 (2 * x40) : Int) ∧ (IntKind.wrap .i64 (2 * x40) : Int) < (nby25 : Nat) ∧
  ptAt aby25 fun b47 o48 =>
  ∃ (x49 : Int), cel w41 b47 (o48 + (IntKind.wrap .i64 (2 * x40)).toNat * 1) = some (.int .i64 x49) ∧
  sp (!decide ((x49 : Int) = (-1)))
  (0 ≤ (IntKind.wrap .i64 ((IntKind.wrap .i64 (2 * x40)) + 1) : Int) ∧ (IntKind.wrap .i64 ((IntKind.wrap .i64 (2 * x40)) + 1) : Int) < (nby25 : Nat) ∧
  ptAt aby25 fun b50 o51 =>
  ∃ (x52 : Int), cel w41 b50 (o51 + (IntKind.wrap .i64 ((IntKind.wrap .i64 (2 * x40)) + 1)).toNat * 1) = some (.int .i64 x52) ∧
  sp (decide ((x52 : Int) = (-1)))
  (AlP 3 [.int .i64 x40] w41 fun b53 w54 =>
  ∃ (ax55 : Option Addr) (nx55 cx55 : Nat), ∃ w56 : World, Sem.run Pg (Builtin.append_ #[34, 34] 34 ⟨[.slice aout39 nout39 cout39, .slice (some ⟨b53, 0, none⟩) 1 1]⟩) w54 = .ok (.slice ax55 nx55 cx55) w56 ∧
  K44 ax55 nx55 cx55 w56)
  (K44 aout39 nout39 cout39 w41))
  (K44 aout39 nout39 cout39 w41))
  (R (.tuple ⟨[.slice aout39 nout39 cout39, .bool true]⟩) w41)))
def T24 : List Sh := [.v (.agg [.sl, .sl, .sl, .sl]), .v (.one .ptr), .v (.one .sl), .v (.one .bool), .v (.one .ptr), .v (.one .sl), .v (.one .sl), .v (.one (.int .i64)), .v (.agg [.sl, .sl, .sl, .sl]), .v (.one .bool), .v (.one .bool), .v (.agg [.sl, .sl, .sl, .sl]), .v (.one .ptr), .v (.one .ptr), .v (.one .sl), .v (.one .sl), .v (.one .sl), .v (.one (.int .i64)), .v (.one (.int .i64)), .v (.one .ptr), .v (.one (.int .i64)), .v (.one .bool), .v (.one .ptr), .v (.one .sl), .t [], .v (.one .ptr), .v (.one .sl), .v (.one .ptr), .v (.one .sl), .v (.one (.int .i64)), .v (.one (.int .i64)), .v (.one .bool), .v (.one (.int .i64)), .v (.one .sl), .v (.one (.int .i64)), .v (.one (.int .i64)), .v (.one .ptr), .v (.one (.int .i64)), .v (.one .bool), .v (.one .bool), .v (.one .sl), .v (.one (.int .i64)), .v (.one (.int .i64)), .v (.one (.int .i64)), .v (.one .ptr), .v (.one (.int .i64)), .v (.one .bool), .v (.one .bool), .v (.one .sl), .v (.one (.int .i64)), .v (.one .sl), .v (.one .sl), .v (.one (.int .i64)), .v (.one .sl)]
def A24 : Ann := (.seq none .z (.seq none (.seq none .z (.cond (.seq none .z .z) .z)) (.seq none .z (.seq none .z (.seq none (.block none (.loop [5] (.seq none (.seq none .z (.cond .z .z)) (.block none (.seq none .z .z))))) (.seq none .z (.seq none (.seq none .z (.block none (.loop [6, 30] (.seq none .z (.seq none (.cond .z .z) (.seq none (.block (some [6]) (.seq none .z (.ifs none none .z .z))) .z)))))) (.seq none .z .z))))))))
theorem F24_eq (an1 : Option Addr) (nn1 cn1 : Nat) (an2 : Option Addr) (nn2 cn2 : Nat) (an3 : Option Addr) (nn3 cn3 : Nat) (an4 : Option Addr) (nn4 cn4 : Nat) (w : World) (R : Value → World → Prop) : F24 an1 nn1 cn1 an2 nn2 cn2 an3 nn3 cn3 an4 nn4 cn4 w R = denF Go.Proofs.Try.prog T24 Go.Proofs.Try.f24 A24 [.agg ⟨[.slice an1 nn1 cn1, .slice an2 nn2 cn2, .slice an3 nn3 cn3, .slice an4 nn4 cn4]⟩] w R := by kernel_rfl
theorem F24_ok (an1 : Option Addr) (nn1 cn1 : Nat) (an2 : Option Addr) (nn2 cn2 : Nat) (an3 : Option Addr) (nn3 cn3 : Nat) (an4 : Option Addr) (nn4 cn4 : Nat) {w : World} {R : Value → World → Prop} (h : F24 an1 nn1 cn1 an2 nn2 cn2 an3 nn3 cn3 an4 nn4 cn4 w R) : CallP Go.Proofs.Try.prog 24 [.agg ⟨[.slice an1 nn1 cn1, .slice an2 nn2 cn2, .slice an3 nn3 cn3, .slice an4 nn4 cn4]⟩] w R :=
  calls_den (fun _ => drawn (by kernel_rfl)) Go.Proofs.Try.func24 (Nat.le_of_ble_eq_true (by kernel_rfl)) ((F24_eq an1 nn1 cn1 an2 nn2 cn2 an3 nn3 cn3 an4 nn4 cn4 w R).mp h)
end Go.Pl.Try

/- What '(palings/cut.Net).Weight' does, read off its translation by gen.py. -/
namespace Go.Pl.Try
set_option linter.unusedVariables false
set_option maxRecDepth 100000
def F19 (an1 : Option Addr) (nn1 cn1 : Nat) (an2 : Option Addr) (nn2 cn2 : Nat) (an3 : Option Addr) (nn3 cn3 : Nat) (an4 : Option Addr) (nn4 cn4 : Nat) (alist5 : Option Addr) (nlist5 clist5 : Nat) (w : World) (R : Value → World → Prop) : Prop :=
  AlP 62 [.slice an1 nn1 cn1, .slice an2 nn2 cn2, .slice an3 nn3 cn3, .slice an4 nn4 cn4] w fun b6 w7 =>
  ∃ J8 : Int → Int → World → Nat → Prop, (∃ m12, J8 0 0 w7 m12) ∧
  ∀ (out9 : Int) (x10 : Int), ∀ w11 m12, J8 out9 x10 w11 m12 →
  sp (decide ((x10 : Int) < (nlist5 : Nat)))
  (∀ K14 : Int → World → Prop, (∀ (out15 : Int), ∀ w16, (
  ∃ m13, m13 < m12 ∧ J8 out15 (IntKind.wrap .i64 (x10 + 1)) w16 m13) → K14 out15 w16) →
  0 ≤ (x10 : Int) ∧ (x10 : Int) < (nlist5 : Nat) ∧
  ptAt alist5 fun b17 o18 =>
  ∃ (x19 : Int), cel w11 b17 (o18 + x10.toNat * 1) = some (.int .i64 x19) ∧
  sp (decide ((0 : Int) ≤ x19))
  (∃ (ax20 : Option Addr) (nx20 cx20 : Nat), cel w11 b6 0 = some (.slice ax20 nx20 cx20) ∧
  sp (decide ((x19 : Int) < (nx20 : Nat)))
  (∃ (ax21 : Option Addr) (nx21 cx21 : Nat), cel w11 b6 0 = some (.slice ax21 nx21 cx21) ∧
  0 ≤ (x19 : Int) ∧ (x19 : Int) < (nx21 : Nat) ∧
  ptAt ax21 fun b22 o23 =>
  ∃ (x24 : Int), cel w11 b22 (o23 + x19.toNat * 1) = some (.int .i64 x24) ∧
  K14 (IntKind.wrap .i64 (out9 + x24)) w11)
  (K14 out9 w11))
  (K14 out9 w11))
  (R (.int .i64 out9) w11)
def T19 : List Sh := [.v (.agg [.sl, .sl, .sl, .sl]), .v (.one .sl), .v (.one .ptr), .v (.one .any), .v (.one (.int .i64)), .v (.one (.int .i64)), .v (.one .any), .v (.one (.int .i64)), .v (.one .sl), .v (.one (.int .i64)), .v (.one (.int .i64)), .v (.one .bool), .v (.one .ptr), .v (.one (.int .i64)), .v (.one (.int .i64)), .v (.one .bool), .v (.one .bool), .v (.one (.int .i64)), .v (.one .ptr), .v (.one .sl), .v (.one (.int .i64)), .v (.one .bool), .v (.one .bool), .v (.one (.int .i64)), .v (.one .ptr), .v (.one .sl), .v (.one (.int .i64)), .v (.one .ptr), .v (.one (.int .i64)), .v (.one (.int .i64)), .v (.one (.int .i64)), .v (.one (.int .i64))]
def A19 : Ann := (.seq none .z (.seq none .z (.seq none (.seq none .z (.block none (.loop [5, 10] (.seq none .z (.seq none (.cond .z .z) (.seq none (.block (some [5]) (.seq none .z (.ifs none none .z .z))) .z)))))) (.seq none .z .z))))
theorem F19_eq (an1 : Option Addr) (nn1 cn1 : Nat) (an2 : Option Addr) (nn2 cn2 : Nat) (an3 : Option Addr) (nn3 cn3 : Nat) (an4 : Option Addr) (nn4 cn4 : Nat) (alist5 : Option Addr) (nlist5 clist5 : Nat) (w : World) (R : Value → World → Prop) : F19 an1 nn1 cn1 an2 nn2 cn2 an3 nn3 cn3 an4 nn4 cn4 alist5 nlist5 clist5 w R = denF Go.Proofs.Try.prog T19 Go.Proofs.Try.f19 A19 [.agg ⟨[.slice an1 nn1 cn1, .slice an2 nn2 cn2, .slice an3 nn3 cn3, .slice an4 nn4 cn4]⟩, .slice alist5 nlist5 clist5] w R := by kernel_rfl
theorem F19_ok (an1 : Option Addr) (nn1 cn1 : Nat) (an2 : Option Addr) (nn2 cn2 : Nat) (an3 : Option Addr) (nn3 cn3 : Nat) (an4 : Option Addr) (nn4 cn4 : Nat) (alist5 : Option Addr) (nlist5 clist5 : Nat) {w : World} {R : Value → World → Prop} (h : F19 an1 nn1 cn1 an2 nn2 cn2 an3 nn3 cn3 an4 nn4 cn4 alist5 nlist5 clist5 w R) : CallP Go.Proofs.Try.prog 19 [.agg ⟨[.slice an1 nn1 cn1, .slice an2 nn2 cn2, .slice an3 nn3 cn3, .slice an4 nn4 cn4]⟩, .slice alist5 nlist5 clist5] w R :=
  calls_den (fun _ => drawn (by kernel_rfl)) Go.Proofs.Try.func19 (Nat.le_of_ble_eq_true (by kernel_rfl)) ((F19_eq an1 nn1 cn1 an2 nn2 cn2 an3 nn3 cn3 an4 nn4 cn4 alist5 nlist5 clist5 w R).mp h)
end Go.Pl.Try

/- Nets: 'Least', 'Weight': walked. -/
namespace Go.Pl.Try
open M
set_option linter.unusedVariables false
/-- A run of 'Least' on a net. -/
def LeastRun (n : Net) (fin : Fl) : Prop := ∃ (I : Fl → Prop) (k : Nat), I n.mk' ∧ leastGo k n.mk' = some fin ∧ ∀ f, I f → f.Ready ∧ f.outs.length = n.all ∧ (f.found = true → I (f.push f.seek))
theorem least_w {w : World} {n : Net} {vs : List Value} (h : RNet w vs n) (hb : n.ways.length ≤ 68719476736 ∧ n.frm.length ≤ 68719476736 ∧ n.to.length ≤ 68719476736) {fin : Fl} (hrun : n.right = true → LeastRun n fin) :
    CallP Pg 24 [.agg ⟨vs⟩] w fun u w' => (n.right = false → u = .tuple ⟨[.slice none 0 0, .bool false]⟩ ∧ Ext w w') ∧
      (n.right = true → ∃ a c r, u = .tuple ⟨[.slice a (cutOf fin.seek n.weights.length).length c, .bool true]⟩ ∧ Sls 1 a (cutOf fin.seek n.weights.length).length c (ints (cutOf fin.seek n.weights.length)) r ∧ Hp w w' (r.L 3 (ints (cutOf fin.seek n.weights.length)))) := by
  have hN := h
  obtain ⟨aw, nw, cw, ay, ny, cy, af, nf, cf, at_, nt, ct, rfl, hw, hy, hf, ht⟩ := h
  have hwl := hw.len
  refine F24_ok _ _ _ _ _ _ _ _ _ _ _ _ ?_
  unfold F24
  refine alp (Hp.refl w) fun b5 w6 h6 => ⟨_, _, _, _, _, _, _, _, _, _, _, _, h6.row 0 rfl, ?_⟩
  refine (nright_w (hN.ext h6.ext) (by omega)).mono ?_
  rintro _ w12 ⟨rfl, hx12⟩
  have h12 := h6.step hx12
  refine ⟨_, rfl, sp_of (fun hno => ⟨fun _ => ⟨rfl, h12.ext⟩, fun he => by rw [he] at hno; cases hno⟩) (fun hyes => ?_)⟩
  have hr : n.right = true := by simpa using hyes
  obtain ⟨I, fuel, hI, hgo, hst⟩ := hrun hr
  refine ⟨_, _, _, _, _, _, _, _, _, _, _, _, h12.row 0 rfl, ?_⟩
  refine (make_w (hN.ext h12.ext) hr hb).mono ?_
  rintro _ w19 ⟨m, rfl, h19', hok⟩
  have h19 := h12.call h19'
  obtain ⟨N, hNN⟩ : ∃ N : Nat × Obj, N = (b5, Cl 62 [.slice aw nw cw, .slice ay ny cy, .slice af nf cf, .slice at_ nt ct]) := ⟨_, rfl⟩
  have h19 : Hp w w19 ([N] ++ FlL m n.mk') := by
    subst hNN
    exact h19.perm List.perm_append_comm
  have hall : n.all = 2 * nw + 2 := by rw [Net.all, hwl]
  have hn2 : nw ≤ 2000 := by
    unfold Net.right at hr
    simp only [Bool.and_eq_true, decide_eq_true_eq] at hr
    omega
  obtain ⟨hrd, hol, hnx⟩ := hst _ hI
  refine ⟨_, rfl, ?_⟩
  refine (seek_w h19 hok hrd.shape hrd.nodes hrd.many hrd.rows).mono ?_
  rintro _ w22 ⟨bb, rfl, h22⟩
  refine ⟨_, _, _, rfl, ?_⟩
  refine ⟨fun a nn c w' k => ∃ (f : Fl) (m' : FlM) (bb : Nat), m'.bf = m.bf ∧ a = some ⟨bb, 0, none⟩ ∧ nn = 2 * nw + 2 ∧ c = nn ∧ Hp w w' ([(bb, Cl 3 (ints f.seek)), N] ++ FlL m' f) ∧ FlOk m' f ∧ I f ∧ leastGo k f = some fin,
    ⟨fuel, n.mk', m, bb, rfl, rfl, by rw [hol, hall], rfl, h22, hok, hI, hgo⟩, ?_⟩
  clear h22 hok hI hgo hrd hol hnx h19 h19'
  rintro a nn c w26 k ⟨f, m2, bb, hmb, rfl, rfl, rfl, h26, hok, hI, hgo⟩
  obtain ⟨hrd, hol, hnx⟩ := hst _ hI
  rw [hall] at hol
  obtain ⟨-, -, hsl⟩ := Fl.seek_go hrd.shape
  rw [hol] at hsl
  cases k with
  | zero => simp [leastGo] at hgo
  | succ k =>
  rw [leastGo] at hgo
  have e1 : IntKind.wrap .i64 (((2 * nw + 2 : Nat) : Int) - 1) = ((2 * nw + 2 - 1 : Nat) : Int) := by rw [wrap_in (by omega) (by omega)]; omega
  have hcb : ∀ {w1 : World} {L1} {v : Nat}, Hp w w1 ((bb, Cl 3 (ints f.seek)) :: L1) → v < 2 * nw + 2 → cel w1 bb (0 + v * 1) = some (.int .i64 (f.seek.getD v 0)) := by
    intro w1 L1 v h1 hv
    refine h1.cl 0 rfl ?_
    rw [show 0 + v * 1 = v by omega, List.getElem?_map, getD_some (d := 0) (by omega)]; rfl
  rw [e1]
  refine ⟨by omega, by omega, ptAt_of rfl ⟨f.seek.getD (2 * nw + 2 - 1) 0, hcb h26 (by omega), sp_of (fun hfo => ?_) (fun hfo => ?_)⟩⟩
  · have hfound : f.found = true := by unfold Fl.found; rw [hol]; exact hfo
    rw [if_pos hfound] at hgo
    obtain ⟨kp, hP⟩ := hrd.way hfound
    have hsl' : f.seek.length = f.outs.length := by rw [hsl, hol]
    have hpush := push_w h26 hok hrd.shape hrd.nodes hrd.many (k := 0) rfl hsl' (Fl.seek_lt hrd.shape) hrd.even hP rfl (hrd.flat hfound) (hrd.low hfound)
    rw [hmb, hol] at hpush
    refine hpush.mono ?_
    rintro _ w33 ⟨rfl, h33, ok33⟩
    refine ⟨rfl, ?_⟩
    have hI2 := hnx hfound
    have hpe : f.push f.seek = ⟨pushAll (most f.arcs much (f.path f.seek)) (f.path f.seek) f.arcs, f.outs⟩ := rfl
    rw [← hpe] at h33 ok33
    obtain ⟨hrd2, hol2, -⟩ := hst _ hI2
    rw [hall] at hol2
    rw [← hmb]
    have h33' : Hp w w33 ([N] ++ FlL m2 (f.push f.seek)) := h33.drop 1
    refine (seek_w h33' ok33 hrd2.shape hrd2.nodes hrd2.many hrd2.rows).mono ?_
    rintro _ w35 ⟨b2, rfl, h35⟩
    exact ⟨_, _, _, rfl, k, Nat.lt_succ_self k, f.push f.seek, m2, b2, rfl, rfl, hol2, rfl, h35, ok33, hI2, hgo⟩
  have hfound : f.found = false := by unfold Fl.found; rw [hol]; exact hfo
  rw [if_neg (by rw [hfound]; simp)] at hgo
  cases hgo
  have hcN : cel w26 b5 0 = some (.slice aw nw cw) := by subst hNN; exact h26.cl 1 rfl rfl
  refine ⟨_, _, _, hcN, ?_⟩
  obtain ⟨p, hp⟩ : ∃ p : Nat → Bool, p = fun v => !decide (fin.seek.getD (2 * v) 0 = -1) && decide (fin.seek.getD (2 * v + 1) 0 = -1) := ⟨_, rfl⟩
  have hcut : ∀ j, cutOf fin.seek j = ((List.range j).filter p).map fun (v : Nat) => (v : Int) := fun j => by rw [cutOf, hp]
  have hlen : ∀ j, (cutOf fin.seek j).length ≤ j := fun j => by rw [hcut, List.length_map]; exact Nat.le_trans (List.length_filter_le _ _) (by simp)
  have hsuc : ∀ j, cutOf fin.seek (j + 1) = if p j = true then cutOf fin.seek j ++ [(j : Int)] else cutOf fin.seek j := by
    intro j
    rw [hcut, hcut, List.range_succ, List.filter_append, List.map_append]
    by_cases hpj : p j = true
    · simp [hpj]
    · simp [hpj]
  refine ⟨fun a n' c i w' k => ∃ (j : Nat) (r : Rw), i = j ∧ j ≤ nw ∧ k = nw - j ∧ n' = (cutOf fin.seek j).length ∧ Sls 1 a n' c (ints (cutOf fin.seek j)) r ∧ Hp w w' ([(bb, Cl 3 (ints fin.seek))] ++ (r.L 3 (ints (cutOf fin.seek j)) ++ [])),
    ⟨nw, 0, .emp, rfl, by omega, by omega, rfl, Sls.nil 1 none, h26.sub (by simp [cutOf, Rw.L])⟩, ?_⟩
  clear h26
  rintro a n' c i w41 q ⟨j, r, rfl, hj, rfl, rfl, hs, h41⟩
  refine sp_dec (fun hlt => ?_) (fun hge => ?_)
  · intro K44 hK44
    have e5 : IntKind.wrap .i64 (2 * (j : Nat) : Int) = ((2 * j : Nat) : Int) := by rw [wrap_in (by omega) (by omega)]; omega
    have e6 : IntKind.wrap .i64 (((2 * j : Nat) : Int) + 1) = ((2 * j + 1 : Nat) : Int) := by rw [wrap_in (by omega) (by omega)]; omega
    rw [e5, e6]
    have hj2 := hlen j
    have hskip : p j = false → K44 a (cutOf fin.seek j).length c w41 := by
      intro hno
      have := hsuc j
      rw [if_neg (by rw [hno]; simp)] at this
      exact hK44 _ _ _ _ ⟨nw - (j + 1), by omega, j + 1, r, wrap_succ (by simp only [maxLen]; omega), by omega, rfl, by rw [this], by rw [this]; exact hs, by rw [this]; exact h41⟩
    refine ⟨by omega, by omega, ptAt_of rfl ⟨_, hcb h41 (v := 2 * j) (by omega), sp_of (fun h1 => ⟨by omega, by omega, ptAt_of rfl ⟨_, hcb h41 (v := 2 * j + 1) (by omega), sp_of (fun h2 => ?_) (fun h2 => hskip (by rw [hp]; simp only [h2, Bool.and_false]))⟩⟩) (fun h1 => hskip (by rw [hp]; simp only [h1, Bool.false_and]))⟩⟩
    have hpj : p j = true := by rw [hp]; simp only [h1, h2, Bool.and_self]
    have hsj := hsuc j
    rw [if_pos hpj] at hsj
    refine alp h41 fun b53 w54 h54 => ?_
    obtain ⟨a', c', w56, r', hrun, hs', h56⟩ := app1 (ty := 34) slInts (by omega) hs ((b53, Cl 3 [.int .i64 (j : Int)]) :: [(bb, Cl 3 (ints fin.seek))]) h54 0 rfl rfl rfl (by simp only [maxLen]; omega) (by omega)
    have he1 : ints (cutOf fin.seek j) ++ [.int .i64 (j : Int)] = ints (cutOf fin.seek (j + 1)) := by rw [hsj]; simp
    rw [he1] at hs' h56
    refine ⟨_, _, _, w56, hrun, hK44 _ _ _ _ ⟨nw - (j + 1), by omega, j + 1, r', wrap_succ (by simp only [maxLen]; omega), by omega, rfl, by rw [hsj]; simp, hs', h56.drop 1⟩⟩
  · have hjn : j = nw := by omega
    subst hjn
    refine ⟨fun he => (by rw [he] at hr; cases hr), fun _ => ?_⟩
    rw [hwl]
    exact ⟨a, c, r, rfl, hs, by have := h41.drop 1; simpa using this⟩
theorem weight_w {w : World} {n : Net} {vs : List Value} (h : RNet w vs n) {al : Option Addr} {nl cl : Nat} {l : List Int} (hl : RdI w al nl l) (hwb : ∀ x ∈ n.weights, 0 ≤ x ∧ x ≤ 1073741824) (hnl : nl ≤ 4294967296) :
    CallP Pg 19 [.agg ⟨vs⟩, .slice al nl cl] w fun u w' => u = .int .i64 (n.weight l) ∧ Ext w w' := by
  obtain ⟨aw, nw, cw, ay, ny, cy, af, nf, cf, at_, nt, ct, rfl, hw, hy, hf, ht⟩ := h
  have hwl := hw.len
  have hll := hl.len
  refine F19_ok _ _ _ _ _ _ _ _ _ _ _ _ _ _ _ ?_
  unfold F19
  refine alp (Hp.refl w) fun b6 w7 h7 => ?_
  obtain ⟨g, hg⟩ : ∃ g : Int → Int → Int, g = fun (o v : Int) => if 0 ≤ v ∧ v < (n.weights.length : Nat) then o + n.weights.getD v.toNat 0 else o := ⟨_, rfl⟩
  have hwt : n.weight l = l.foldl g 0 := by rw [Net.weight, hg]
  refine ⟨fun o i w' k => ∃ j : Nat, w' = w7 ∧ i = j ∧ j ≤ nl ∧ k = nl - j ∧ 0 ≤ o ∧ o ≤ 1073741824 * (j : Int) ∧ (l.drop j).foldl g o = n.weight l, ⟨nl, 0, rfl, rfl, by omega, by omega, by omega, by omega, by rw [hwt]; rfl⟩, ?_⟩
  rintro o i w11 k ⟨j, rfl, rfl, hj, rfl, ho0, ho1, hgo⟩
  refine sp_dec (fun hlt => ?_) (fun hge => ?_)
  · intro K14 hK14
    obtain ⟨v, hv⟩ := at_some (l := l) (j := j) (by omega)
    rw [drop_cons hv, List.foldl_cons] at hgo
    obtain ⟨bv, ov, hav, hcv⟩ := RdI.at (RdI.ext hl h7.ext) hv
    have hskip : ¬ (0 ≤ v ∧ v < (n.weights.length : Nat)) → K14 o w11 := by
      intro hno
      have : g o v = o := by rw [hg]; simp only; rw [if_neg hno]
      rw [this] at hgo
      exact hK14 _ _ ⟨nl - (j + 1), by omega, j + 1, rfl, wrap_succ (by simp only [maxLen]; omega), by omega, rfl, ho0, by omega, hgo⟩
    refine ⟨by omega, by omega, ptAt_of hav ⟨v, hcv, sp_dec (fun h0 => ⟨_, _, _, h7.cl 0 rfl rfl, sp_dec (fun h1 => ?_) (fun h1 => hskip (fun h => by omega))⟩) (fun h0 => hskip (fun h => h0 h.1))⟩⟩
    obtain ⟨x, hx⟩ := at_some (l := n.weights) (j := v.toNat) (by omega)
    have hxb := hwb x (List.mem_of_getElem? hx)
    obtain ⟨bx, ox, hax, hcx⟩ := RdI.at (RdI.ext hw h7.ext) hx
    have hgv : g o v = o + x := by
      rw [hg]; simp only
      rw [if_pos ⟨h0, by omega⟩, List.getD_eq_getElem?_getD, hx]; rfl
    rw [hgv] at hgo
    refine ⟨_, _, _, h7.cl 0 rfl rfl, h0, by omega, ptAt_of hax ⟨x, hcx, ?_⟩⟩
    rw [wrap_in (x := o + x) (by omega) (by omega)]
    exact hK14 _ _ ⟨nl - (j + 1), by omega, j + 1, rfl, wrap_succ (by simp only [maxLen]; omega), by omega, rfl, by omega, by omega, hgo⟩
  · have hd : l.drop j = [] := List.drop_of_length_le (by omega)
    rw [hd] at hgo
    exact ⟨by rw [← hgo]; rfl, h7.ext⟩
end Go.Pl.Try

/- Places: whether two are one. -/
namespace Go.Pl
set_option linter.unusedVariables false
def st3 (P : Program) (t i : Nat) : Bool := match P.underlying t with
  | some (.struct fs) => match fs.toList with
    | [a, b, c] => a.name != "_" && b.name != "_" && c.name != "_" && Nat.beq a.type i && Nat.beq b.type i && Nat.beq c.type i && Nat.beq a.offset 0 && Nat.beq b.offset 1 && Nat.beq c.offset 2
    | _ => false
  | _ => false
theorem place_ne {P : Program} {t i : Nat} (h : st3 P t i = true) (hu : P.underlying i = some (.int .i64)) (hs : P.stoodInHeld t = false) (hg : P.eqGuardType P.depth t = false) (x y : Operand) (a b c a' b' c' : Int) (w : World) :
    Sem.run P (do eqGuard .neq t x y (.agg ⟨[.int .i64 a, .int .i64 b, .int .i64 c]⟩) (.agg ⟨[.int .i64 a', .int .i64 b', .int .i64 c']⟩); binOp .neq t (.agg ⟨[.int .i64 a, .int .i64 b, .int .i64 c]⟩) (.agg ⟨[.int .i64 a', .int .i64 b', .int .i64 c']⟩)) w = .ok (.bool (!decide ((a, b, c) = (a', b', c')))) w := by
  unfold st3 at h
  split at h
  · rename_i fs hf
    split at h
    · rename_i f1 f2 f3 hl
      simp only [Bool.and_eq_true, bne_iff_ne, ne_eq] at h
      obtain ⟨⟨⟨⟨⟨⟨⟨⟨n1, n2⟩, n3⟩, t1⟩, t2⟩, t3⟩, o1⟩, o2⟩, o3⟩ := h
      have t1 := Nat.eq_of_beq_eq_true t1
      have t2 := Nat.eq_of_beq_eq_true t2
      have t3 := Nat.eq_of_beq_eq_true t3
      have o1 := Nat.eq_of_beq_eq_true o1
      have o2 := Nat.eq_of_beq_eq_true o2
      have o3 := Nat.eq_of_beq_eq_true o3
      obtain rfl : fs = ⟨[f1, f2, f3]⟩ := by cases fs; simp_all
      have hag : ∀ w, (isAgg i).run P w = .ok false w := fun w => by unfold isAgg; rw [Sem.run_bind, run_und w hu]; rfl
      have hq : (Op.equal t (.agg ⟨[.int .i64 a, .int .i64 b, .int .i64 c]⟩) (.agg ⟨[.int .i64 a', .int .i64 b', .int .i64 c']⟩)).run P w = .ok (decide ((a, b, c) = (a', b', c'))) w := by
        have h1 : ∀ (n : Nat) (x y : Int), (Op.equalIn (n + 1) i (.int .i64 x) (.int .i64 y)).run P w = .ok (x == y) w := by
          intro n x y
          simp [Op.equalIn, run_und w hu]
        unfold Op.equal Op.maxDepth Op.equalIn
        simp [run_und w hf, hs, program, Sem.run, n1, n2, n3, t1, t2, t3, o1, o2, o3, part, hag w, h1]
        by_cases e1 : a = a' <;> by_cases e2 : b = b' <;> by_cases e3 : c = c' <;> simp [e1, e2, e3]
      simp [eqGuard, program, Sem.run, hg, binOp, hq]
    · cases h
  · cases h
end Go.Pl
namespace Go.Pl.Try
theorem place_neq (x y : Operand) (a b c a' b' c' : Int) (w : World) : Sem.run Pg (do eqGuard .neq 102 x y (.agg ⟨[.int .i64 a, .int .i64 b, .int .i64 c]⟩) (.agg ⟨[.int .i64 a', .int .i64 b', .int .i64 c']⟩); binOp .neq 102 (.agg ⟨[.int .i64 a, .int .i64 b, .int .i64 c]⟩) (.agg ⟨[.int .i64 a', .int .i64 b', .int .i64 c']⟩)) w = .ok (.bool (!decide ((a, b, c) = (a', b', c')))) w :=
  place_ne (i := 3) (by kernel_rfl) uInt (by kernel_rfl) (by kernel_rfl) x y a b c a' b' c' w
end Go.Pl.Try

/- What 'palings/harden.Of' does, read off its translation by gen.py. -/
namespace Go.Pl.Try
set_option linter.unusedVariables false
set_option maxRecDepth 100000
def F7 (ax1 : Option Addr) (nx1 cx1 : Nat) (ax2 : Option Addr) (nx2 cx2 : Nat) (x3 : Int) (w : World) (R : Value → World → Prop) : Prop :=
  AlP 32 [.slice ax1 nx1 cx1, .slice ax2 nx2 cx2, .int .i64 x3] w fun b4 w5 =>
  AlP 51 [.slice none 0 0, .slice none 0 0, .int .i64 0] w5 fun b6 w7 =>
  ∃ (ax8 : Option Addr) (nx8 cx8 : Nat) (ax9 : Option Addr) (nx9 cx9 : Nat) (x10 : Int), Row w7 b4 0 [.slice ax8 nx8 cx8, .slice ax9 nx9 cx9, .int .i64 x10] ∧
  CallP Pg 12 [.agg ⟨[.slice ax8 nx8 cx8, .slice ax9 nx9 cx9, .int .i64 x10]⟩, .slice none 0 0] w7 fun v11 w12 => ∃ (ax13 : Option Addr) (nx13 cx13 : Nat) (ax14 : Option Addr) (nx14 cx14 : Nat) (ax15 : Option Addr) (nx15 cx15 : Nat) (ax16 : Option Addr) (nx16 cx16 : Nat) (x17 : Int), v11 = .tuple ⟨[.agg ⟨[.slice ax13 nx13 cx13, .slice ax14 nx14 cx14, .slice ax15 nx15 cx15, .slice ax16 nx16 cx16]⟩, .int .i64 x17]⟩ ∧
  AlP 69 [.slice none 0 0, .slice none 0 0, .slice none 0 0, .slice none 0 0] w12 fun b18 w19 =>
  StP b18 0 [.slice ax13 nx13 cx13, .slice ax14 nx14 cx14, .slice ax15 nx15 cx15, .slice ax16 nx16 cx16] w19 fun w20 =>
  sp (!decide ((x17 : Int) = 0))
  (StP b6 0 [.slice none 0 0, .slice none 0 0, .int .i64 0] w20 fun w21 =>
  ∃ (ax22 : Option Addr) (nx22 cx22 : Nat) (ax23 : Option Addr) (nx23 cx23 : Nat) (x24 : Int), Row w21 b6 0 [.slice ax22 nx22 cx22, .slice ax23 nx23 cx23, .int .i64 x24] ∧
  R (.tuple ⟨[.agg ⟨[.slice ax22 nx22 cx22, .slice ax23 nx23 cx23, .int .i64 x24]⟩, .int .i64 x17]⟩) w21)
  (∃ (ax25 : Option Addr) (nx25 cx25 : Nat) (ax26 : Option Addr) (nx26 cx26 : Nat) (x27 : Int), Row w20 b4 0 [.slice ax25 nx25 cx25, .slice ax26 nx26 cx26, .int .i64 x27] ∧
  ∃ (ax28 : Option Addr) (nx28 cx28 : Nat) (ax29 : Option Addr) (nx29 cx29 : Nat) (ax30 : Option Addr) (nx30 cx30 : Nat) (ax31 : Option Addr) (nx31 cx31 : Nat), Row w20 b18 0 [.slice ax28 nx28 cx28, .slice ax29 nx29 cx29, .slice ax30 nx30 cx30, .slice ax31 nx31 cx31] ∧
  CallP Pg 22 [.agg ⟨[.slice ax25 nx25 cx25, .slice ax26 nx26 cx26, .int .i64 x27]⟩, .agg ⟨[.slice ax28 nx28 cx28, .slice ax29 nx29 cx29, .slice ax30 nx30 cx30, .slice ax31 nx31 cx31]⟩] w20 fun v32 w33 => ∃ (ax34 : Option Addr) (nx34 cx34 : Nat), v32 = .slice ax34 nx34 cx34 ∧
  AlP 51 [.slice none 0 0, .slice none 0 0, .int .i64 0] w33 fun b35 w36 =>
  ∃ (ax37 : Option Addr) (nx37 cx37 : Nat), cel w36 b4 1 = some (.slice ax37 nx37 cx37) ∧
  ∃ J38 : Int → World → Nat → Prop, (∃ m41, J38 0 w36 m41) ∧
  ∀ (x39 : Int), ∀ w40 m41, J38 x39 w40 m41 →
  sp (decide ((x39 : Int) < (nx37 : Nat)))
  (∃ (ax43 : Option Addr) (nx43 cx43 : Nat) (ax44 : Option Addr) (nx44 cx44 : Nat) (x45 : Int), Row w40 b4 0 [.slice ax43 nx43 cx43, .slice ax44 nx44 cx44, .int .i64 x45] ∧
  ∃ (ax46 : Option Addr) (nx46 cx46 : Nat) (ax47 : Option Addr) (nx47 cx47 : Nat) (ax48 : Option Addr) (nx48 cx48 : Nat) (ax49 : Option Addr) (nx49 cx49 : Nat), Row w40 b18 0 [.slice ax46 nx46 cx46, .slice ax47 nx47 cx47, .slice ax48 nx48 cx48, .slice ax49 nx49 cx49] ∧
  CallP Pg 23 [.agg ⟨[.slice ax43 nx43 cx43, .slice ax44 nx44 cx44, .int .i64 x45]⟩, .int .i64 x39, .agg ⟨[.slice ax46 nx46 cx46, .slice ax47 nx47 cx47, .slice ax48 nx48 cx48, .slice ax49 nx49 cx49]⟩, .slice ax34 nx34 cx34] w40 fun v50 w51 => ∃ (x52 : Option Addr), v50 = .pointer x52 ∧
  ptAt x52 fun b53 o54 =>
  ∃ (ax55 : Option Addr) (nx55 cx55 : Nat) (ax56 : Option Addr) (nx56 cx56 : Nat) (ax57 : Option Addr) (nx57 cx57 : Nat) (ax58 : Option Addr) (nx58 cx58 : Nat), Row w51 b53 o54 [.slice ax55 nx55 cx55, .slice ax56 nx56 cx56, .slice ax57 nx57 cx57, .slice ax58 nx58 cx58] ∧
  CallP Pg 24 [.agg ⟨[.slice ax55 nx55 cx55, .slice ax56 nx56 cx56, .slice ax57 nx57 cx57, .slice ax58 nx58 cx58]⟩] w51 fun v59 w60 => ∃ (ax61 : Option Addr) (nx61 cx61 : Nat) (x62 : Bool), v59 = .tuple ⟨[.slice ax61 nx61 cx61, .bool x62]⟩ ∧
  sp (!x62)
  (StP b6 0 [.slice none 0 0, .slice none 0 0, .int .i64 0] w60 fun w63 =>
  ∃ (ax64 : Option Addr) (nx64 cx64 : Nat) (ax65 : Option Addr) (nx65 cx65 : Nat) (x66 : Int), Row w63 b6 0 [.slice ax64 nx64 cx64, .slice ax65 nx65 cx65, .int .i64 x66] ∧
  R (.tuple ⟨[.agg ⟨[.slice ax64 nx64 cx64, .slice ax65 nx65 cx65, .int .i64 x66]⟩, .int .i64 31]⟩) w63)
  (AlM w60 fun b67 w68 =>
  ∃ J69 : Int → World → Nat → Prop, (∃ m72, J69 0 w68 m72) ∧
  ∀ (x70 : Int), ∀ w71 m72, J69 x70 w71 m72 →
  sp (decide ((x70 : Int) < (nx61 : Nat)))
  (0 ≤ (x70 : Int) ∧ (x70 : Int) < (nx61 : Nat) ∧
  ptAt ax61 fun b74 o75 =>
  ∃ (x76 : Int), cel w71 b74 (o75 + x70.toNat * 1) = some (.int .i64 x76) ∧
  ptAt x52 fun b77 o78 =>
  ∃ (ax79 : Option Addr) (nx79 cx79 : Nat), cel w71 b77 (o78 + 4) = some (.slice ax79 nx79 cx79) ∧
  0 ≤ (x76 : Int) ∧ (x76 : Int) < (nx79 : Nat) ∧
  ptAt ax79 fun b80 o81 =>
  ∃ (x82 : Int), cel w71 b80 (o81 + x76.toNat * 1) = some (.int .i64 x82) ∧
  ∃ w83 : World, Sem.run Pg (Instr.mapUpdate 56 (.map (some b67)) (.int .i64 x82) (.bool true)) w71 = .ok () w83 ∧
  ∃ m73, m73 < m72 ∧ J69 (IntKind.wrap .i64 (x70 + 1)) w83 m73)
  (∃ (ax84 : Option Addr) (nx84 cx84 : Nat), cel w71 b35 0 = some (.slice ax84 nx84 cx84) ∧
  AlP 56 [.map (some b67)] w71 fun b85 w86 =>
  ∃ (ax87 : Option Addr) (nx87 cx87 : Nat), ∃ w88 : World, Sem.run Pg (Builtin.append_ #[48, 48] 48 ⟨[.slice ax84 nx84 cx84, .slice (some ⟨b85, 0, none⟩) 1 1]⟩) w86 = .ok (.slice ax87 nx87 cx87) w88 ∧
  StP b35 0 [.slice ax87 nx87 cx87] w88 fun w89 =>
  ∃ (x90 : Int), cel w89.drew b35 2 = some (.int .i64 x90) ∧
  ptAt x52 fun b91 o92 =>
  ∃ (ax93 : Option Addr) (nx93 cx93 : Nat) (ax94 : Option Addr) (nx94 cx94 : Nat) (ax95 : Option Addr) (nx95 cx95 : Nat) (ax96 : Option Addr) (nx96 cx96 : Nat), Row w89.drew b91 o92 [.slice ax93 nx93 cx93, .slice ax94 nx94 cx94, .slice ax95 nx95 cx95, .slice ax96 nx96 cx96] ∧
  CallP Pg 19 [.agg ⟨[.slice ax93 nx93 cx93, .slice ax94 nx94 cx94, .slice ax95 nx95 cx95, .slice ax96 nx96 cx96]⟩, .slice ax61 nx61 cx61] w89.drew fun v97 w98 => ∃ (x99 : Int), v97 = .int .i64 x99 ∧
  Ext w89.drew w98 ∧
  StP b35 2 [.int .i64 (IntKind.wrap .i64 (x90 + x99))] w98 fun w100 =>
  ∃ m42, m42 < m41 ∧ J38 (IntKind.wrap .i64 (x39 + 1)) w100 m42)))
  (∃ (ax101 : Option Addr) (nx101 cx101 : Nat) (ax102 : Option Addr) (nx102 cx102 : Nat) (x103 : Int), Row w40 b4 0 [.slice ax101 nx101 cx101, .slice ax102 nx102 cx102, .int .i64 x103] ∧
  ∃ (ax104 : Option Addr) (nx104 cx104 : Nat), cel w40 b35 0 = some (.slice ax104 nx104 cx104) ∧
  CallP Pg 12 [.agg ⟨[.slice ax101 nx101 cx101, .slice ax102 nx102 cx102, .int .i64 x103]⟩, .slice ax104 nx104 cx104] w40 fun v105 w106 => ∃ (ax107 : Option Addr) (nx107 cx107 : Nat) (ax108 : Option Addr) (nx108 cx108 : Nat) (ax109 : Option Addr) (nx109 cx109 : Nat) (ax110 : Option Addr) (nx110 cx110 : Nat) (x111 : Int), v105 = .tuple ⟨[.agg ⟨[.slice ax107 nx107 cx107, .slice ax108 nx108 cx108, .slice ax109 nx109 cx109, .slice ax110 nx110 cx110]⟩, .int .i64 x111]⟩ ∧
  AlP 69 [.slice none 0 0, .slice none 0 0, .slice none 0 0, .slice none 0 0] w106 fun b112 w113 =>
  StP b112 0 [.slice ax107 nx107 cx107, .slice ax108 nx108 cx108, .slice ax109 nx109 cx109, .slice ax110 nx110 cx110] w113 fun w114 =>
  ∃ (ax115 : Option Addr) (nx115 cx115 : Nat) (ax116 : Option Addr) (nx116 cx116 : Nat) (x117 : Int), Row w114 b4 0 [.slice ax115 nx115 cx115, .slice ax116 nx116 cx116, .int .i64 x117] ∧
  ∃ (ax118 : Option Addr) (nx118 cx118 : Nat) (ax119 : Option Addr) (nx119 cx119 : Nat) (ax120 : Option Addr) (nx120 cx120 : Nat) (ax121 : Option Addr) (nx121 cx121 : Nat), Row w114 b112 0 [.slice ax118 nx118 cx118, .slice ax119 nx119 cx119, .slice ax120 nx120 cx120, .slice ax121 nx121 cx121] ∧
  CallP Pg 22 [.agg ⟨[.slice ax115 nx115 cx115, .slice ax116 nx116 cx116, .int .i64 x117]⟩, .agg ⟨[.slice ax118 nx118 cx118, .slice ax119 nx119 cx119, .slice ax120 nx120 cx120, .slice ax121 nx121 cx121]⟩] w114 fun v122 w123 => ∃ (ax124 : Option Addr) (nx124 cx124 : Nat), v122 = .slice ax124 nx124 cx124 ∧
  ∃ J125 : Int → World → Nat → Prop, (∃ m128, J125 0 w123 m128) ∧
  ∀ (x126 : Int), ∀ w127 m128, J125 x126 w127 m128 →
  sp (decide ((x126 : Int) < (nx124 : Nat)))
  (∀ K130 : World → Prop, (∀ w131, (
  ∃ m129, m129 < m128 ∧ J125 (IntKind.wrap .i64 (x126 + 1)) w131 m129) → K130 w131) →
  0 ≤ (x126 : Int) ∧ (x126 : Int) < (nx124 : Nat) ∧
  ptAt ax124 fun b132 o133 =>
  ∃ (x134 : Int) (x135 : Int) (x136 : Int) (x137 : Int) (x138 : Int), Row w127 b132 (o133 + x126.toNat * 5) [.int .i64 x134, .int .i64 x135, .int .i64 x136, .int .i64 x137, .int .i64 x138] ∧
  AlP 100 [.int .i64 0, .int .i64 0, .int .i64 0, .int .i64 0, .int .i64 0] w127 fun b139 w140 =>
  StP b139 0 [.int .i64 x134, .int .i64 x135, .int .i64 x136, .int .i64 x137, .int .i64 x138] w140 fun w141 =>
  ∃ (x142 : Int), cel w141 b139 0 = some (.int .i64 x142) ∧
  ∃ (x143 : Int), cel w141 b139 1 = some (.int .i64 x143) ∧
  ∃ (x144 : Int), cel w141 b139 2 = some (.int .i64 x144) ∧
  AlP 102 [.int .i64 0, .int .i64 0, .int .i64 0] w141 fun b145 w146 =>
  StP b145 0 [.int .i64 x142, .int .i64 x143, .int .i64 x144] w146 fun w147 =>
  ∀ K148 : Bool → World → Prop, (∀ (x149 : Bool), ∀ w150, (
  sp x149
  (∃ (ax151 : Option Addr) (nx151 cx151 : Nat), cel w150 b35 1 = some (.slice ax151 nx151 cx151) ∧
  ∃ (x152 : Int) (x153 : Int) (x154 : Int), Row w150 b145 0 [.int .i64 x152, .int .i64 x153, .int .i64 x154] ∧
  AlP 102 [.int .i64 x152, .int .i64 x153, .int .i64 x154] w150 fun b155 w156 =>
  ∃ (ax157 : Option Addr) (nx157 cx157 : Nat), ∃ w158 : World, Sem.run Pg (Builtin.append_ #[49, 49] 49 ⟨[.slice ax151 nx151 cx151, .slice (some ⟨b155, 0, none⟩) 1 1]⟩) w156 = .ok (.slice ax157 nx157 cx157) w158 ∧
  StP b35 1 [.slice ax157 nx157 cx157] w158 fun w159 =>
  K130 w159)
  (K130 w150)) → K148 x149 w150) →
  ∃ (ax160 : Option Addr) (nx160 cx160 : Nat), cel w147.drew b35 1 = some (.slice ax160 nx160 cx160) ∧
  sp (decide (((nx160 : Nat) : Int) = 0))
  (K148 true w147.drew)
  (∃ (ax161 : Option Addr) (nx161 cx161 : Nat), cel w147.drew b35 1 = some (.slice ax161 nx161 cx161) ∧
  ∃ (ax162 : Option Addr) (nx162 cx162 : Nat), cel w147.drew b35 1 = some (.slice ax162 nx162 cx162) ∧
  0 ≤ (IntKind.wrap .i64 ((nx162 : Nat) - 1) : Int) ∧ (IntKind.wrap .i64 ((nx162 : Nat) - 1) : Int) < (nx161 : Nat) ∧
  ptAt ax161 fun b163 o164 =>
  ∃ (x165 : Int) (x166 : Int) (x167 : Int), Row w147.drew b163 (o164 + (IntKind.wrap .i64 ((nx162 : Nat) - 1)).toNat * 3) [.int .i64 x165, .int .i64 x166, .int .i64 x167] ∧
  ∃ (x168 : Int) (x169 : Int) (x170 : Int), Row w147.drew b145 0 [.int .i64 x168, .int .i64 x169, .int .i64 x170] ∧
  ∃ (x171 : Bool), (∀ w', Sem.run Pg (do eqGuard .neq 102 (.tmp 121) (.tmp 122) (.agg ⟨[.int .i64 x165, .int .i64 x166, .int .i64 x167]⟩) (.agg ⟨[.int .i64 x168, .int .i64 x169, .int .i64 x170]⟩); binOp .neq 102 (.agg ⟨[.int .i64 x165, .int .i64 x166, .int .i64 x167]⟩) (.agg ⟨[.int .i64 x168, .int .i64 x169, .int .i64 x170]⟩)) w' = .ok (.bool x171) w') ∧
  K148 x171 w147.drew))
  (∃ (ax172 : Option Addr) (nx172 cx172 : Nat) (ax173 : Option Addr) (nx173 cx173 : Nat) (x174 : Int), Row w127 b35 0 [.slice ax172 nx172 cx172, .slice ax173 nx173 cx173, .int .i64 x174] ∧
  StP b6 0 [.slice ax172 nx172 cx172, .slice ax173 nx173 cx173, .int .i64 x174] w127 fun w175 =>
  ∃ (ax176 : Option Addr) (nx176 cx176 : Nat) (ax177 : Option Addr) (nx177 cx177 : Nat) (x178 : Int), Row w175 b6 0 [.slice ax176 nx176 cx176, .slice ax177 nx177 cx177, .int .i64 x178] ∧
  R (.tuple ⟨[.agg ⟨[.slice ax176 nx176 cx176, .slice ax177 nx177 cx177, .int .i64 x178]⟩, .int .i64 0]⟩) w175)))
def T7 : List Sh := [.v (.agg [.sl, .sl, (.int .i64)]), .v (.one .ptr), .t [(.agg [.sl, .sl, (.int .i64)])], .v (.one (.int .i64)), .v (.one .ptr), .v (.one (.int .i64)), .v (.one .sl), .v (.one .ptr), .v (.one (.int .i64)), .v (.one .ptr), .v (.one .sl), .v (.one .bool), .v (.one .map), .v (.one .any), .v (.one (.int .i64)), .v (.one .ptr), .v (.one (.int .i64)), .v (.one .any), .v (.one .ptr), .v (.one .ptr), .t [(.agg [.sl, .sl, .sl, .sl]), (.one (.int .i64))], .v (.agg [.sl, .sl, (.int .i64)]), .t [(.agg [.sl, .sl, .sl, .sl]), (.one (.int .i64))], .v (.agg [.sl, .sl, .sl, .sl]), .v (.one (.int .i64)), .v (.one (.int .i64)), .v (.one .bool), .v (.agg [.sl, .sl, (.int .i64)]), .v (.one (.int .i64)), .v (.agg [.sl, .sl, (.int .i64)]), .v (.agg [.sl, .sl, .sl, .sl]), .v (.one .sl), .v (.one .ptr), .v (.one .sl), .v (.one (.int .i64)), .v (.one (.int .i64)), .v (.one .bool), .v (.one (.int .i64)), .v (.agg [.sl, .sl, (.int .i64)]), .v (.one (.int .i64)), .v (.agg [.sl, .sl, .sl, .sl]), .v (.one .sl), .v (.one .ptr), .t [(.one .sl), (.one .bool)], .v (.one .ptr), .v (.one .ptr), .v (.one .ptr), .v (.agg [.sl, .sl, .sl, .sl]), .t [(.one .sl), (.one .bool)], .v (.one .sl), .v (.one .bool), .v (.one .bool), .v (.one .bool), .v (.agg [.sl, .sl, (.int .i64)]), .v (.one .map), .v (.one .sl), .v (.one (.int .i64)), .v (.one (.int .i64)), .v (.one .bool), .v (.one .ptr), .v (.one (.int .i64)), .v (.one .map), .v (.one .ptr), .v (.one .ptr), .v (.one .ptr), .v (.one .sl), .v (.one (.int .i64)), .v (.one .ptr), .v (.one (.int .i64)), .v (.one (.int .i64)), .v (.one .ptr), .v (.one .sl), .v (.one .map), .v (.one .sl), .v (.one .sl), .v (.one .ptr), .v (.one .ptr), .v (.one (.int .i64)), .v (.one .ptr), .v (.one .ptr), .v (.one .ptr), .v (.agg [.sl, .sl, .sl, .sl]), .v (.one .sl), .v (.one (.int .i64)), .v (.one (.int .i64)), .v (.one .ptr), .v (.one (.int .i64)), .t [(.agg [.sl, .sl, .sl, .sl]), (.one (.int .i64))], .v (.agg [.sl, .sl, (.int .i64)]), .v (.one .ptr), .v (.one .sl), .t [(.agg [.sl, .sl, .sl, .sl]), (.one (.int .i64))], .v (.agg [.sl, .sl, .sl, .sl]), .v (.one (.int .i64)), .v (.agg [.sl, .sl, (.int .i64)]), .v (.agg [.sl, .sl, .sl, .sl]), .v (.one .sl), .v (.one (.int .i64)), .v (.one (.int .i64)), .v (.one .bool), .v (.one .ptr), .v (.agg [(.int .i64), (.int .i64), (.int .i64), (.int .i64), (.int .i64)]), .v (.one .ptr), .v (.one (.int .i64)), .v (.one .ptr), .v (.one (.int .i64)), .v (.one .ptr), .v (.one (.int .i64)), .v (.agg [(.int .i64), (.int .i64), (.int .i64)]), .v (.one .ptr), .v (.one .sl), .v (.one (.int .i64)), .v (.one .bool), .v (.one .bool), .v (.one .ptr), .v (.one .sl), .v (.one .ptr), .v (.one .sl), .v (.one (.int .i64)), .v (.one (.int .i64)), .v (.one .ptr), .v (.agg [(.int .i64), (.int .i64), (.int .i64)]), .v (.agg [(.int .i64), (.int .i64), (.int .i64)]), .v (.one .bool), .v (.one .bool), .v (.one .ptr), .v (.one .sl), .v (.agg [(.int .i64), (.int .i64), (.int .i64)]), .v (.one .sl), .v (.one .sl), .v (.one .ptr), .v (.one (.int .i64)), .v (.agg [.sl, .sl, (.int .i64)])]
def A7 : Ann := (.seq none .z (.seq none .z (.seq none (.seq none .z (.cond (.seq none .z .z) .z)) (.seq none .z (.seq none .z (.seq none (.seq none .z (.block none (.loop [35] (.seq none .z (.seq none (.cond .z .z) (.seq none (.block none (.seq none .z (.seq none .z (.seq none .z (.seq none (.seq none .z (.cond (.seq none .z .z) .z)) (.seq none .z (.seq none (.seq none .z (.block none (.loop [57] (.seq none .z (.seq none (.cond .z .z) (.seq none (.block none (.seq none .z .z)) .z)))))) (.seq none .z (.dr [0, 1, 0, 0, 0, 1, 0, 2, 0, 0, 3] [0, 1, 2, 3, 4, 5, 6, 7, 8, 9, 10]))))))))) .z)))))) (.seq none .z (.seq none (.seq none .z (.block none (.loop [98] (.seq none .z (.seq none (.cond .z .z) (.seq none (.block (some []) (.seq none .z (.seq none .z (.seq (some [124]) (.dr [0, 1, 0, 0, 0, 0, 1, 0, 1, 0, 0, 0, 1, 1, 0, 0] [0, 1, 2, 3, 4, 5, 6, 7, 8, 9, 10, 11, 12, 13, 14, 15]) (.cond .z .z))))) .z)))))) (.seq none .z .z)))))))))
theorem F7_eq (ax1 : Option Addr) (nx1 cx1 : Nat) (ax2 : Option Addr) (nx2 cx2 : Nat) (x3 : Int) (w : World) (R : Value → World → Prop) : F7 ax1 nx1 cx1 ax2 nx2 cx2 x3 w R = denF Go.Proofs.Try.prog T7 Go.Proofs.Try.f7 A7 [.agg ⟨[.slice ax1 nx1 cx1, .slice ax2 nx2 cx2, .int .i64 x3]⟩] w R := by kernel_rfl
theorem F7_ok (ax1 : Option Addr) (nx1 cx1 : Nat) (ax2 : Option Addr) (nx2 cx2 : Nat) (x3 : Int) {w : World} {R : Value → World → Prop} (h : F7 ax1 nx1 cx1 ax2 nx2 cx2 x3 w R) : CallP Go.Proofs.Try.prog 7 [.agg ⟨[.slice ax1 nx1 cx1, .slice ax2 nx2 cx2, .int .i64 x3]⟩] w R :=
  calls_den (fun _ => drawn (by kernel_rfl)) Go.Proofs.Try.func7 (Nat.le_of_ble_eq_true (by kernel_rfl)) ((F7_eq ax1 nx1 cx1 ax2 nx2 cx2 x3 w R).mp h)
end Go.Pl.Try

/- Where fences stand: walked. -/
namespace Go.Pl.Try
open M
set_option linter.unusedVariables false
def trues (ks : List Int) : List (Int × Value) := ks.map fun k => (k, Value.bool true)
theorem trues_put (ks : List Int) (k : Int) : mput (trues ks) k (.bool true) = trues (kput ks k) := by
  unfold mput kput trues
  rw [List.any_map]
  by_cases h : ks.any (fun x => x == k) = true
  · have h' : ks.any ((fun p : Int × Value => p.1 == k) ∘ fun k => (k, Value.bool true)) = true := h
    rw [if_pos h', if_pos h, List.map_map]
    refine List.map_congr_left fun x _ => ?_
    simp only [Function.comp]
    split
    · rename_i e; rw [e]
    · rfl
  · have h' : ¬ ks.any ((fun p : Int × Value => p.1 == k) ∘ fun k => (k, Value.bool true)) = true := h
    rw [if_neg h', if_neg h, List.map_append]
    rfl
theorem trues_get (ks : List Int) (k : Int) : mget (trues ks) k = if k ∈ ks then some (.bool true) else none := by
  unfold mget trues
  by_cases h : k ∈ ks
  · rw [if_pos h]
    have : (ks.map fun k => (k, Value.bool true)).find? (fun p => p.1 == k) = some (k, .bool true) := by
      induction ks with
      | nil => cases h
      | cons x ks ih =>
        rw [List.map_cons, List.find?_cons]
        by_cases e : x = k
        · subst e; simp
        · have : (x == k) = false := by simpa using e
          simp only [this]
          exact ih (by simpa [Ne.symm e] using h)
    rw [this]; rfl
  · rw [if_neg h]
    have : (ks.map fun k => (k, Value.bool true)).find? (fun p => p.1 == k) = none := by
      rw [List.find?_eq_none]
      rintro p hp
      obtain ⟨x, hx, rfl⟩ := List.mem_map.1 hp
      simp only [beq_iff_eq]
      intro e
      exact h (e ▸ hx)
    rw [this]; rfl
/-- The values that are cut, by functions, as they lie. -/
def RCuts (w : World) (a : Option Addr) (n : Nat) (cut : Nat → List Int) : Prop := ∀ k, k < n → ∃ b o mb ob, a = some ⟨b, o, none⟩ ∧ cel w b (o + k * 1) = some (.map (some mb)) ∧ w.heap[mb]? = some ob ∧ MpO (trues (cut k)) ob
theorem RCuts.ext {w w' : World} {a : Option Addr} {n : Nat} {cut : Nat → List Int} (h : RCuts w a n cut) (hx : Ext w w') : RCuts w' a n cut := fun k hk =>
  let ⟨b, o, mb, ob, h1, h2, h3, h4⟩ := h k hk
  ⟨b, o, mb, ob, h1, hx.cel h2, by rw [hx.blk mb (Array.getElem?_eq_some_iff.1 h3).1]; exact h3, h4⟩
theorem RCuts.cutV {w : World} {a : Option Addr} {n : Nat} {cut : Nat → List Int} (h : RCuts w a n cut) : CutV w a n n ((List.range n).map fun k v => decide (v ∈ cut k)) := by
  refine ⟨by simp, fun f hf => ⟨fun _ => ?_, fun hn => by omega⟩⟩
  obtain ⟨b, o, mb, ob, h1, h2, h3, h4⟩ := h f hf
  have hat : ∀ k, cutAt ((List.range n).map fun k v => decide (v ∈ cut k)) f k = decide (k ∈ cut f) := by
    intro k
    unfold cutAt
    rw [List.getD_eq_getElem?_getD, List.getElem?_map, List.getElem?_range hf]
    rfl
  refine ⟨b, o, some mb, fun k => if k ∈ cut f then some (.bool true) else none, h1, h2, ⟨ob, h3, _, h4, trues_get _⟩, fun k v hv => ?_, fun k => ?_⟩
  · simp only at hv
    split at hv
    · cases hv; exact ⟨true, rfl⟩
    · cases hv
  · rw [hat]
    by_cases hk : k ∈ cut f <;> simp [hk]
def RPlc (_ : World) (vs : List Value) (x : Plc) : Prop := vs = [.int .i64 x.1, .int .i64 x.2.1, .int .i64 x.2.2]
def threes (l : List Plc) : List Value := l.flatMap fun p => [.int .i64 p.1, .int .i64 p.2.1, .int .i64 p.2.2]
theorem threes_len (l : List Plc) : (threes l).length = l.length * 3 := by
  induction l with
  | nil => rfl
  | cons a l ih => simp only [threes] at ih ⊢; rw [List.flatMap_cons, List.length_append, ih]; simp; omega
theorem threes_at {l : List Plc} {i : Nat} {s : Plc} (h : l[i]? = some s) : ((threes l).drop (i * 3)).take 3 = [.int .i64 s.1, .int .i64 s.2.1, .int .i64 s.2.2] := by
  induction l generalizing i with
  | nil => simp at h
  | cons a l ih =>
    unfold threes
    rw [List.flatMap_cons]
    cases i with
    | zero => simp only [List.getElem?_cons_zero, Option.some.injEq] at h; subst h; simp
    | succ i =>
      rw [show (i + 1) * 3 = ([.int .i64 a.1, .int .i64 a.2.1, .int .i64 a.2.2] : List Value).length + i * 3 by simp; omega, List.drop_length_add_append]
      exact ih (by simpa using h)
theorem RdPlc.ext {w w' : World} {a : Option Addr} {n : Nat} {xs : List Plc} (h : RdS 3 RPlc w a n xs) (hx : Ext w w') : RdS 3 RPlc w' a n xs := RdS.ext (w := w) (R := RPlc) (fun _ _ h => h) hx h
theorem slCutMaps : slT Pg 48 56 1 8 = true := by kernel_rfl
theorem slPlcs : slT Pg 49 102 3 24 = true := by kernel_rfl
theorem mpCut : mpT Pg 56 4 = true := by kernel_rfl
/-- A net of hazards, read. -/
theorem HzL.net {w0 w : World} {F : List (Nat × Obj)} {m : HzM} {z : Hz} (h : Hp w0 w (F ++ HzL m z)) (hok : HzOk m z) : RNet w [m.sw.val, m.sy.val, m.sf.val, m.st.val] z.net ∧ RdI w m.sv.a m.sv.n z.vals := by
  have rd : ∀ {s : RowV} {l : List Int} {e : TypeId}, s.Ok 1 (ints l) → (∀ p ∈ s.r.L e (ints l), p ∈ F ++ HzL m z) → RdI w s.a s.n l := fun hs hm => rdI_owns hs fun p hp => (h.own p (hm p hp)).2
  have hy : RdS 2 RTwo w m.sy.a m.sy.n z.ways := by
    have h2 : Hp w0 w ((F ++ (m.bh, Cl 98 m.cells) :: (m.bm, m.om) :: m.sw.r.L 2 (ints z.weights)) ++ (m.sy.r.L 84 (twos z.ways) ++ (m.sf.r.L 3 (ints z.frm) ++ (m.st.r.L 3 (ints z.to) ++ m.sv.r.L 3 (ints z.vals))))) := by simpa [HzL] using h
    exact Sls.rd hok.y _ h2 (okN2 hok.y).symm fun i x hx => twos_at hx
  refine ⟨⟨_, _, _, _, _, _, _, _, _, _, _, _, rfl, rd (l := z.weights) (e := 2) hok.w (fun p hp => by simp [HzL, hp]), hy, rd (l := z.frm) (e := 3) hok.f (fun p hp => by simp [HzL, hp]), rd (l := z.to) (e := 3) hok.t (fun p hp => by simp [HzL, hp])⟩, rd (e := 3) hok.v (fun p hp => by simp [HzL, hp])⟩
theorem HzL.row4 {w0 w : World} {F : List (Nat × Obj)} {m : HzM} {z : Hz} (h : Hp w0 w (F ++ HzL m z)) : Row w m.bh 0 [.slice m.sw.a m.sw.n m.sw.c, .slice m.sy.a m.sy.n m.sy.c, .slice m.sf.a m.sf.n m.sf.c, .slice m.st.a m.st.n m.st.c] := by
  intro i v hi
  refine HzL.cell h (i := i) (v := v) ?_
  unfold HzM.cells
  match i, hi with
  | 0, h => exact h
  | 1, h => exact h
  | 2, h => exact h
  | 3, h => exact h
/-- A run of 'Of'. -/
structure OfRun (p : Prg) (S1 : TS) (fl : Nat → Fl) (S2 : TS) : Prop where
  sane : Sane p
  go1 : ∃ k, TS.go p p.noCut p.writes k p.start = some S1
  fit : ∀ k, k < p.funcs.length → (p.hz S1 k).net.Fit
  run : ∀ k, k < p.funcs.length → LeastRun (p.hz S1 k).net (fl k)
  go2 : ∃ k, TS.go p (p.newCut S1 fl) p.writes k p.start = some S2
/-- What 'Of' hands back of a program that is right. -/
def RPlan (w : World) (vs : List Value) (nf : Nat) (cut : Nat → List Int) (gs : List Plc) (wt : Int) : Prop := ∃ ac cc ag ng cg, vs = [.slice ac nf cc, .slice ag ng cg, .int .i64 wt] ∧ RCuts w ac nf cut ∧ RdS 3 RPlc w ag ng gs
theorem hof_w {w : World} {p : Prg} {vs : List Value} (h : RProg w vs p) (hl : p.Lim) {S1 S2 : TS} {fl : Nat → Fl} (hrun : p.check = true → OfRun p S1 fl S2) :
    CallP Pg 7 [.agg ⟨vs⟩] w fun u w' => Ext w w' ∧ (p.check = false → u = .tuple ⟨[.agg ⟨[.slice none 0 0, .slice none 0 0, .int .i64 0]⟩, .int .i64 40]⟩) ∧
      (p.check = true → ∃ us, u = .tuple ⟨[.agg ⟨us⟩, .int .i64 0]⟩ ∧ RPlan w' us p.funcs.length (p.cutKeys S1 fl) (places (p.sinks S2)) (sumTo (p.cutWt S1 fl) p.funcs.length)) := by
  have hP := h
  obtain ⟨aa, na, ca, af, nf, cf, rfl, harr, hfun⟩ := h
  have hfl := hfun.len
  have hfl' := hl.funcs
  rw [hfl] at hfl'
  simp only [lim] at hfl'
  refine F7_ok _ _ _ _ _ _ _ ?_
  unfold F7
  refine alp (Hp.refl w) fun b4 w5 h5 => alp h5 fun b6 w7 h7 => ⟨_, _, _, _, _, _, _, h7.row 1 rfl, ?_⟩
  have hno : CutV w7 none 0 p.funcs.length p.noCut := by
    refine ⟨by simp [Prg.noCut], fun f hf => ⟨fun h => by omega, fun _ k => ?_⟩⟩
    unfold cutAt Prg.noCut
    rw [List.getD_eq_getElem?_getD, List.getElem?_replicate, if_pos hf]; rfl
  refine (taintOf_w (hP.ext h7.ext) hl (cc := 0) hno (fin := S1) (fun hc => (hrun hc).go1)).mono ?_
  rintro v w12 ⟨hx12, hyes, hnot⟩
  have h12 := h7.step hx12
  cases hck : p.check with
  | false =>
    obtain rfl := hnot hck
    refine ⟨_, _, _, _, _, _, _, _, _, _, _, _, _, rfl, ?_⟩
    refine alp h12 fun b18 w19 h19 => ?_
    refine stp h19 0 rfl (by simp) rfl fun w20 h20 => sp_true rfl ?_
    refine stp h20 1 rfl (by simp) rfl fun w21 h21 => ⟨_, _, _, _, _, _, _, h21.row 1 rfl, h21.ext, fun _ => rfl, fun h => by cases h⟩
  | true =>
  obtain ⟨av, cv, a2, n2, c2, a3, n3, c3, a4, n4, c4, rfl, hlab⟩ := hyes hck
  have hR := hrun hck
  have hsane := hR.sane
  clear hyes hnot hno
  refine ⟨_, _, _, _, _, _, _, _, _, _, _, _, _, rfl, ?_⟩
  have hP12 : RProg w12 _ p := hP.ext h12.ext
  have hrow4 : ∀ {w1 : World}, Ext w12 w1 → Row w1 b4 0 [.slice aa na ca, .slice af nf cf, .int .i64 p.main] ∧ cel w1 b4 1 = some (.slice af nf cf) := fun hx => ⟨hx.row (h12.row 1 rfl), hx.cel (h12.cl 1 rfl rfl)⟩
  refine alp (Hp.refl w12) fun b18 w19 h19 => ?_
  refine stp h19 0 rfl (by simp) rfl fun w20 h20 => sp_false rfl ?_
  obtain ⟨B, hB⟩ : ∃ B : Nat × Obj, B = (b18, Cl 69 [.slice av p.funcs.length cv, .slice a2 n2 c2, .slice a3 n3 c3, .slice a4 n4 c4]) := ⟨_, rfl⟩
  have h20 : Hp w12 w20 [B] := by subst hB; exact h20
  have hrowB : ∀ {w1 : World} {L}, Hp w12 w1 L → B ∈ L → Row w1 b18 0 [.slice av p.funcs.length cv, .slice a2 n2 c2, .slice a3 n3 c3, .slice a4 n4 c4] := by
    intro w1 L h1 hm j v hj
    subst hB
    rw [Nat.zero_add]
    exact cel_of (h1.own _ hm).2 hj
  refine ⟨_, _, _, _, _, _, _, (hrow4 h20.ext).1, _, _, _, _, _, _, _, _, _, _, _, _, hrowB h20 (by simp), ?_⟩
  refine (sinks_w (hP12.ext h20.ext) hl (hlab.ext h20.ext)).mono ?_
  rintro _ w33 ⟨as_, cs, rs, rfl, hss, h33'⟩
  have h33 := h20.call h33'
  refine ⟨_, _, _, rfl, ?_⟩
  obtain ⟨sks, hsks⟩ : ∃ l, l = p.sinks S1 := ⟨_, rfl⟩
  have hsl := Prg.sinks_len S1 hl
  rw [← hsks] at hss h33 hsl ⊢
  clear h33'
  have hsk : ∀ {w1 : World} {L1 L2}, Hp w12 w1 (L1 ++ (rs.L 100 (sks.flatMap snkCells) ++ L2)) → RdS 5 RSnk w1 as_ sks.length sks := fun h1 => Sls.rd hss _ h1 rfl fun i x hx => snk_at hx
  refine alp h33 fun b35 w36 h36 => ⟨_, _, _, (hrow4 h36.ext).2, ?_⟩
  obtain ⟨Ro, hRo⟩ : ∃ R : List (Nat × Obj), R = B :: rs.L 100 (sks.flatMap snkCells) := ⟨_, rfl⟩
  have hBRo : B ∈ Ro := by subst hRo; simp
  have hsk' : ∀ {w1 : World} {L1 L2}, Hp w12 w1 (L1 ++ (Ro ++ L2)) → RdS 5 RSnk w1 as_ sks.length sks := by
    intro w1 L1 L2 h1
    subst hRo
    exact hsk (L1 := L1 ++ [B]) (L2 := L2) (by simpa using h1)
  obtain ⟨pl, hpl⟩ : ∃ pl : Option Addr → Nat → Nat → Int → Nat × Obj, pl = fun a n c x => (b35, Cl 51 [.slice a n c, .slice none 0 0, .int .i64 x]) := ⟨_, rfl⟩
  have h36 : Hp w12 w36 ([pl none 0 0 0] ++ (Ro ++ ((Rw.emp).L 56 [] ++ ([] : List Nat).zip ([] : List Obj)))) := by
    subst hpl hRo
    refine h36.perm ?_
    simp only [Rw.L, List.zip_nil_left, List.append_nil]
    refine List.Perm.cons _ ?_
    exact List.perm_append_comm (l₂ := [B])
  have hfit := hR.fit
  refine ⟨fun i w' k => ∃ (j : Nat) (a : Option Addr) (c : Nat) (r : Rw) (ids : List Nat) (os : List Obj), i = j ∧ j ≤ nf ∧ k = nf - j ∧ ids.length = j ∧ os.length = j ∧ Sls 1 a j c (ids.map fun b => Value.map (some b)) r ∧ (∀ (i : Nat) (o : Obj), os[i]? = some o → MpO (trues (p.cutKeys S1 fl i)) o) ∧
      Hp w12 w' ([pl a j c (sumTo (p.cutWt S1 fl) j)] ++ (Ro ++ (r.L 56 (ids.map fun b => Value.map (some b)) ++ ids.zip os))) ∧ 0 ≤ sumTo (p.cutWt S1 fl) j ∧ sumTo (p.cutWt S1 fl) j ≤ 2147483648000 * (j : Int),
    ⟨nf, 0, none, 0, .emp, [], [], rfl, by omega, by omega, rfl, rfl, Sls.nil 1 none, fun i o h => by simp at h, h36, by simp [sumTo], by simp [sumTo]⟩, ?_⟩
  clear h36 h33 h20 h19
  rintro i w40 k ⟨j, ap, cp, rc, ids, os, rfl, hj, rfl, hidl, hol, hsc, hos, h40, hs0, hs1⟩
  refine sp_dec (fun hlt => ?_) (fun hge => ?_)
  · obtain ⟨f, hf⟩ := at_some (l := p.funcs) (j := j) (by omega)
    obtain ⟨z, hz⟩ : ∃ z, z = p.hz S1 j := ⟨_, rfl⟩
    have hzf : z = hzFn f (S1.get j) p.writes j sks := by rw [hz, Prg.hz, hf, hsks]
    have hfj := hfit j (by omega)
    rw [← hz] at hfj
    have hrunj := hR.run j (by omega)
    rw [← hz] at hrunj
    have hwv : z.weights.length = z.vals.length := by rw [hz]; exact p.hz_wv S1 j
    have hw2000 := (Net.right_weights hfj.right).2
    change z.weights.length ≤ 2000 at hw2000
    obtain ⟨lst, hlst⟩ : ∃ l, l = p.cutList S1 fl j := ⟨_, rfl⟩
    have hlst2 : lst = cutOf (fl j).seek z.weights.length := by rw [hlst, Prg.cutList, ← hz]
    have hlm : ∀ v ∈ lst, 0 ≤ v ∧ v < (z.vals.length : Nat) := fun v hv => by rw [hlst2] at hv; have := cutOf_mem hv; omega
    have hll : lst.length ≤ 2000 := by rw [hlst2]; have := cutOf_len (fl j).seek z.weights.length; omega
    have hkeys : p.cutKeys S1 fl j = z.cutVals lst := by rw [Prg.cutKeys, ← hz, ← hlst]
    have hwt : p.cutWt S1 fl j = z.net.weight lst := by rw [Prg.cutWt, ← hz, ← hlst]
    obtain ⟨L0, hL0⟩ : ∃ L0 : List (Nat × Obj), L0 = Ro ++ (rc.L 56 (ids.map fun b => Value.map (some b)) ++ ids.zip os) := ⟨_, rfl⟩
    refine ⟨_, _, _, _, _, _, _, (hrow4 h40.ext).1, _, _, _, _, _, _, _, _, _, _, _, _, hrowB h40 (by simp [hBRo]), ?_⟩
    refine (graph_w (hP12.ext h40.ext) hsane hf (hlab.ext h40.ext) (hsk' h40) hsl).mono ?_
    rintro _ w51 ⟨m, rfl, h51', hokm⟩
    rw [← hzf] at h51' hokm
    have h51 := h40.call h51'
    obtain ⟨hnet, hvals⟩ := HzL.net (F := []) (by simpa using h51') hokm
    refine ⟨_, rfl, ptAt_of rfl ⟨_, _, _, _, _, _, _, _, _, _, _, _, HzL.row4 (F := []) (by simpa using h51'), ?_⟩⟩
    refine (least_w hnet ⟨hfj.ways, hfj.frm, hfj.to⟩ (fin := fl j) (fun _ => hrunj)).mono ?_
    rintro _ w60 ⟨-, hleast⟩
    obtain ⟨al, cl, rl, rfl, hsl2, h60'⟩ := hleast hfj.right
    have hlst3 : cutOf (fl j).seek z.net.weights.length = lst := hlst2.symm
    rw [hlst3] at hsl2 h60' ⊢
    have h60 := h51.call h60'
    refine ⟨_, _, _, _, rfl, sp_false rfl ?_⟩
    refine alm h60 fun b67 w68 h68 => ?_
    obtain ⟨M1, hM1⟩ : ∃ M1 : List (Nat × Obj), M1 = rl.L 3 (ints lst) ++ (HzL m z ++ ([pl ap j cp (sumTo (p.cutWt S1 fl) j)] ++ L0)) := ⟨_, rfl⟩
    have h68 : Hp w12 w68 ((b67, .map #[] 0) :: M1) := by subst hM1 hL0; exact h68
    refine ⟨fun i w' k => ∃ (u : Nat) (o : Obj) (ks : List Int), i = u ∧ u ≤ lst.length ∧ k = lst.length - u ∧ MpO (trues ks) o ∧ Hp w12 w' ((b67, o) :: M1) ∧ (lst.drop u).foldl (fun ks v => kput ks (z.vals.getD v.toNat 0)) ks = z.cutVals lst,
      ⟨lst.length, 0, .map #[] 0, [], rfl, by omega, by omega, MpO.empty, h68, rfl⟩, ?_⟩
    clear h68 h60 h51
    rintro i w71 k ⟨u, o, ks, rfl, hu, rfl, hmo, h71, hgo⟩
    have hmem : ∀ q ∈ M1, w71.heap[q.1]? = some q.2 := fun q hq => (h71.own q (by simp [hq])).2
    have hown71 : ∀ L1, (∀ q ∈ L1, q ∈ M1) → Owns w71 L1 := fun L1 hs q hq => hmem q (hs q hq)
    have hlrd : RdI w71 al lst.length lst := rdI_owns (e := 3) hsl2 (hown71 _ fun q hq => by subst hM1; simp [hq])
    have hz71 : Hp w12 w71 (((b67, o) :: rl.L 3 (ints lst)) ++ (HzL m z ++ ([pl ap j cp (sumTo (p.cutWt S1 fl) j)] ++ L0))) := by subst hM1; exact h71
    have hz71' : Hp w12 w71 ((((b67, o) :: rl.L 3 (ints lst)) ++ ([pl ap j cp (sumTo (p.cutWt S1 fl) j)] ++ L0)) ++ HzL m z) := hz71.perm (by
      rw [List.append_assoc]
      exact List.Perm.append_left _ List.perm_append_comm)
    refine sp_dec (fun hlt2 => ?_) (fun hge2 => ?_)
    · obtain ⟨v, hv⟩ := at_some (l := lst) (j := u) (by omega)
      rw [drop_cons hv, List.foldl_cons] at hgo
      obtain ⟨hv0, hvn⟩ := hlm v (List.mem_of_getElem? hv)
      obtain ⟨bv, ov, hav, hcv⟩ := RdI.at hlrd hv
      obtain ⟨hnet7, hvals7⟩ := HzL.net hz71' hokm
      have hvn7 := hvals7.len
      obtain ⟨bx, ox, hax, hcx⟩ := RdI.at hvals7 (getD_some (l := z.vals) (d := 0) (i := v.toNat) (by omega))
      have hc4 : cel w71 m.bh (0 + 4) = some m.sv.val := HzL.cell hz71' rfl
      obtain ⟨w83, o', hrun1, hmo', h83⟩ := upd_run mpCut h71 0 rfl hmo (z.vals.getD v.toNat 0) (.bool true)
      rw [trues_put] at hmo'
      exact ⟨by omega, by omega, ptAt_of hav ⟨v, hcv, ptAt_of rfl ⟨_, _, _, hc4, hv0, by omega, ptAt_of hax ⟨_, hcx, w83, hrun1, lst.length - (u + 1), by omega, u + 1, o', _, wrap_succ (by simp only [maxLen]; omega), by omega, rfl, hmo', h83, hgo⟩⟩⟩⟩
    · have hd : lst.drop u = [] := List.drop_of_length_le (by omega)
      rw [hd, List.foldl_nil, ← hkeys] at hgo
      subst hgo
      have hcP : ∀ {w1 : World} {a n c x} {L1 : List (Nat × Obj)}, Hp w12 w1 L1 → pl a n c x ∈ L1 → cel w1 b35 0 = some (.slice a n c) ∧ cel w1 b35 2 = some (.int .i64 x) := by
        intro w1 a n c x L1 h1 hm
        subst hpl
        exact ⟨cel_of (h1.own _ hm).2 rfl, cel_of (h1.own _ hm).2 rfl⟩
      refine ⟨_, _, _, (hcP (a := ap) (n := j) (c := cp) (x := sumTo (p.cutWt S1 fl) j) h71 (by simp [hM1])).1, ?_⟩
      refine alp h71 fun b85 w86 h86 => ?_
      obtain ⟨a', c', w88, r', hrunA, hs', h88⟩ := app1 (ty := 48) slCutMaps (by omega) hsc ((b85, Cl 56 [.map (some b67)]) :: (((b67, o) :: rl.L 3 (ints lst)) ++ (HzL m z ++ ([pl ap j cp (sumTo (p.cutWt S1 fl) j)] ++ Ro))))
        (L := ids.zip os) (by subst hM1 hL0; simpa using h86) 0 rfl rfl rfl (by simp only [maxLen]; omega) (by omega)
      have hide : (ids.map fun b => Value.map (some b)) ++ [.map (some b67)] = (ids ++ [b67]).map fun b => Value.map (some b) := by simp
      rw [hide] at hs' h88
      refine ⟨_, _, _, w88, hrunA, ?_⟩
      -- the plan's cut
      have h88p : Hp w12 w88 ((pl ap j cp (sumTo (p.cutWt S1 fl) j)) :: (((b67, o) :: rl.L 3 (ints lst)) ++ (HzL m z ++ (Ro ++ (r'.L 56 ((ids ++ [b67]).map fun b => Value.map (some b)) ++ ids.zip os))))) := by
        refine (h88.drop 1).perm ?_
        rw [List.cons_append, List.drop_succ_cons, List.drop_zero]
        have e1 : ∀ (A H R X : List (Nat × Obj)) (q : Nat × Obj), (A ++ (H ++ ([q] ++ R)) ++ X).Perm (q :: (A ++ (H ++ (R ++ X)))) := by
          intro A H R X q
          rw [show A ++ (H ++ ([q] ++ R)) ++ X = (A ++ H) ++ (q :: (R ++ X)) by simp]
          refine List.perm_middle.trans ?_
          simp
        exact e1 _ _ _ _ _
      rw [hpl] at h88p
      refine stp h88p 0 rfl (by simp) rfl fun w89 h89 => ?_
      have h89 : Hp w12 w89 ((pl a' (j + 1) c' (sumTo (p.cutWt S1 fl) j)) :: (((b67, o) :: rl.L 3 (ints lst)) ++ (HzL m z ++ (Ro ++ (r'.L 56 ((ids ++ [b67]).map fun b => Value.map (some b)) ++ ids.zip os))))) := by rw [hpl]; exact h89
      have hd89 := h89.drew
      have hz89 : Hp w12 w89.drew (((pl a' (j + 1) c' (sumTo (p.cutWt S1 fl) j)) :: (((b67, o) :: rl.L 3 (ints lst)) ++ (Ro ++ (r'.L 56 ((ids ++ [b67]).map fun b => Value.map (some b)) ++ ids.zip os)))) ++ HzL m z) := hd89.perm (by
        have e1 : ∀ (q : Nat × Obj) (A H R : List (Nat × Obj)), (q :: (A ++ (H ++ R))).Perm ((q :: (A ++ R)) ++ H) := by
          intro q A H R
          rw [List.cons_append, List.append_assoc]
          exact List.Perm.cons _ (List.Perm.append_left _ List.perm_append_comm)
        exact e1 _ _ _ _)
      obtain ⟨hnet9, -⟩ := HzL.net hz89 hokm
      have hlrd9 : RdI w89.drew al lst.length lst := rdI_owns (e := 3) hsl2 fun q hq => (hd89.own q (by simp [hq])).2
      refine ⟨_, (hcP (a := a') (n := j + 1) (c := c') (x := sumTo (p.cutWt S1 fl) j) hd89 (by simp)).2, ptAt_of rfl ⟨_, _, _, _, _, _, _, _, _, _, _, _, HzL.row4 hz89, ?_⟩⟩
      have hwb := (Net.right_weights hfj.right).1
      refine (weight_w hnet9 hlrd9 (fun x hx => by have := hwb x hx; omega) (by omega)).mono ?_
      rintro _ w98 ⟨rfl, hx98⟩
      refine ⟨_, rfl, hx98, ?_⟩
      have h98 := hd89.step hx98
      rw [hpl] at h98
      have hwle := Net.weight_le hfj.right lst
      have hjj : (j : Int) < 1024 := by omega
      have hw1 : IntKind.wrap .i64 (sumTo (p.cutWt S1 fl) j + z.net.weight lst) = sumTo (p.cutWt S1 fl) (j + 1) := by
        rw [sumTo, hwt]
        exact wrap_in (by omega) (by omega)
      rw [hw1]
      refine stp h98 0 rfl (by simp) rfl fun w100 h100 => ?_
      refine ⟨nf - (j + 1), by omega, j + 1, a', c', r', ids ++ [b67], os ++ [o], wrap_succ (by simp only [maxLen]; omega), by omega, rfl, by simp [hidl], by simp [hol], hs', ?_, ?_, ?_, ?_⟩
      · intro i o2 hi
        rw [List.getElem?_append] at hi
        split at hi
        · exact hos i o2 hi
        · rename_i hni
          have : i - os.length = 0 := by
            rcases Nat.eq_zero_or_pos (i - os.length) with h0 | h0
            · exact h0
            · rw [List.getElem?_eq_none (by simp; omega)] at hi; cases hi
          rw [this] at hi
          cases hi
          have : i = j := by omega
          rw [this]; exact hmo
      · have h100 : Hp w12 w100 ((pl a' (j + 1) c' (sumTo (p.cutWt S1 fl) (j + 1))) :: (((b67, o) :: rl.L 3 (ints lst)) ++ (HzL m z ++ (Ro ++ (r'.L 56 ((ids ++ [b67]).map fun b => Value.map (some b)) ++ ids.zip os))))) := by rw [hpl]; exact h100
        have hzip : (ids ++ [b67]).zip (os ++ [o]) = ids.zip os ++ [(b67, o)] := by rw [List.zip_append (by omega)]; rfl
        rw [hzip]
        have e2 : ∀ (A H R X Y : List (Nat × Obj)) (q x : Nat × Obj), List.Sublist (q :: (R ++ (X ++ (Y ++ [x])))) (q :: (A ++ (H ++ (R ++ (X ++ (Y ++ [x])))))) := fun A H R X Y q x => List.Sublist.cons_cons _ ((List.sublist_append_right _ _).trans (List.sublist_append_right _ _))
        refine (h100.perm (L' := (pl a' (j + 1) c' (sumTo (p.cutWt S1 fl) (j + 1))) :: (rl.L 3 (ints lst) ++ (HzL m z ++ (Ro ++ (r'.L 56 ((ids ++ [b67]).map fun b => Value.map (some b)) ++ (ids.zip os ++ [(b67, o)])))))) ?_).sub (e2 _ _ _ _ _ _ _)
        refine List.Perm.cons _ ?_
        have e3 : ∀ (A H R X Y : List (Nat × Obj)) (x : Nat × Obj), ((x :: A) ++ (H ++ (R ++ (X ++ Y)))).Perm (A ++ (H ++ (R ++ (X ++ (Y ++ [x]))))) := by
          intro A H R X Y x
          have : A ++ (H ++ (R ++ (X ++ (Y ++ [x])))) = (A ++ (H ++ (R ++ (X ++ Y)))) ++ [x] := by simp
          rw [this, List.cons_append]
          exact (List.perm_append_singleton x _).symm
        exact e3 _ _ _ _ _ _
      · rw [sumTo, hwt]; omega
      · rw [sumTo, hwt]; omega
  · have hjn : j = nf := by omega
    subst hjn
    have hcP : ∀ {w1 : World} {a n c x} {L1 : List (Nat × Obj)}, Hp w12 w1 L1 → pl a n c x ∈ L1 → cel w1 b35 0 = some (.slice a n c) := by
      intro w1 a n c x L1 h1 hm
      subst hpl
      exact cel_of (h1.own _ hm).2 rfl
    obtain ⟨wt, hwt⟩ : ∃ x, x = sumTo (p.cutWt S1 fl) j := ⟨_, rfl⟩
    rw [← hwt] at h40 hs0 hs1
    have hcuts : ∀ {wb w1 : World} {L1 L2 : List (Nat × Obj)}, Hp wb w1 (L1 ++ (rc.L 56 (ids.map fun b => Value.map (some b)) ++ (ids.zip os ++ L2))) → RCuts w1 ap j (p.cutKeys S1 fl) := by
      intro wb w1 L1 L2 h1 k hk
      obtain ⟨b, hb⟩ := at_some (l := ids) (j := k) (by omega)
      obtain ⟨o, ho⟩ := at_some (l := os) (j := k) (by omega)
      obtain ⟨bb, ob, ha, hc⟩ := hsc.cel_at L1 h1 (j := k) (v := .map (some b)) (by rw [List.getElem?_map, hb]; rfl)
      refine ⟨bb, ob, b, o, ha, by rw [Nat.mul_one]; exact hc, ?_, hos k o ho⟩
      refine (h1.own (b, o) ?_).2
      refine List.mem_append_right _ (List.mem_append_right _ (List.mem_append_left _ ?_))
      exact List.mem_of_getElem? (i := k) (by rw [List.getElem?_zip_eq_some]; exact ⟨hb, ho⟩)
    have h40c : Hp w12 w40 (([pl ap j cp wt] ++ Ro) ++ (rc.L 56 (ids.map fun b => Value.map (some b)) ++ (ids.zip os ++ []))) := by simpa using h40
    have hcut40 := hcuts h40c
    have hcV : CutV w40 ap j p.funcs.length (p.newCut S1 fl) := by
      unfold Prg.newCut
      rw [hfl]
      exact hcut40.cutV
    refine ⟨_, _, _, _, _, _, _, (hrow4 h40.ext).1, _, _, _, hcP (a := ap) (n := j) (c := cp) (x := wt) h40 (by simp), ?_⟩
    refine (taintOf_w (hP12.ext h40.ext) hl (cc := cp) hcV (fin := S2) (fun _ => hR.go2)).mono ?_
    rintro _ w106 ⟨hx106, hyes2, -⟩
    obtain ⟨bv, dv, b2, e2, d2, b3, e3, d3, b4', e4, d4, rfl, hlab2⟩ := hyes2 hck
    refine ⟨_, _, _, _, _, _, _, _, _, _, _, _, _, rfl, ?_⟩
    refine alp (Hp.refl w106) fun b112 w113 h113 => ?_
    refine stp h113 0 rfl (by simp) rfl fun w114 h114 => ?_
    have hx114 : Ext w12 w114 := h40.ext.trans (hx106.trans h114.ext)
    refine ⟨_, _, _, _, _, _, _, (hrow4 hx114).1, _, _, _, _, _, _, _, _, _, _, _, _, h114.row 0 rfl, ?_⟩
    refine (sinks_w (hP12.ext hx114) hl (hlab2.ext h114.ext)).mono ?_
    rintro _ w123 ⟨as2, cs2, rs2, rfl, hss2, h123'⟩
    obtain ⟨sk2, hsk2⟩ : ∃ l, l = p.sinks S2 := ⟨_, rfl⟩
    have hsl2 := Prg.sinks_len S2 hl
    rw [← hsk2] at hss2 h123' hsl2 ⊢
    have h123 : Hp w12 w123 (rs2.L 100 (sk2.flatMap snkCells) ++ ([pl ap j cp wt] ++ (rc.L 56 (ids.map fun b => Value.map (some b)) ++ ids.zip os))) := by
      have h1 := ((h40.step hx106).step h114.ext).call h123'
      refine h1.sub (List.Sublist.append_left ?_ _)
      exact List.Sublist.append_left (List.sublist_append_right _ _) _
    clear h123' h114 h113 hyes2
    refine ⟨_, _, _, rfl, ?_⟩
    obtain ⟨q, hq⟩ : ∃ q : Option Addr → Nat → Nat → Nat × Obj, q = fun ag ng cg => (b35, Cl 51 [.slice ap j cp, .slice ag ng cg, .int .i64 wt]) := ⟨_, rfl⟩
    have hq0 : pl ap j cp wt = q none 0 0 := by rw [hpl, hq]
    rw [hq0] at h123
    obtain ⟨C, hC⟩ : ∃ C : List (Nat × Obj), C = rc.L 56 (ids.map fun b => Value.map (some b)) ++ ids.zip os := ⟨_, rfl⟩
    rw [← hC] at h123
    refine ⟨fun i w' k => ∃ (u : Nat) (ag : Option Addr) (cg : Nat) (rg : Rw) (gs : List Plc), i = u ∧ u ≤ sk2.length ∧ k = sk2.length - u ∧ gs.length ≤ u ∧ Sls 3 ag gs.length cg (threes gs) rg ∧
        Hp w12 w' (q ag gs.length cg :: (rs2.L 100 (sk2.flatMap snkCells) ++ (rg.L 102 (threes gs) ++ C))) ∧ (sk2.drop u).foldl plcStep gs = places sk2,
      ⟨sk2.length, 0, none, 0, .emp, [], rfl, by omega, by omega, by simp, Sls.nil 3 none, h123.perm (by simp [Rw.L]), rfl⟩, ?_⟩
    clear h123
    rintro i w127 k ⟨u, ag, cg, rg, gs, rfl, hu, rfl, hgl, hsg, h127, hgo⟩
    refine sp_dec (fun hlt2 => ?_) (fun hge2 => ?_)
    · intro K130 hK130
      obtain ⟨s, hs⟩ := at_some (l := sk2) (j := u) (by omega)
      rw [drop_cons hs, List.foldl_cons] at hgo
      have hrd : RdS 5 RSnk w127 as2 sk2.length sk2 := Sls.rd hss2 [_] h127 rfl fun i x hx => snk_at hx
      obtain ⟨bs, os', vs, has, hrows, hvls, rfl⟩ := hrd.at_ _ _ hs
      refine ⟨by omega, by omega, ptAt_of has ⟨_, _, _, _, _, hrows, ?_⟩⟩
      refine alp h127 fun b139 w140 h140 => ?_
      refine stp h140 0 rfl (by simp) rfl fun w141 h141 => ⟨_, h141.cl 0 rfl rfl, _, h141.cl 0 rfl rfl, _, h141.cl 0 rfl rfl, ?_⟩
      refine alp (h141.drop 1) fun b145 w146 h146 => ?_
      refine stp h146 0 rfl (by simp) rfl fun w147 h147 => ?_
      obtain ⟨g, hg⟩ : ∃ g : Plc, g = (s.fn, s.blk, s.at_) := ⟨_, rfl⟩
      have h147 : Hp w12 w147 ((b145, Cl 102 [.int .i64 g.1, .int .i64 g.2.1, .int .i64 g.2.2]) :: (q ag gs.length cg :: (rs2.L 100 (sk2.flatMap snkCells) ++ (rg.L 102 (threes gs) ++ C)))) := by subst hg; exact h147
      intro K148 hK148
      have hc35 : ∀ {w1 : World} {L1 : List (Nat × Obj)} {ag ng cg}, Hp w12 w1 L1 → q ag ng cg ∈ L1 → cel w1 b35 1 = some (.slice ag ng cg) := by
        intro w1 L1 ag ng cg h1 hm
        subst hq
        exact cel_of (h1.own _ hm).2 rfl
      have hd := h147.drew
      have hkeep : ∀ {w1 : World}, Hp w12 w1 ((b145, Cl 102 [.int .i64 g.1, .int .i64 g.2.1, .int .i64 g.2.2]) :: (q ag gs.length cg :: (rs2.L 100 (sk2.flatMap snkCells) ++ (rg.L 102 (threes gs) ++ C)))) → plcStep gs s = gs → K148 false w1 := by
        intro w1 h1 hsame
        rw [hsame] at hgo
        refine hK148 _ _ (sp_false rfl (hK130 _ ⟨sk2.length - (u + 1), by omega, u + 1, ag, cg, rg, gs, wrap_succ (by simp only [maxLen]; omega), by omega, rfl, by omega, hsg, h1.drop 1, hgo⟩))
      have hmore : ∀ {w1 : World}, Hp w12 w1 ((b145, Cl 102 [.int .i64 g.1, .int .i64 g.2.1, .int .i64 g.2.2]) :: (q ag gs.length cg :: (rs2.L 100 (sk2.flatMap snkCells) ++ (rg.L 102 (threes gs) ++ C)))) → plcStep gs s = gs ++ [g] → K148 true w1 := by
        intro w1 h1 hsnoc
        rw [hsnoc] at hgo
        refine hK148 _ _ (sp_true rfl ⟨_, _, _, hc35 (ag := ag) (ng := gs.length) (cg := cg) h1 (by simp), _, _, _, h1.row 0 rfl, ?_⟩)
        refine alp (h1.drop 1) fun b155 w156 h156 => ?_
        obtain ⟨a', c', w158, r', hrun, hs', h158⟩ := app1 (ty := 49) slPlcs (by omega) hsg ((b155, Cl 102 [.int .i64 g.1, .int .i64 g.2.1, .int .i64 g.2.2]) :: q ag gs.length cg :: rs2.L 100 (sk2.flatMap snkCells))
          (L := C) (by simpa using h156) 0 rfl rfl rfl (by simp only [maxLen]; omega) (by omega)
        have he : threes gs ++ [.int .i64 g.1, .int .i64 g.2.1, .int .i64 g.2.2] = threes (gs ++ [g]) := by simp [threes]
        rw [he] at hs' h158
        refine ⟨_, _, _, w158, hrun, ?_⟩
        have h158 := h158.drop 1
        rw [List.cons_append, List.drop_succ_cons, List.drop_zero, hq] at h158
        refine stp h158 0 rfl (by simp) rfl fun w159 h159 => ?_
        have h159 : Hp w12 w159 (q a' (gs.length + 1) c' :: (rs2.L 100 (sk2.flatMap snkCells) ++ (r'.L 102 (threes (gs ++ [g])) ++ C))) := by rw [hq]; exact h159
        refine hK130 _ ⟨sk2.length - (u + 1), by omega, u + 1, a', c', r', gs ++ [g], wrap_succ (by simp only [maxLen]; omega), by omega, rfl, by simp; omega, by simpa using hs', by simpa using h159, hgo⟩
      refine ⟨_, _, _, hc35 (ag := ag) (ng := gs.length) (cg := cg) hd (by simp), sp_dec (fun h0 => ?_) (fun h0 => ?_)⟩
      · have hg0 : gs = [] := List.eq_nil_of_length_eq_zero (by omega)
        exact hmore hd (by unfold plcStep; rw [hg0, hg]; rfl)
      · have hgne : gs ≠ [] := fun e => h0 (by rw [e]; rfl)
        have hpos : 0 < gs.length := List.length_pos_iff.2 hgne
        have e1 : IntKind.wrap .i64 ((gs.length : Nat) - 1 : Int) = ((gs.length - 1 : Nat) : Int) := by rw [wrap_in (by omega) (by omega)]; omega
        obtain ⟨y, hy⟩ := at_some (l := gs) (j := gs.length - 1) (by omega)
        have hlast : gs.getLast? = some y := by rw [List.getLast?_eq_getElem?]; exact hy
        have hrdg : RdS 3 RPlc w147.drew ag gs.length gs := Sls.rd hsg ((b145, Cl 102 [.int .i64 g.1, .int .i64 g.2.1, .int .i64 g.2.2]) :: q ag gs.length cg :: rs2.L 100 (sk2.flatMap snkCells)) (L := C) (by simpa using hd) rfl fun i x hx => threes_at hx
        obtain ⟨by_, oy, vs, hay, hrowy, _, rfl⟩ := hrdg.at_ _ _ hy
        refine ⟨_, _, _, hc35 (ag := ag) (ng := gs.length) (cg := cg) hd (by simp), ag, gs.length, cg, hc35 (ag := ag) (ng := gs.length) (cg := cg) hd (by simp), ?_⟩
        rw [e1]
        refine ⟨by omega, by omega, ptAt_of hay ⟨_, _, _, hrowy, _, _, _, hd.row 0 rfl, _, fun w' => place_neq _ _ _ _ _ _ _ _ w', ?_⟩⟩
        by_cases hyg : y = g
        · have : (!decide ((y.1, y.2.1, y.2.2) = (g.1, g.2.1, g.2.2))) = false := by rw [hyg]; simp
          rw [this]
          exact hkeep hd (by unfold plcStep; rw [hlast, hyg, hg]; simp)
        · have : (!decide ((y.1, y.2.1, y.2.2) = (g.1, g.2.1, g.2.2))) = true := by
            have h2 : ¬ (y.1, y.2.1, y.2.2) = (g.1, g.2.1, g.2.2) := fun e => hyg e
            rw [decide_eq_false h2]; rfl
          rw [this]
          exact hmore hd (by unfold plcStep; rw [hlast, ← hg, if_neg (by simpa using hyg)])
    · have hd : sk2.drop u = [] := List.drop_of_length_le (by omega)
      rw [hd, List.foldl_nil] at hgo
      have hrow35 : Row w127 b35 0 [.slice ap j cp, .slice ag gs.length cg, .int .i64 wt] := by subst hq; exact h127.row 0 rfl
      refine ⟨_, _, _, _, _, _, _, hrow35, ?_⟩
      have h127b := h12.call h127
      obtain ⟨LQ, hLQ⟩ : ∃ L, L = q ag gs.length cg :: (rs2.L 100 (sk2.flatMap snkCells) ++ (rg.L 102 (threes gs) ++ C)) := ⟨_, rfl⟩
      rw [← hLQ] at h127b
      refine stp h127b LQ.length (b := b6) (e := 51) (old := [.slice none 0 0, .slice none 0 0, .int .i64 0]) (by rw [List.getElem?_append_right (Nat.le_refl _), Nat.sub_self]; rfl) (by simp) rfl fun w175 h175 => ?_
      rw [List.set_append_right _ _ (Nat.le_refl _), Nat.sub_self, List.set_cons_zero] at h175
      refine ⟨_, _, _, _, _, _, _, h175.row LQ.length (by rw [List.getElem?_append_right (Nat.le_refl _), Nat.sub_self]; rfl), h175.ext, fun h => (by cases h), fun _ => ⟨_, rfl, ap, cp, ag, gs.length, cg, ?_, ?_, ?_⟩⟩
      · rw [hfl, hwt]
      · rw [hfl]
        refine hcuts (wb := w) (L1 := q ag gs.length cg :: (rs2.L 100 (sk2.flatMap snkCells) ++ rg.L 102 (threes gs))) (L2 := [(b6, Cl 51 (splice [.slice none 0 0, .slice none 0 0, .int .i64 0] 0 [.slice ap j cp, .slice ag gs.length cg, .int .i64 wt])), (b4, Cl 32 [.slice aa na ca, .slice af j cf, .int .i64 p.main])]) ?_
        subst hLQ hC
        simpa using h175
      · rw [← hgo]
        refine Sls.rd (w0 := w) (e := 102) hsg (q ag gs.length cg :: rs2.L 100 (sk2.flatMap snkCells)) (L := C ++ [(b6, Cl 51 (splice [.slice none 0 0, .slice none 0 0, .int .i64 0] 0 [.slice ap j cp, .slice ag gs.length cg, .int .i64 wt])), (b4, Cl 32 [.slice aa na ca, .slice af j cf, .int .i64 p.main])]) ?_ rfl fun i x hx => threes_at hx
        subst hLQ
        simpa using h175
end Go.Pl.Try

/-
  DERIVED: THE SHELF's CONTRACTS AT THIS DUMP, IN PLAIN WORDS (tools/lay-plain.mjs out of 'YtbacmadoenicnaaIterRaw.lean', which tools/lay-shelf.mjs wrote): THE SAME DECLARATIONS UNDER THE SAME NAMES: 'import', 'namespace', 'open', 'def', 'theorem' AND NOTHING ELSE: no command of the shelf's: FOR A HAND-IN. Each laying: the table of numbers ('.._ren') and one theorem, a field a fact of the dump's own or the kernel's comparison; each contract: ONE APPLICATION.
-/
namespace Go.Proofs
open Go.Shelf
def Try.keysA_ren : Go.Shelf.Ren := ⟨fun | 7 => 44 | 10 => 75 | n => n, fun | 23 => 56 | 26 => 3 | 3 => 4 | 28 => 123 | 0 => 0 | 27 => 122 | 33 => 117 | 4 => 4 | n => n, fun | n => n⟩
theorem Try.keysA : Go.Proofs.SlLaysZI.n7 Try.prog Try.keysA_ren := {
  mixed := by kernel_rfl
  f7 := ⟨Try.f44.name, by decide, Try.func44.trans (congrArg some (by kernel_rfl))⟩
  f10 := ⟨Try.f75.name, by decide, Try.func75.trans (congrArg some (by kernel_rfl))⟩
  t0 := Try.underlying0
  a0 := Try.isAgg0
  z0 := Try.sizeOf0
  v0 := Try.zeroValue0
  t4 := Try.underlying4
  a4 := Try.isAgg4
  z4 := Try.sizeOf4
  v4 := Try.zeroValue4
  t23 := Try.underlying56
  a23 := Try.isAgg56
  z23 := Try.sizeOf56
  v23 := Try.zeroValue56
  t26 := Try.underlying3
  a26 := Try.isAgg3
  z26 := Try.sizeOf3
  v26 := Try.zeroValue3
  t27 := Try.underlying122
  a27 := Try.isAgg122
  z27 := Try.sizeOf122
  v27 := Try.zeroValue122
  t28 := Try.underlying123
  a28 := Try.isAgg123
  z28 := Try.sizeOf123
  v28 := Try.zeroValue123
  t33 := Try.underlying117
  a33 := Try.isAgg117
  z33 := Try.sizeOf117
  v33 := Try.zeroValue117 }
def Try.sortedA_ren : Go.Shelf.Ren := ⟨fun | 6 => 43 | 8 => 73 | 9 => 74 | 11 => 84 | 13 => 86 | 12 => 85 | 23 => 96 | 24 => 97 | 14 => 87 | 15 => 88 | 16 => 89 | 17 => 90 | 18 => 91 | 19 => 92 | 20 => 93 | 21 => 94 | 22 => 95 | 25 => 98 | 26 => 99 | 27 => 100 | 28 => 101 | 29 => 102 | 30 => 103 | 31 => 104 | n => n, fun | 26 => 3 | 28 => 123 | 24 => 34 | 0 => 0 | 3 => 3 | 37 => 87 | 48 => 173 | 50 => 175 | 4 => 4 | 40 => 166 | 39 => 165 | 45 => 83 | 5 => 5 | 9 => 9 | 51 => 176 | 55 => 180 | 57 => 182 | 58 => 183 | 33 => 117 | n => n, fun | n => n⟩
theorem Try.sortedA : Go.Proofs.SlLaysZI.n6 Try.prog Try.sortedA_ren := {
  mixed := by kernel_rfl
  f6 := ⟨Try.f43.name, by decide, Try.func43.trans (congrArg some (by kernel_rfl))⟩
  f8 := ⟨Try.f73.name, by decide, Try.func73.trans (congrArg some (by kernel_rfl))⟩
  f11 := ⟨Try.f84.name, by decide, Try.func84.trans (congrArg some (by kernel_rfl))⟩
  t0 := Try.underlying0
  a0 := Try.isAgg0
  z0 := Try.sizeOf0
  v0 := Try.zeroValue0
  t24 := Try.underlying34
  a24 := Try.isAgg34
  z24 := Try.sizeOf34
  v24 := Try.zeroValue34
  t26 := Try.underlying3
  a26 := Try.isAgg3
  z26 := Try.sizeOf3
  v26 := Try.zeroValue3
  t28 := Try.underlying123
  a28 := Try.isAgg123
  z28 := Try.sizeOf123
  v28 := Try.zeroValue123
  i26 := by kernel_rfl }
def Try.sortA_ren : Go.Shelf.Ren := ⟨fun | 5 => 74 | 8 => 86 | 7 => 85 | 19 => 96 | 20 => 97 | 10 => 87 | 11 => 88 | 12 => 89 | 13 => 90 | 14 => 91 | 15 => 92 | 16 => 93 | 17 => 94 | 18 => 95 | 30 => 98 | 31 => 99 | 32 => 100 | 33 => 101 | 34 => 102 | 35 => 103 | 40 => 104 | n => n, fun | 23 => 34 | 25 => 3 | 3 => 3 | 32 => 87 | 22 => 34 | 0 => 0 | 44 => 173 | 46 => 175 | 4 => 4 | 36 => 166 | 35 => 165 | 41 => 83 | 5 => 5 | 9 => 9 | 53 => 176 | 57 => 180 | 63 => 182 | 64 => 183 | n => n, fun | n => n⟩
theorem Try.sortA : Go.Proofs.SlLaysM.n5 Try.prog Try.sortA_ren := {
  mixed := by kernel_rfl
  f5 := ⟨Try.f74.name, by decide, Try.func74.trans (congrArg some (by kernel_rfl))⟩
  f7 := ⟨Try.f85.name, by decide, Try.func85.trans (congrArg some (by kernel_rfl))⟩
  f8 := Try.func86.trans (congrArg some (by kernel_rfl))
  f10 := ⟨Try.f87.name, by decide, Try.func87.trans (congrArg some (by kernel_rfl))⟩
  f11 := ⟨Try.f88.name, by decide, Try.func88.trans (congrArg some (by kernel_rfl))⟩
  f12 := ⟨Try.f89.name, by decide, Try.func89.trans (congrArg some (by kernel_rfl))⟩
  f13 := ⟨Try.f90.name, by decide, Try.func90.trans (congrArg some (by kernel_rfl))⟩
  f14 := ⟨Try.f91.name, by decide, Try.func91.trans (congrArg some (by kernel_rfl))⟩
  f15 := ⟨Try.f92.name, by decide, Try.func92.trans (congrArg some (by kernel_rfl))⟩
  f16 := ⟨Try.f93.name, by decide, Try.func93.trans (congrArg some (by kernel_rfl))⟩
  f17 := ⟨Try.f94.name, by decide, Try.func94.trans (congrArg some (by kernel_rfl))⟩
  f18 := ⟨Try.f95.name, by decide, Try.func95.trans (congrArg some (by kernel_rfl))⟩
  f19 := Try.func96.trans (congrArg some (by kernel_rfl))
  f20 := Try.func97.trans (congrArg some (by kernel_rfl))
  f30 := ⟨Try.f98.name, by decide, Try.func98.trans (congrArg some (by kernel_rfl))⟩
  f31 := Try.func99.trans (congrArg some (by kernel_rfl))
  f32 := Try.func100.trans (congrArg some (by kernel_rfl))
  f33 := ⟨Try.f101.name, by decide, Try.func101.trans (congrArg some (by kernel_rfl))⟩
  f34 := ⟨Try.f102.name, by decide, Try.func102.trans (congrArg some (by kernel_rfl))⟩
  f35 := ⟨Try.f103.name, by decide, Try.func103.trans (congrArg some (by kernel_rfl))⟩
  f40 := ⟨Try.f104.name, by decide, Try.func104.trans (congrArg some (by kernel_rfl))⟩
  t0 := Try.underlying0
  a0 := Try.isAgg0
  z0 := Try.sizeOf0
  v0 := Try.zeroValue0
  t3 := Try.underlying3
  a3 := Try.isAgg3
  z3 := Try.sizeOf3
  v3 := Try.zeroValue3
  t4 := Try.underlying4
  a4 := Try.isAgg4
  z4 := Try.sizeOf4
  v4 := Try.zeroValue4
  t5 := Try.underlying5
  a5 := Try.isAgg5
  z5 := Try.sizeOf5
  v5 := Try.zeroValue5
  t9 := Try.underlying9
  a9 := Try.isAgg9
  z9 := Try.sizeOf9
  v9 := Try.zeroValue9
  t22 := Try.underlying34
  a22 := Try.isAgg34
  z22 := Try.sizeOf34
  v22 := Try.zeroValue34
  t23 := Try.underlying34
  a23 := Try.isAgg34
  z23 := Try.sizeOf34
  v23 := Try.zeroValue34
  t25 := Try.underlying3
  a25 := Try.isAgg3
  z25 := Try.sizeOf3
  v25 := Try.zeroValue3
  t32 := Try.underlying87
  a32 := Try.isAgg87
  z32 := Try.sizeOf87
  v32 := Try.zeroValue87
  t35 := Try.underlying165
  a35 := Try.isAgg165
  z35 := Try.sizeOf165
  v35 := Try.zeroValue165
  t36 := Try.underlying166
  a36 := Try.isAgg166
  z36 := Try.sizeOf166
  v36 := Try.zeroValue166
  t41 := Try.underlying83
  a41 := Try.isAgg83
  z41 := Try.sizeOf83
  v41 := Try.zeroValue83
  t44 := Try.underlying173
  a44 := Try.isAgg173
  z44 := Try.sizeOf173
  v44 := Try.zeroValue173
  t46 := Try.underlying175
  a46 := Try.isAgg175
  z46 := Try.sizeOf175
  v46 := Try.zeroValue175
  t53 := Try.underlying176
  a53 := Try.isAgg176
  z53 := Try.sizeOf176
  v53 := Try.zeroValue176
  t57 := Try.underlying180
  a57 := Try.isAgg180
  z57 := Try.sizeOf180
  v57 := Try.zeroValue180
  t63 := Try.underlying182
  a63 := Try.isAgg182
  z63 := Try.sizeOf182
  v63 := Try.zeroValue182
  t64 := Try.underlying183
  a64 := Try.isAgg183
  z64 := Try.sizeOf183
  v64 := Try.zeroValue183 }
end Go.Proofs

/- What '(palings/harden.Plan).Values' does, read off its translation by gen.py. -/
namespace Go.Pl.Try
set_option linter.unusedVariables false
set_option maxRecDepth 100000
def F21 (ap1 : Option Addr) (np1 cp1 : Nat) (ap2 : Option Addr) (np2 cp2 : Nat) (p3 : Int) (fn4 : Int) (w : World) (R : Value → World → Prop) : Prop :=
  AlP 51 [.slice ap1 np1 cp1, .slice ap2 np2 cp2, .int .i64 p3] w fun b5 w6 =>
  ∀ K7 : World → Prop, (∀ w8, (
  ∃ (ax9 : Option Addr) (nx9 cx9 : Nat), cel w8 b5 0 = some (.slice ax9 nx9 cx9) ∧
  0 ≤ (fn4 : Int) ∧ (fn4 : Int) < (nx9 : Nat) ∧
  ptAt ax9 fun b10 o11 =>
  ∃ (x12 : Option Nat), cel w8 b10 (o11 + fn4.toNat * 1) = some (.map x12) ∧
  CallP Pg 44 [.map x12] w8 fun v13 w14 => ∃ (x15 : Value), v13 = x15 ∧
  CallP Pg 43 [x15] w14 fun v16 w17 => ∃ (ax18 : Option Addr) (nx18 cx18 : Nat), v16 = .slice ax18 nx18 cx18 ∧
  R (.slice ax18 nx18 cx18) w17) → K7 w8) →
  ∀ K19 : World → Prop, (∀ w20, (
  R (.slice none 0 0) w20) → K19 w20) →
  sp (decide ((fn4 : Int) < 0))
  (K19 w6)
  (∃ (ax21 : Option Addr) (nx21 cx21 : Nat), cel w6 b5 0 = some (.slice ax21 nx21 cx21) ∧
  sp (decide (((nx21 : Nat) : Int) ≤ fn4))
  (K19 w6)
  (K7 w6))
def T21 : List Sh := [.v (.agg [.sl, .sl, (.int .i64)]), .v (.one (.int .i64)), .v (.one .ptr), .v (.one .any), .v (.one .sl), .v (.one (.int .i64)), .v (.one .bool), .v (.one .bool), .v (.one (.int .i64)), .v (.one .ptr), .v (.one .sl), .v (.one (.int .i64)), .v (.one .bool), .v (.one .bool), .v (.one .ptr), .v (.one .sl), .v (.one (.int .i64)), .v (.one .ptr), .v (.one .map), .v (.one .any), .v (.one .sl)]
def A21 : Ann := (.seq none .z (.seq (some []) (.ifs (some []) none (.seq none .z .z) .z) (.seq none .z .z)))
theorem F21_eq (ap1 : Option Addr) (np1 cp1 : Nat) (ap2 : Option Addr) (np2 cp2 : Nat) (p3 : Int) (fn4 : Int) (w : World) (R : Value → World → Prop) : F21 ap1 np1 cp1 ap2 np2 cp2 p3 fn4 w R = denF Go.Proofs.Try.prog T21 Go.Proofs.Try.f21 A21 [.agg ⟨[.slice ap1 np1 cp1, .slice ap2 np2 cp2, .int .i64 p3]⟩, .int .i64 fn4] w R := by kernel_rfl
theorem F21_ok (ap1 : Option Addr) (np1 cp1 : Nat) (ap2 : Option Addr) (np2 cp2 : Nat) (p3 : Int) (fn4 : Int) {w : World} {R : Value → World → Prop} (h : F21 ap1 np1 cp1 ap2 np2 cp2 p3 fn4 w R) : CallP Go.Proofs.Try.prog 21 [.agg ⟨[.slice ap1 np1 cp1, .slice ap2 np2 cp2, .int .i64 p3]⟩, .int .i64 fn4] w R :=
  calls_den (fun _ => drawn (by kernel_rfl)) Go.Proofs.Try.func21 (Nat.le_of_ble_eq_true (by kernel_rfl)) ((F21_eq ap1 np1 cp1 ap2 np2 cp2 p3 fn4 w R).mp h)
end Go.Pl.Try

/- What '(palings/harden.Plan).Fences' does, read off its translation by gen.py. -/
namespace Go.Pl.Try
set_option linter.unusedVariables false
set_option maxRecDepth 100000
def F8 (ap1 : Option Addr) (np1 cp1 : Nat) (ap2 : Option Addr) (np2 cp2 : Nat) (p3 : Int) (w : World) (R : Value → World → Prop) : Prop :=
  AlP 51 [.slice ap1 np1 cp1, .slice ap2 np2 cp2, .int .i64 p3] w fun b4 w5 =>
  ∃ (ax6 : Option Addr) (nx6 cx6 : Nat), cel w5 b4 1 = some (.slice ax6 nx6 cx6) ∧
  ∃ (ax7 : Option Addr) (nx7 cx7 : Nat), cel w5 b4 0 = some (.slice ax7 nx7 cx7) ∧
  ∃ J8 : Int → Int → World → Nat → Prop, (∃ m12, J8 (nx6 : Nat) 0 w5 m12) ∧
  ∀ (n9 : Int) (x10 : Int), ∀ w11 m12, J8 n9 x10 w11 m12 →
  sp (decide ((x10 : Int) < (nx7 : Nat)))
  (0 ≤ (x10 : Int) ∧ (x10 : Int) < (nx7 : Nat) ∧
  ptAt ax7 fun b14 o15 =>
  ∃ (x16 : Option Nat), cel w11 b14 (o15 + x10.toNat * 1) = some (.map x16) ∧
  ∃ (x17 : Int), Sem.run Pg (Builtin.len_ #[56] 3 ⟨[.map x16]⟩) w11 = .ok (.int .i64 x17) w11 ∧
  ∃ m13, m13 < m12 ∧ J8 (IntKind.wrap .i64 (n9 + x17)) (IntKind.wrap .i64 (x10 + 1)) w11 m13)
  (R (.int .i64 n9) w11)
def T8 : List Sh := [.v (.agg [.sl, .sl, (.int .i64)]), .v (.one .ptr), .v (.one (.int .i64)), .v (.one (.int .i64)), .v (.one .any), .v (.one .map), .v (.one .ptr), .v (.one .sl), .v (.one (.int .i64)), .v (.one .ptr), .v (.one .sl), .v (.one (.int .i64)), .v (.one (.int .i64)), .v (.one .bool), .v (.one .ptr), .v (.one .map), .v (.one (.int .i64)), .v (.one .map), .v (.one (.int .i64)), .v (.one (.int .i64)), .v (.one (.int .i64)), .v (.one (.int .i64))]
def A8 : Ann := (.seq none .z (.seq none .z (.seq none (.seq none .z (.block none (.loop [3, 12] (.seq none .z (.seq none (.cond .z .z) (.seq none (.block none (.seq none .z .z)) .z)))))) (.seq none .z .z))))
theorem F8_eq (ap1 : Option Addr) (np1 cp1 : Nat) (ap2 : Option Addr) (np2 cp2 : Nat) (p3 : Int) (w : World) (R : Value → World → Prop) : F8 ap1 np1 cp1 ap2 np2 cp2 p3 w R = denF Go.Proofs.Try.prog T8 Go.Proofs.Try.f8 A8 [.agg ⟨[.slice ap1 np1 cp1, .slice ap2 np2 cp2, .int .i64 p3]⟩] w R := by kernel_rfl
theorem F8_ok (ap1 : Option Addr) (np1 cp1 : Nat) (ap2 : Option Addr) (np2 cp2 : Nat) (p3 : Int) {w : World} {R : Value → World → Prop} (h : F8 ap1 np1 cp1 ap2 np2 cp2 p3 w R) : CallP Go.Proofs.Try.prog 8 [.agg ⟨[.slice ap1 np1 cp1, .slice ap2 np2 cp2, .int .i64 p3]⟩] w R :=
  calls_den (fun _ => drawn (by kernel_rfl)) Go.Proofs.Try.func8 (Nat.le_of_ble_eq_true (by kernel_rfl)) ((F8_eq ap1 np1 cp1 ap2 np2 cp2 p3 w R).mp h)
end Go.Pl.Try
