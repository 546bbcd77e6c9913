/- Joined texts of the proof, part 13: WCut4, F24, F19, WCut5, WPlace, Model11, F7. -/
import Derived.Test.YtbacmadoenicnaaQ12
set_option maxRecDepth 2000
set_option linter.unusedVariables false
set_option linter.unusedSimpArgs false
set_option linter.unusedSectionVars false
/- Nets: what flows on a way: walked. -/
namespace Go.Pl.M
set_option linter.unusedVariables false
theorem pushAt_len (arcs : List (Int × Int)) (m : Int) (a : Nat) : (pushAt arcs m a).length = arcs.length := by simp [pushAt]
theorem getD_set_fst {arcs : List (Int × Int)} {a : Nat} {y : Int} (i : Nat) : ((arcs.set a ((arcs.getD a (0, 0)).1, y)).getD i (0, 0)).1 = (arcs.getD i (0, 0)).1 := by
  simp only [List.getD_eq_getElem?_getD, List.getElem?_set]
  split
  · rename_i e; subst e
    split
    · rfl
    · rename_i h; rw [List.getElem?_eq_none (by omega)]
  · rfl
theorem pushAt_fst (arcs : List (Int × Int)) (m : Int) (a : Nat) (i : Nat) : ((pushAt arcs m a).getD i (0, 0)).1 = (arcs.getD i (0, 0)).1 := by
  unfold pushAt
  rw [getD_set_fst, getD_set_fst]
theorem pushAll_snoc (m : Int) (a : Nat) : ∀ (P : List Nat) (arcs : List (Int × Int)), pushAll m (P ++ [a]) arcs = pushAt (pushAll m P arcs) m a
  | [], _ => rfl
  | b :: P, arcs => by rw [List.cons_append, pushAll, pushAll_snoc m a P]; rfl
end Go.Pl.M
namespace Go.Pl.Try
open M
set_option linter.unusedVariables false
theorem xor_one {a : Nat} (h : a < 4611686018427387904) : bitsI .xor .i64 (a : Int) 1 = ((a ^^^ 1 : Nat) : Int) := by
  have h2 : a ^^^ 1 < 2 ^ 62 := Nat.xor_lt_two_pow (by omega) (by omega)
  show IntKind.wrap .i64 (((BitVec.ofInt 64 (a : Int) ^^^ BitVec.ofInt 64 1).toNat : Nat) : Int) = _
  have e1 : (BitVec.ofInt 64 (a : Int) ^^^ BitVec.ofInt 64 1).toNat = a ^^^ 1 := by
    rw [BitVec.toNat_xor, BitVec.toNat_ofInt, BitVec.toNat_ofInt]
    congr 1
    omega
  rw [e1, wrap_in (by omega) (by omega)]
theorem twos_set {l : List (Int × Int)} {i : Nat} (h : i < l.length) (y : Int) : splice (twos l) (i * 2 + 1) [.int .i64 y] = twos (l.set i ((l.getD i (0, 0)).1, y)) := by
  induction l generalizing i with
  | nil => simp at h
  | cons a l ih =>
    cases i with
    | zero => simp [twos, splice]
    | succ i =>
      have := ih (i := i) (by simpa using h)
      simp only [twos, List.flatMap_cons, List.set_cons_succ, List.getD_cons_succ] at this ⊢
      rw [← this]
      unfold splice
      have e : (i + 1) * 2 + 1 = ([.int .i64 a.1, .int .i64 a.2] : List Value).length + (i * 2 + 1) := by simp; omega
      rw [e, List.take_length_add_append, Nat.add_assoc _ _ ([Value.int IntKind.i64 y].length), List.drop_length_add_append]
      simp
section
variable {w0 w : World} {F : List (Nat × Obj)} {m : FlM} {f : Fl}
theorem arc_cel (h : Hp w0 w (F ++ FlL m f)) (hok : FlOk m f) {a : Nat} (ha : a < f.arcs.length) : ∃ b o, m.sa.a = some ⟨b, o, none⟩ ∧ cel w b (o + a * 2) = some (.int .i64 (f.arcs.getD a (0, 0)).1) ∧ cel w b (o + a * 2 + 1) = some (.int .i64 (f.arcs.getD a (0, 0)).2) := by
  obtain ⟨b, o, vs, hb, hrow, _, rfl⟩ := (FlL.arcs h hok).at_ a _ (getD_some (d := (0, 0)) ha)
  exact ⟨b, o, hb, hrow 0 _ rfl, hrow 1 _ rfl⟩
theorem arc_st (h : Hp w0 w (F ++ FlL m f)) (hok : FlOk m f) {a : Nat} (ha : a < f.arcs.length) (y : Int) {b o : Nat} (hb : m.sa.a = some ⟨b, o, none⟩) {K : World → Prop}
    (k : ∀ w1, Hp w0 w1 (F ++ FlL m ⟨f.arcs.set a ((f.arcs.getD a (0, 0)).1, y), f.outs⟩) → FlOk m ⟨f.arcs.set a ((f.arcs.getD a (0, 0)).1, y), f.outs⟩ → K w1) : StP b (o + a * 2 + 1) [.int .i64 y] w K := by
  have h2 : Hp w0 w ((F ++ [(m.bf, Cl 153 [m.sa.val, .slice (some ⟨m.bo, 0, none⟩) f.outs.length f.outs.length])]) ++ (m.sa.r.L 156 (twos f.arcs) ++ RO 34 3 m.bo m.ss f.outs)) := by simpa [FlL] using h
  have hst := Sls.st hok.a _ h2 (j := a * 2 + 1) (us := [.int .i64 y]) (by rw [twos_len]; simp; omega) (by simp) rfl (K := fun _ _ w1 => K w1) (fun b' o' w1 _ hs' h' => by
    rw [twos_set ha] at hs' h'
    exact k w1 (by simpa [FlL] using h') ⟨hs', hok.r⟩)
  obtain ⟨b', o', e, hst⟩ := ptAt_inv hst
  rw [hb] at e
  cases e
  exact hst
theorem push_w (h : Hp w0 w (F ++ FlL m f)) (hok : FlOk m f) (hs : f.Shape) (hn : f.outs.length ≤ 1048576) (hal : f.arcs.length ≤ 4398046511104) {by_ : List Int} {bb k : Nat} (hk : F[k]? = some (bb, Cl 3 (ints by_))) (hbl : by_.length = f.outs.length)
    (hba : ∀ a ∈ by_, a < (f.arcs.length : Nat)) (hev : f.arcs.length % 2 = 0) {P : List Nat} {fuel : Nat} (hP : pathGo f.arcs by_ fuel ((f.outs.length - 1 : Nat) : Int) = some P) {q : Int} (hq : q = most f.arcs much P)
    (hbd : ∀ t, ∀ x ∈ pushAll q (P.take t) f.arcs, -4611686018427387904 ≤ x.2 ∧ x.2 ≤ 4611686018427387904) (hmo : 0 ≤ q ∧ q ≤ 4611686018427387904) :
    CallP Pg 51 [.pointer (some ⟨m.bf, 0, none⟩), .slice (some ⟨bb, 0, none⟩) f.outs.length f.outs.length] w fun u w' => u = .tuple ⟨[]⟩ ∧ Hp w0 w' (F ++ FlL m ⟨pushAll q P f.arcs, f.outs⟩) ∧ FlOk m ⟨pushAll q P f.arcs, f.outs⟩ := by
  obtain ⟨n, hnn⟩ : ∃ n, n = f.outs.length := ⟨_, rfl⟩
  have h2 := hs.two
  have han := okN2 hok.a
  have hxe : ∀ {a : Nat}, a < f.arcs.length → a ^^^ 1 < f.arcs.length := by
    intro a ha
    have e1 : (a ^^^ 1) / 2 = a / 2 := by rw [Nat.xor_div_two]; simp
    have e2 : (a ^^^ 1) % 2 = (a + 1) % 2 := by
      have e3 : (a ^^^ 1) % 2 = (a % 2) ^^^ 1 := Nat.xor_mod_two_pow (n := 1)
      rw [e3]
      rcases Nat.mod_two_eq_zero_or_one a with h0 | h0 <;> rw [h0] <;> simp <;> omega
    omega
  rw [← hnn] at hbl hn h2 hP ⊢
  have hby : ∀ {w1 : World} {L1} {v : Nat}, Hp w0 w1 (F ++ L1) → v < n → cel w1 bb (0 + v * 1) = some (.int .i64 (by_.getD v 0)) := by
    intro w1 L1 v h1 hv
    refine h1.cl k (e := 3) (vs := ints by_) (by rw [List.getElem?_append_left (List.getElem?_eq_some_iff.1 hk).1]; exact hk) ?_
    rw [show 0 + v * 1 = v by omega, List.getElem?_map, getD_some (d := 0) (by omega)]; rfl
  have hbya : ∀ {v : Nat}, v < n → 0 ≤ by_.getD v 0 → (by_.getD v 0).toNat < f.arcs.length := by
    intro v hv h0
    have := hba _ (List.mem_of_getElem? (getD_some (l := by_) (d := 0) (i := v) (by omega)))
    omega
  refine F51_ok _ _ _ _ ?_
  unfold F51
  have hc1 := (FlL.cells h).2
  rw [← hnn] at hc1
  refine ptAt_of rfl ⟨_, _, _, hc1, ?_⟩
  have e1 : IntKind.wrap .i64 ((n : Nat) - 1 : Int) = ((n - 1 : Nat) : Int) := by rw [wrap_in (by omega) (by omega)]; omega
  rw [e1]
  have hto : ∀ {a : Nat}, a < f.arcs.length → ∃ v : Nat, (f.arcs.getD a (0, 0)).1 = v ∧ v < n := by
    intro a ha
    have := hs.arcs _ (List.mem_of_getElem? (getD_some (l := f.arcs) (d := (0, 0)) ha))
    exact ⟨(f.arcs.getD a (0, 0)).1.toNat, by omega, by omega⟩
  refine ⟨fun mo v w' g => ∃ (vn : Nat) (P' : List Nat), v = vn ∧ vn < n ∧ Hp w0 w' (F ++ FlL m f) ∧ pathGo f.arcs by_ g v = some P' ∧ most f.arcs mo P' = q,
    ⟨fuel, n - 1, P, rfl, by omega, h, hP, hq.symm⟩, ?_⟩
  clear h
  rintro mo v w9 g ⟨vn, P', rfl, hvn, h9, hgo, hmq⟩
  have hb9 := hby h9 hvn
  cases g with
  | zero => simp [pathGo] at hgo
  | succ g =>
  rw [pathGo] at hgo
  simp only [Int.toNat_natCast] at hgo hb9 ⊢
  refine ⟨by omega, by omega, ptAt_of rfl ⟨_, hb9, sp_dec (fun hge => ?_) (fun hlt => ?_)⟩⟩
  · rw [if_pos hge] at hgo
    have han1 := hbya hvn hge
    have hb9d := hby h9.drew hvn
    have hb9dd := hby h9.drew.drew hvn
    obtain ⟨a, ha⟩ : ∃ a : Nat, by_.getD vn 0 = (a : Int) := ⟨(by_.getD vn 0).toNat, by omega⟩
    rw [ha] at hgo han1 hb9d hb9dd
    simp only [Int.toNat_natCast] at hgo han1
    have hxa := hxe han1
    obtain ⟨b, o, hsa, hcto, hcl⟩ := arc_cel h9.drew hok han1
    obtain ⟨b2, o2, hsa2, hcto2, hcl2⟩ := arc_cel h9.drew.drew hok hxa
    obtain ⟨v2, hv2, hv2n⟩ := hto hxa
    have hgo2 : ∃ P2, pathGo f.arcs by_ g (f.arcs.getD (a ^^^ 1) (0, 0)).1 = some P2 ∧ a :: P2 = P' := by
      cases hp : pathGo f.arcs by_ g (f.arcs.getD (a ^^^ 1) (0, 0)).1 with
      | none => rw [hp] at hgo; cases hgo
      | some P2 => rw [hp] at hgo; exact ⟨P2, rfl, by simpa using hgo⟩
    obtain ⟨P2, hp2, rfl⟩ := hgo2
    have hxo := xor_one (a := a) (by omega)
    refine ptAt_of rfl ⟨_, _, _, (FlL.cells h9.drew).1, by omega, by omega, ptAt_of rfl ⟨_, hb9d, by omega, by omega, ptAt_of hsa ⟨_, hcl, ptAt_of rfl ⟨_, _, _, (FlL.cells h9.drew.drew).1, by omega, by omega, ptAt_of rfl ⟨_, hb9dd, ?_⟩⟩⟩⟩⟩
    rw [hxo]
    refine ⟨by omega, by omega, ptAt_of hsa2 ⟨_, hcto2, g, Nat.lt_succ_self g, v2, P2, hv2, hv2n, h9.drew.drew, hp2, ?_⟩⟩
    rw [← hmq]
    simp only [most, List.foldl_cons]
    rfl
  rw [if_neg hlt] at hgo
  cases hgo
  have hmo2 : mo = q := by simpa [most] using hmq
  clear hlt hb9 hmq
  subst hmo2
  obtain ⟨fin, hfin⟩ : ∃ r, r = pushAll mo P f.arcs := ⟨_, rfl⟩
  rw [← hfin]
  refine ⟨fun v w' g => ∃ (vn t : Nat) (arcs : List (Int × Int)), v = vn ∧ vn < n ∧ Hp w0 w' (F ++ FlL m ⟨arcs, f.outs⟩) ∧ FlOk m ⟨arcs, f.outs⟩ ∧ pathGo f.arcs by_ g v = some (P.drop t) ∧ arcs = pushAll mo (P.take t) f.arcs ∧ arcs.length = f.arcs.length ∧ (∀ i, (arcs.getD i (0, 0)).1 = (f.arcs.getD i (0, 0)).1),
    ⟨fuel, n - 1, 0, f.arcs, rfl, by omega, h9, hok, hP, rfl, rfl, fun _ => rfl⟩, ?_⟩
  clear h9 hvn hok g
  rintro v w35 g ⟨vn, t, arcs, rfl, hvn, h35, hok, hgo, harc, hal2, hfst⟩
  have hb35 := hby h35 hvn
  cases g with
  | zero => simp [pathGo] at hgo
  | succ g =>
  rw [pathGo] at hgo
  simp only [Int.toNat_natCast] at hgo hb35 ⊢
  refine ⟨by omega, by omega, ptAt_of rfl ⟨_, hb35, sp_dec (fun hge => ?_) (fun hlt => ?_)⟩⟩
  · rw [if_pos hge] at hgo
    have han1 := hbya hvn hge
    obtain ⟨a, ha⟩ : ∃ a : Nat, by_.getD vn 0 = (a : Int) := ⟨(by_.getD vn 0).toNat, by omega⟩
    rw [ha] at hgo han1
    simp only [Int.toNat_natCast] at hgo han1
    have hxa := hxe han1
    have hxo := xor_one (a := a) (by omega)
    obtain ⟨v2, hv2, hv2n⟩ := hto hxa
    have hgo2 : ∃ P2, pathGo f.arcs by_ g (f.arcs.getD (a ^^^ 1) (0, 0)).1 = some P2 ∧ a :: P2 = P.drop t := by
      cases hp : pathGo f.arcs by_ g (f.arcs.getD (a ^^^ 1) (0, 0)).1 with
      | none => rw [hp] at hgo; cases hgo
      | some P2 => rw [hp] at hgo; exact ⟨P2, rfl, by simpa using hgo⟩
    obtain ⟨P2, hp2, hdr⟩ := hgo2
    have htP : P[t]? = some a := by rw [← List.head?_drop, ← hdr]; rfl
    have hdr2 : P.drop (t + 1) = P2 := by rw [← List.drop_drop, ← hdr]; rfl
    have htk : P.take (t + 1) = P.take t ++ [a] := by rw [List.take_add_one, htP]; rfl
    have hbt := hbd t
    rw [← harc] at hbt
    have hla := hbt _ (List.mem_of_getElem? (getD_some (l := arcs) (d := (0, 0)) (i := a) (by omega)))
    have hbt2 := hbd (t + 1)
    rw [htk, pushAll_snoc, ← harc] at hbt2
    -- the arc
    obtain ⟨b, o, hsa, hcto, hcl⟩ := arc_cel h35.drew hok (a := a) (by simp only; omega)
    have hbd1 := hby h35.drew hvn
    rw [ha] at hbd1
    refine ptAt_of rfl ⟨_, _, _, (FlL.cells h35.drew).1, by omega, by omega, ptAt_of rfl ⟨_, hbd1, by omega, by omega, ptAt_of hsa ⟨_, hcl, by omega, by omega, ptAt_of hsa ?_⟩⟩⟩
    refine arc_st h35.drew hok (a := a) (by simp only; omega) _ hsa fun w52 h52 ok52 => ?_
    have hw1 : IntKind.wrap .i64 ((arcs.getD a (0, 0)).2 - mo) = (arcs.getD a (0, 0)).2 - mo := wrap_in (by omega) (by omega)
    simp only [hw1] at h52 ok52
    obtain ⟨arcs1, harcs1⟩ : ∃ x, x = arcs.set a ((arcs.getD a (0, 0)).1, (arcs.getD a (0, 0)).2 - mo) := ⟨_, rfl⟩
    rw [← harcs1] at h52 ok52
    have hl1 : arcs1.length = f.arcs.length := by rw [harcs1]; simp [hal2]
    -- its other way
    obtain ⟨b2, o2, hsa2, hcto2, hcl2⟩ := arc_cel h52.drew ok52 (a := a ^^^ 1) (by simp only; omega)
    have hbd2 := hby h52.drew hvn
    rw [ha] at hbd2
    refine ptAt_of rfl ⟨_, _, _, (FlL.cells h52.drew).1, by omega, by omega, ptAt_of rfl ⟨_, hbd2, ?_⟩⟩
    rw [hxo]
    refine ⟨by omega, by omega, ptAt_of hsa2 ⟨_, hcl2, by omega, by omega, ptAt_of hsa2 ?_⟩⟩
    refine arc_st h52.drew ok52 (a := a ^^^ 1) (by simp only; omega) _ hsa2 fun w64 h64 ok64 => ?_
    have hpa : pushAt arcs mo a = arcs1.set (a ^^^ 1) ((arcs1.getD (a ^^^ 1) (0, 0)).1, (arcs1.getD (a ^^^ 1) (0, 0)).2 + mo) := by unfold pushAt; rw [harcs1]
    have hlb : -4611686018427387904 ≤ (arcs1.getD (a ^^^ 1) (0, 0)).2 + mo ∧ (arcs1.getD (a ^^^ 1) (0, 0)).2 + mo ≤ 4611686018427387904 := by
      have := hbt2 ((arcs1.getD (a ^^^ 1) (0, 0)).1, (arcs1.getD (a ^^^ 1) (0, 0)).2 + mo) (by
        rw [hpa]
        refine List.mem_of_getElem? (i := a ^^^ 1) ?_
        rw [List.getElem?_set, if_pos rfl, if_pos (by omega)])
      exact this
    have hw2 : IntKind.wrap .i64 ((arcs1.getD (a ^^^ 1) (0, 0)).2 + mo) = (arcs1.getD (a ^^^ 1) (0, 0)).2 + mo := wrap_in (by omega) (by omega)
    simp only [hw2] at h64 ok64
    rw [← hpa] at h64 ok64
    have hfst2 : ∀ i, ((pushAt arcs mo a).getD i (0, 0)).1 = (f.arcs.getD i (0, 0)).1 := fun i => (pushAt_fst arcs mo a i).trans (hfst i)
    obtain ⟨b3, o3, hsa3, hcto3, hcl3⟩ := arc_cel h64.drew ok64 (a := a ^^^ 1) (by simp only [pushAt_len]; omega)
    simp only [hfst2, hv2] at hcto3
    have hbd3 := hby h64.drew hvn
    rw [ha] at hbd3
    refine ptAt_of rfl ⟨_, _, _, (FlL.cells h64.drew).1, by omega, by omega, ptAt_of rfl ⟨_, hbd3, ?_⟩⟩
    rw [hxo]
    refine ⟨by omega, by omega, ptAt_of hsa3 ⟨_, hcto3, g, Nat.lt_succ_self g, v2, t + 1, pushAt arcs mo a, rfl, hv2n, h64.drew, ok64, ?_, ?_, ?_, hfst2⟩⟩
    · rw [hdr2, ← hv2]; exact hp2
    · rw [htk, pushAll_snoc, ← harc]
    · rw [pushAt_len, hal2]
  · rw [if_neg hlt] at hgo
    have hd : P.drop t = [] := by simpa using hgo.symm
    have htk : P.take t = P := List.take_of_length_le (by have := List.drop_eq_nil_iff.1 hd; exact this)
    rw [htk] at harc
    rw [hfin, ← harc]
    exact ⟨trivial, h35, hok⟩
end
end Go.Pl.Try

/- What 'palings/cut.Least' does, read off its translation by gen.py. -/
namespace Go.Pl.Try
set_option linter.unusedVariables false
set_option maxRecDepth 100000
def F24 (an1 : Option Addr) (nn1 cn1 : Nat) (an2 : Option Addr) (nn2 cn2 : Nat) (an3 : Option Addr) (nn3 cn3 : Nat) (an4 : Option Addr) (nn4 cn4 : Nat) (w : World) (R : Value → World → Prop) : Prop :=
  AlP 62 [.slice an1 nn1 cn1, .slice an2 nn2 cn2, .slice an3 nn3 cn3, .slice an4 nn4 cn4] w fun b5 w6 =>
  ∃ (ax7 : Option Addr) (nx7 cx7 : Nat) (ax8 : Option Addr) (nx8 cx8 : Nat) (ax9 : Option Addr) (nx9 cx9 : Nat) (ax10 : Option Addr) (nx10 cx10 : Nat), Row w6 b5 0 [.slice ax7 nx7 cx7, .slice ax8 nx8 cx8, .slice ax9 nx9 cx9, .slice ax10 nx10 cx10] ∧
  CallP Pg 39 [.agg ⟨[.slice ax7 nx7 cx7, .slice ax8 nx8 cx8, .slice ax9 nx9 cx9, .slice ax10 nx10 cx10]⟩] w6 fun v11 w12 => ∃ (x13 : Bool), v11 = .bool x13 ∧
  sp (!x13)
  (R (.tuple ⟨[.slice none 0 0, .bool false]⟩) w12)
  (∃ (ax14 : Option Addr) (nx14 cx14 : Nat) (ax15 : Option Addr) (nx15 cx15 : Nat) (ax16 : Option Addr) (nx16 cx16 : Nat) (ax17 : Option Addr) (nx17 cx17 : Nat), Row w12 b5 0 [.slice ax14 nx14 cx14, .slice ax15 nx15 cx15, .slice ax16 nx16 cx16, .slice ax17 nx17 cx17] ∧
  CallP Pg 49 [.agg ⟨[.slice ax14 nx14 cx14, .slice ax15 nx15 cx15, .slice ax16 nx16 cx16, .slice ax17 nx17 cx17]⟩] w12 fun v18 w19 => ∃ (x20 : Option Addr), v18 = .pointer x20 ∧
  CallP Pg 50 [.pointer x20] w19 fun v21 w22 => ∃ (ax23 : Option Addr) (nx23 cx23 : Nat), v21 = .slice ax23 nx23 cx23 ∧
  ∃ J24 : Option Addr → Nat → Nat → World → Nat → Prop, (∃ m27, J24 ax23 nx23 cx23 w22 m27) ∧
  ∀ (aby25 : Option Addr) (nby25 cby25 : Nat), ∀ w26 m27, J24 aby25 nby25 cby25 w26 m27 →
  0 ≤ (IntKind.wrap .i64 ((nby25 : Nat) - 1) : Int) ∧ (IntKind.wrap .i64 ((nby25 : Nat) - 1) : Int) < (nby25 : Nat) ∧
  ptAt aby25 fun b29 o30 =>
  ∃ (x31 : Int), cel w26 b29 (o30 + (IntKind.wrap .i64 ((nby25 : Nat) - 1)).toNat * 1) = some (.int .i64 x31) ∧
  sp (!decide ((x31 : Int) = (-1)))
  (CallP Pg 51 [.pointer x20, .slice aby25 nby25 cby25] w26 fun v32 w33 => v32 = .tuple ⟨[]⟩ ∧
  CallP Pg 50 [.pointer x20] w33 fun v34 w35 => ∃ (ax36 : Option Addr) (nx36 cx36 : Nat), v34 = .slice ax36 nx36 cx36 ∧
  ∃ m28, m28 < m27 ∧ J24 ax36 nx36 cx36 w35 m28)
  (∃ (ax37 : Option Addr) (nx37 cx37 : Nat), cel w26 b5 0 = some (.slice ax37 nx37 cx37) ∧
  ∃ J38 : Option Addr → Nat → Nat → Int → World → Nat → Prop, (∃ m42, J38 none 0 0 0 w26 m42) ∧
  ∀ (aout39 : Option Addr) (nout39 cout39 : Nat) (x40 : Int), ∀ w41 m42, J38 aout39 nout39 cout39 x40 w41 m42 →
  sp (decide ((x40 : Int) < (nx37 : Nat)))
  (∀ K44 : Option Addr → Nat → Nat → World → Prop, (∀ (aout45 : Option Addr) (nout45 cout45 : Nat), ∀ w46, (
  ∃ m43, m43 < m42 ∧ J38 aout45 nout45 cout45 (IntKind.wrap .i64 (x40 + 1)) w46 m43) → K44 aout45 nout45 cout45 w46) →
  0 ≤ (IntKind.wrap .i64 (2 * x40) : Int) ∧ (IntKind.wrap .i64 (2 * x40) : Int) < (nby25 : Nat) ∧
  ptAt aby25 fun b47 o48 =>
  ∃ (x49 : Int), cel w41 b47 (o48 + (IntKind.wrap .i64 (2 * x40)).toNat * 1) = some (.int .i64 x49) ∧
  sp (!decide ((x49 : Int) = (-1)))
  (0 ≤ (IntKind.wrap .i64 ((IntKind.wrap .i64 (2 * x40)) + 1) : Int) ∧ (IntKind.wrap .i64 ((IntKind.wrap .i64 (2 * x40)) + 1) : Int) < (nby25 : Nat) ∧
  ptAt aby25 fun b50 o51 =>
  ∃ (x52 : Int), cel w41 b50 (o51 + (IntKind.wrap .i64 ((IntKind.wrap .i64 (2 * x40)) + 1)).toNat * 1) = some (.int .i64 x52) ∧
  sp (decide ((x52 : Int) = (-1)))
  (AlP 3 [.int .i64 x40] w41 fun b53 w54 =>
  ∃ (ax55 : Option Addr) (nx55 cx55 : Nat), ∃ w56 : World, Sem.run Pg (Builtin.append_ #[34, 34] 34 ⟨[.slice aout39 nout39 cout39, .slice (some ⟨b53, 0, none⟩) 1 1]⟩) w54 = .ok (.slice ax55 nx55 cx55) w56 ∧
  K44 ax55 nx55 cx55 w56)
  (K44 aout39 nout39 cout39 w41))
  (K44 aout39 nout39 cout39 w41))
  (R (.tuple ⟨[.slice aout39 nout39 cout39, .bool true]⟩) w41)))
def T24 : List Sh := [.v (.agg [.sl, .sl, .sl, .sl]), .v (.one .ptr), .v (.one .sl), .v (.one .bool), .v (.one .ptr), .v (.one .sl), .v (.one .sl), .v (.one (.int .i64)), .v (.agg [.sl, .sl, .sl, .sl]), .v (.one .bool), .v (.one .bool), .v (.agg [.sl, .sl, .sl, .sl]), .v (.one .ptr), .v (.one .ptr), .v (.one .sl), .v (.one .sl), .v (.one .sl), .v (.one (.int .i64)), .v (.one (.int .i64)), .v (.one .ptr), .v (.one (.int .i64)), .v (.one .bool), .v (.one .ptr), .v (.one .sl), .t [], .v (.one .ptr), .v (.one .sl), .v (.one .ptr), .v (.one .sl), .v (.one (.int .i64)), .v (.one (.int .i64)), .v (.one .bool), .v (.one (.int .i64)), .v (.one .sl), .v (.one (.int .i64)), .v (.one (.int .i64)), .v (.one .ptr), .v (.one (.int .i64)), .v (.one .bool), .v (.one .bool), .v (.one .sl), .v (.one (.int .i64)), .v (.one (.int .i64)), .v (.one (.int .i64)), .v (.one .ptr), .v (.one (.int .i64)), .v (.one .bool), .v (.one .bool), .v (.one .sl), .v (.one (.int .i64)), .v (.one .sl), .v (.one .sl), .v (.one (.int .i64)), .v (.one .sl)]
def A24 : Ann := (.seq none .z (.seq none (.seq none .z (.cond (.seq none .z .z) .z)) (.seq none .z (.seq none .z (.seq none (.block none (.loop [5] (.seq none (.seq none .z (.cond .z .z)) (.block none (.seq none .z .z))))) (.seq none .z (.seq none (.seq none .z (.block none (.loop [6, 30] (.seq none .z (.seq none (.cond .z .z) (.seq none (.block (some [6]) (.seq none .z (.ifs none none .z .z))) .z)))))) (.seq none .z .z))))))))
theorem F24_eq (an1 : Option Addr) (nn1 cn1 : Nat) (an2 : Option Addr) (nn2 cn2 : Nat) (an3 : Option Addr) (nn3 cn3 : Nat) (an4 : Option Addr) (nn4 cn4 : Nat) (w : World) (R : Value → World → Prop) : F24 an1 nn1 cn1 an2 nn2 cn2 an3 nn3 cn3 an4 nn4 cn4 w R = denF Go.Proofs.Try.prog T24 Go.Proofs.Try.f24 A24 [.agg ⟨[.slice an1 nn1 cn1, .slice an2 nn2 cn2, .slice an3 nn3 cn3, .slice an4 nn4 cn4]⟩] w R := by kernel_rfl
theorem F24_ok (an1 : Option Addr) (nn1 cn1 : Nat) (an2 : Option Addr) (nn2 cn2 : Nat) (an3 : Option Addr) (nn3 cn3 : Nat) (an4 : Option Addr) (nn4 cn4 : Nat) {w : World} {R : Value → World → Prop} (h : F24 an1 nn1 cn1 an2 nn2 cn2 an3 nn3 cn3 an4 nn4 cn4 w R) : CallP Go.Proofs.Try.prog 24 [.agg ⟨[.slice an1 nn1 cn1, .slice an2 nn2 cn2, .slice an3 nn3 cn3, .slice an4 nn4 cn4]⟩] w R :=
  calls_den (fun _ => drawn (by kernel_rfl)) Go.Proofs.Try.func24 (Nat.le_of_ble_eq_true (by kernel_rfl)) ((F24_eq an1 nn1 cn1 an2 nn2 cn2 an3 nn3 cn3 an4 nn4 cn4 w R).mp h)
end Go.Pl.Try

/- What '(palings/cut.Net).Weight' does, read off its translation by gen.py. -/
namespace Go.Pl.Try
set_option linter.unusedVariables false
set_option maxRecDepth 100000
def F19 (an1 : Option Addr) (nn1 cn1 : Nat) (an2 : Option Addr) (nn2 cn2 : Nat) (an3 : Option Addr) (nn3 cn3 : Nat) (an4 : Option Addr) (nn4 cn4 : Nat) (alist5 : Option Addr) (nlist5 clist5 : Nat) (w : World) (R : Value → World → Prop) : Prop :=
  AlP 62 [.slice an1 nn1 cn1, .slice an2 nn2 cn2, .slice an3 nn3 cn3, .slice an4 nn4 cn4] w fun b6 w7 =>
  ∃ J8 : Int → Int → World → Nat → Prop, (∃ m12, J8 0 0 w7 m12) ∧
  ∀ (out9 : Int) (x10 : Int), ∀ w11 m12, J8 out9 x10 w11 m12 →
  sp (decide ((x10 : Int) < (nlist5 : Nat)))
  (∀ K14 : Int → World → Prop, (∀ (out15 : Int), ∀ w16, (
  ∃ m13, m13 < m12 ∧ J8 out15 (IntKind.wrap .i64 (x10 + 1)) w16 m13) → K14 out15 w16) →
  0 ≤ (x10 : Int) ∧ (x10 : Int) < (nlist5 : Nat) ∧
  ptAt alist5 fun b17 o18 =>
  ∃ (x19 : Int), cel w11 b17 (o18 + x10.toNat * 1) = some (.int .i64 x19) ∧
  sp (decide ((0 : Int) ≤ x19))
  (∃ (ax20 : Option Addr) (nx20 cx20 : Nat), cel w11 b6 0 = some (.slice ax20 nx20 cx20) ∧
  sp (decide ((x19 : Int) < (nx20 : Nat)))
  (∃ (ax21 : Option Addr) (nx21 cx21 : Nat), cel w11 b6 0 = some (.slice ax21 nx21 cx21) ∧
  0 ≤ (x19 : Int) ∧ (x19 : Int) < (nx21 : Nat) ∧
  ptAt ax21 fun b22 o23 =>
  ∃ (x24 : Int), cel w11 b22 (o23 + x19.toNat * 1) = some (.int .i64 x24) ∧
  K14 (IntKind.wrap .i64 (out9 + x24)) w11)
  (K14 out9 w11))
  (K14 out9 w11))
  (R (.int .i64 out9) w11)
def T19 : List Sh := [.v (.agg [.sl, .sl, .sl, .sl]), .v (.one .sl), .v (.one .ptr), .v (.one .any), .v (.one (.int .i64)), .v (.one (.int .i64)), .v (.one .any), .v (.one (.int .i64)), .v (.one .sl), .v (.one (.int .i64)), .v (.one (.int .i64)), .v (.one .bool), .v (.one .ptr), .v (.one (.int .i64)), .v (.one (.int .i64)), .v (.one .bool), .v (.one .bool), .v (.one (.int .i64)), .v (.one .ptr), .v (.one .sl), .v (.one (.int .i64)), .v (.one .bool), .v (.one .bool), .v (.one (.int .i64)), .v (.one .ptr), .v (.one .sl), .v (.one (.int .i64)), .v (.one .ptr), .v (.one (.int .i64)), .v (.one (.int .i64)), .v (.one (.int .i64)), .v (.one (.int .i64))]
def A19 : Ann := (.seq none .z (.seq none .z (.seq none (.seq none .z (.block none (.loop [5, 10] (.seq none .z (.seq none (.cond .z .z) (.seq none (.block (some [5]) (.seq none .z (.ifs none none .z .z))) .z)))))) (.seq none .z .z))))
theorem F19_eq (an1 : Option Addr) (nn1 cn1 : Nat) (an2 : Option Addr) (nn2 cn2 : Nat) (an3 : Option Addr) (nn3 cn3 : Nat) (an4 : Option Addr) (nn4 cn4 : Nat) (alist5 : Option Addr) (nlist5 clist5 : Nat) (w : World) (R : Value → World → Prop) : F19 an1 nn1 cn1 an2 nn2 cn2 an3 nn3 cn3 an4 nn4 cn4 alist5 nlist5 clist5 w R = denF Go.Proofs.Try.prog T19 Go.Proofs.Try.f19 A19 [.agg ⟨[.slice an1 nn1 cn1, .slice an2 nn2 cn2, .slice an3 nn3 cn3, .slice an4 nn4 cn4]⟩, .slice alist5 nlist5 clist5] w R := by kernel_rfl
theorem F19_ok (an1 : Option Addr) (nn1 cn1 : Nat) (an2 : Option Addr) (nn2 cn2 : Nat) (an3 : Option Addr) (nn3 cn3 : Nat) (an4 : Option Addr) (nn4 cn4 : Nat) (alist5 : Option Addr) (nlist5 clist5 : Nat) {w : World} {R : Value → World → Prop} (h : F19 an1 nn1 cn1 an2 nn2 cn2 an3 nn3 cn3 an4 nn4 cn4 alist5 nlist5 clist5 w R) : CallP Go.Proofs.Try.prog 19 [.agg ⟨[.slice an1 nn1 cn1, .slice an2 nn2 cn2, .slice an3 nn3 cn3, .slice an4 nn4 cn4]⟩, .slice alist5 nlist5 clist5] w R :=
  calls_den (fun _ => drawn (by kernel_rfl)) Go.Proofs.Try.func19 (Nat.le_of_ble_eq_true (by kernel_rfl)) ((F19_eq an1 nn1 cn1 an2 nn2 cn2 an3 nn3 cn3 an4 nn4 cn4 alist5 nlist5 clist5 w R).mp h)
end Go.Pl.Try

/- Nets: 'Least', 'Weight': walked. -/
namespace Go.Pl.Try
open M
set_option linter.unusedVariables false
/-- A run of 'Least' on a net. -/
def LeastRun (n : Net) (fin : Fl) : Prop := ∃ (I : Fl → Prop) (k : Nat), I n.mk' ∧ leastGo k n.mk' = some fin ∧ ∀ f, I f → f.Ready ∧ f.outs.length = n.all ∧ (f.found = true → I (f.push f.seek))
theorem least_w {w : World} {n : Net} {vs : List Value} (h : RNet w vs n) (hb : n.ways.length ≤ 68719476736 ∧ n.frm.length ≤ 68719476736 ∧ n.to.length ≤ 68719476736) {fin : Fl} (hrun : n.right = true → LeastRun n fin) :
    CallP Pg 24 [.agg ⟨vs⟩] w fun u w' => (n.right = false → u = .tuple ⟨[.slice none 0 0, .bool false]⟩ ∧ Ext w w') ∧
      (n.right = true → ∃ a c r, u = .tuple ⟨[.slice a (cutOf fin.seek n.weights.length).length c, .bool true]⟩ ∧ Sls 1 a (cutOf fin.seek n.weights.length).length c (ints (cutOf fin.seek n.weights.length)) r ∧ Hp w w' (r.L 3 (ints (cutOf fin.seek n.weights.length)))) := by
  have hN := h
  obtain ⟨aw, nw, cw, ay, ny, cy, af, nf, cf, at_, nt, ct, rfl, hw, hy, hf, ht⟩ := h
  have hwl := hw.len
  refine F24_ok _ _ _ _ _ _ _ _ _ _ _ _ ?_
  unfold F24
  refine alp (Hp.refl w) fun b5 w6 h6 => ⟨_, _, _, _, _, _, _, _, _, _, _, _, h6.row 0 rfl, ?_⟩
  refine (nright_w (hN.ext h6.ext) (by omega)).mono ?_
  rintro _ w12 ⟨rfl, hx12⟩
  have h12 := h6.step hx12
  refine ⟨_, rfl, sp_of (fun hno => ⟨fun _ => ⟨rfl, h12.ext⟩, fun he => by rw [he] at hno; cases hno⟩) (fun hyes => ?_)⟩
  have hr : n.right = true := by simpa using hyes
  obtain ⟨I, fuel, hI, hgo, hst⟩ := hrun hr
  refine ⟨_, _, _, _, _, _, _, _, _, _, _, _, h12.row 0 rfl, ?_⟩
  refine (make_w (hN.ext h12.ext) hr hb).mono ?_
  rintro _ w19 ⟨m, rfl, h19', hok⟩
  have h19 := h12.call h19'
  obtain ⟨N, hNN⟩ : ∃ N : Nat × Obj, N = (b5, Cl 62 [.slice aw nw cw, .slice ay ny cy, .slice af nf cf, .slice at_ nt ct]) := ⟨_, rfl⟩
  have h19 : Hp w w19 ([N] ++ FlL m n.mk') := by
    subst hNN
    exact h19.perm List.perm_append_comm
  have hall : n.all = 2 * nw + 2 := by rw [Net.all, hwl]
  have hn2 : nw ≤ 2000 := by
    unfold Net.right at hr
    simp only [Bool.and_eq_true, decide_eq_true_eq] at hr
    omega
  obtain ⟨hrd, hol, hnx⟩ := hst _ hI
  refine ⟨_, rfl, ?_⟩
  refine (seek_w h19 hok hrd.shape hrd.nodes hrd.many hrd.rows).mono ?_
  rintro _ w22 ⟨bb, rfl, h22⟩
  refine ⟨_, _, _, rfl, ?_⟩
  refine ⟨fun a nn c w' k => ∃ (f : Fl) (m' : FlM) (bb : Nat), m'.bf = m.bf ∧ a = some ⟨bb, 0, none⟩ ∧ nn = 2 * nw + 2 ∧ c = nn ∧ Hp w w' ([(bb, Cl 3 (ints f.seek)), N] ++ FlL m' f) ∧ FlOk m' f ∧ I f ∧ leastGo k f = some fin,
    ⟨fuel, n.mk', m, bb, rfl, rfl, by rw [hol, hall], rfl, h22, hok, hI, hgo⟩, ?_⟩
  clear h22 hok hI hgo hrd hol hnx h19 h19'
  rintro a nn c w26 k ⟨f, m2, bb, hmb, rfl, rfl, rfl, h26, hok, hI, hgo⟩
  obtain ⟨hrd, hol, hnx⟩ := hst _ hI
  rw [hall] at hol
  obtain ⟨-, -, hsl⟩ := Fl.seek_go hrd.shape
  rw [hol] at hsl
  cases k with
  | zero => simp [leastGo] at hgo
  | succ k =>
  rw [leastGo] at hgo
  have e1 : IntKind.wrap .i64 (((2 * nw + 2 : Nat) : Int) - 1) = ((2 * nw + 2 - 1 : Nat) : Int) := by rw [wrap_in (by omega) (by omega)]; omega
  have hcb : ∀ {w1 : World} {L1} {v : Nat}, Hp w w1 ((bb, Cl 3 (ints f.seek)) :: L1) → v < 2 * nw + 2 → cel w1 bb (0 + v * 1) = some (.int .i64 (f.seek.getD v 0)) := by
    intro w1 L1 v h1 hv
    refine h1.cl 0 rfl ?_
    rw [show 0 + v * 1 = v by omega, List.getElem?_map, getD_some (d := 0) (by omega)]; rfl
  rw [e1]
  refine ⟨by omega, by omega, ptAt_of rfl ⟨f.seek.getD (2 * nw + 2 - 1) 0, hcb h26 (by omega), sp_of (fun hfo => ?_) (fun hfo => ?_)⟩⟩
  · have hfound : f.found = true := by unfold Fl.found; rw [hol]; exact hfo
    rw [if_pos hfound] at hgo
    obtain ⟨kp, hP⟩ := hrd.way hfound
    have hsl' : f.seek.length = f.outs.length := by rw [hsl, hol]
    have hpush := push_w h26 hok hrd.shape hrd.nodes hrd.many (k := 0) rfl hsl' (Fl.seek_lt hrd.shape) hrd.even hP rfl (hrd.flat hfound) (hrd.low hfound)
    rw [hmb, hol] at hpush
    refine hpush.mono ?_
    rintro _ w33 ⟨rfl, h33, ok33⟩
    refine ⟨rfl, ?_⟩
    have hI2 := hnx hfound
    have hpe : f.push f.seek = ⟨pushAll (most f.arcs much (f.path f.seek)) (f.path f.seek) f.arcs, f.outs⟩ := rfl
    rw [← hpe] at h33 ok33
    obtain ⟨hrd2, hol2, -⟩ := hst _ hI2
    rw [hall] at hol2
    rw [← hmb]
    have h33' : Hp w w33 ([N] ++ FlL m2 (f.push f.seek)) := h33.drop 1
    refine (seek_w h33' ok33 hrd2.shape hrd2.nodes hrd2.many hrd2.rows).mono ?_
    rintro _ w35 ⟨b2, rfl, h35⟩
    exact ⟨_, _, _, rfl, k, Nat.lt_succ_self k, f.push f.seek, m2, b2, rfl, rfl, hol2, rfl, h35, ok33, hI2, hgo⟩
  have hfound : f.found = false := by unfold Fl.found; rw [hol]; exact hfo
  rw [if_neg (by rw [hfound]; simp)] at hgo
  cases hgo
  have hcN : cel w26 b5 0 = some (.slice aw nw cw) := by subst hNN; exact h26.cl 1 rfl rfl
  refine ⟨_, _, _, hcN, ?_⟩
  obtain ⟨p, hp⟩ : ∃ p : Nat → Bool, p = fun v => !decide (fin.seek.getD (2 * v) 0 = -1) && decide (fin.seek.getD (2 * v + 1) 0 = -1) := ⟨_, rfl⟩
  have hcut : ∀ j, cutOf fin.seek j = ((List.range j).filter p).map fun (v : Nat) => (v : Int) := fun j => by rw [cutOf, hp]
  have hlen : ∀ j, (cutOf fin.seek j).length ≤ j := fun j => by rw [hcut, List.length_map]; exact Nat.le_trans (List.length_filter_le _ _) (by simp)
  have hsuc : ∀ j, cutOf fin.seek (j + 1) = if p j = true then cutOf fin.seek j ++ [(j : Int)] else cutOf fin.seek j := by
    intro j
    rw [hcut, hcut, List.range_succ, List.filter_append, List.map_append]
    by_cases hpj : p j = true
    · simp [hpj]
    · simp [hpj]
  refine ⟨fun a n' c i w' k => ∃ (j : Nat) (r : Rw), i = j ∧ j ≤ nw ∧ k = nw - j ∧ n' = (cutOf fin.seek j).length ∧ Sls 1 a n' c (ints (cutOf fin.seek j)) r ∧ Hp w w' ([(bb, Cl 3 (ints fin.seek))] ++ (r.L 3 (ints (cutOf fin.seek j)) ++ [])),
    ⟨nw, 0, .emp, rfl, by omega, by omega, rfl, Sls.nil 1 none, h26.sub (by simp [cutOf, Rw.L])⟩, ?_⟩
  clear h26
  rintro a n' c i w41 q ⟨j, r, rfl, hj, rfl, rfl, hs, h41⟩
  refine sp_dec (fun hlt => ?_) (fun hge => ?_)
  · intro K44 hK44
    have e5 : IntKind.wrap .i64 (2 * (j : Nat) : Int) = ((2 * j : Nat) : Int) := by rw [wrap_in (by omega) (by omega)]; omega
    have e6 : IntKind.wrap .i64 (((2 * j : Nat) : Int) + 1) = ((2 * j + 1 : Nat) : Int) := by rw [wrap_in (by omega) (by omega)]; omega
    rw [e5, e6]
    have hj2 := hlen j
    have hskip : p j = false → K44 a (cutOf fin.seek j).length c w41 := by
      intro hno
      have := hsuc j
      rw [if_neg (by rw [hno]; simp)] at this
      exact hK44 _ _ _ _ ⟨nw - (j + 1), by omega, j + 1, r, wrap_succ (by simp only [maxLen]; omega), by omega, rfl, by rw [this], by rw [this]; exact hs, by rw [this]; exact h41⟩
    refine ⟨by omega, by omega, ptAt_of rfl ⟨_, hcb h41 (v := 2 * j) (by omega), sp_of (fun h1 => ⟨by omega, by omega, ptAt_of rfl ⟨_, hcb h41 (v := 2 * j + 1) (by omega), sp_of (fun h2 => ?_) (fun h2 => hskip (by rw [hp]; simp only [h2, Bool.and_false]))⟩⟩) (fun h1 => hskip (by rw [hp]; simp only [h1, Bool.false_and]))⟩⟩
    have hpj : p j = true := by rw [hp]; simp only [h1, h2, Bool.and_self]
    have hsj := hsuc j
    rw [if_pos hpj] at hsj
    refine alp h41 fun b53 w54 h54 => ?_
    obtain ⟨a', c', w56, r', hrun, hs', h56⟩ := app1 (ty := 34) slInts (by omega) hs ((b53, Cl 3 [.int .i64 (j : Int)]) :: [(bb, Cl 3 (ints fin.seek))]) h54 0 rfl rfl rfl (by simp only [maxLen]; omega) (by omega)
    have he1 : ints (cutOf fin.seek j) ++ [.int .i64 (j : Int)] = ints (cutOf fin.seek (j + 1)) := by rw [hsj]; simp
    rw [he1] at hs' h56
    refine ⟨_, _, _, w56, hrun, hK44 _ _ _ _ ⟨nw - (j + 1), by omega, j + 1, r', wrap_succ (by simp only [maxLen]; omega), by omega, rfl, by rw [hsj]; simp, hs', h56.drop 1⟩⟩
  · have hjn : j = nw := by omega
    subst hjn
    refine ⟨fun he => (by rw [he] at hr; cases hr), fun _ => ?_⟩
    rw [hwl]
    exact ⟨a, c, r, rfl, hs, by have := h41.drop 1; simpa using this⟩
theorem weight_w {w : World} {n : Net} {vs : List Value} (h : RNet w vs n) {al : Option Addr} {nl cl : Nat} {l : List Int} (hl : RdI w al nl l) (hwb : ∀ x ∈ n.weights, 0 ≤ x ∧ x ≤ 1073741824) (hnl : nl ≤ 4294967296) :
    CallP Pg 19 [.agg ⟨vs⟩, .slice al nl cl] w fun u w' => u = .int .i64 (n.weight l) ∧ Ext w w' := by
  obtain ⟨aw, nw, cw, ay, ny, cy, af, nf, cf, at_, nt, ct, rfl, hw, hy, hf, ht⟩ := h
  have hwl := hw.len
  have hll := hl.len
  refine F19_ok _ _ _ _ _ _ _ _ _ _ _ _ _ _ _ ?_
  unfold F19
  refine alp (Hp.refl w) fun b6 w7 h7 => ?_
  obtain ⟨g, hg⟩ : ∃ g : Int → Int → Int, g = fun (o v : Int) => if 0 ≤ v ∧ v < (n.weights.length : Nat) then o + n.weights.getD v.toNat 0 else o := ⟨_, rfl⟩
  have hwt : n.weight l = l.foldl g 0 := by rw [Net.weight, hg]
  refine ⟨fun o i w' k => ∃ j : Nat, w' = w7 ∧ i = j ∧ j ≤ nl ∧ k = nl - j ∧ 0 ≤ o ∧ o ≤ 1073741824 * (j : Int) ∧ (l.drop j).foldl g o = n.weight l, ⟨nl, 0, rfl, rfl, by omega, by omega, by omega, by omega, by rw [hwt]; rfl⟩, ?_⟩
  rintro o i w11 k ⟨j, rfl, rfl, hj, rfl, ho0, ho1, hgo⟩
  refine sp_dec (fun hlt => ?_) (fun hge => ?_)
  · intro K14 hK14
    obtain ⟨v, hv⟩ := at_some (l := l) (j := j) (by omega)
    rw [drop_cons hv, List.foldl_cons] at hgo
    obtain ⟨bv, ov, hav, hcv⟩ := RdI.at (RdI.ext hl h7.ext) hv
    have hskip : ¬ (0 ≤ v ∧ v < (n.weights.length : Nat)) → K14 o w11 := by
      intro hno
      have : g o v = o := by rw [hg]; simp only; rw [if_neg hno]
      rw [this] at hgo
      exact hK14 _ _ ⟨nl - (j + 1), by omega, j + 1, rfl, wrap_succ (by simp only [maxLen]; omega), by omega, rfl, ho0, by omega, hgo⟩
    refine ⟨by omega, by omega, ptAt_of hav ⟨v, hcv, sp_dec (fun h0 => ⟨_, _, _, h7.cl 0 rfl rfl, sp_dec (fun h1 => ?_) (fun h1 => hskip (fun h => by omega))⟩) (fun h0 => hskip (fun h => h0 h.1))⟩⟩
    obtain ⟨x, hx⟩ := at_some (l := n.weights) (j := v.toNat) (by omega)
    have hxb := hwb x (List.mem_of_getElem? hx)
    obtain ⟨bx, ox, hax, hcx⟩ := RdI.at (RdI.ext hw h7.ext) hx
    have hgv : g o v = o + x := by
      rw [hg]; simp only
      rw [if_pos ⟨h0, by omega⟩, List.getD_eq_getElem?_getD, hx]; rfl
    rw [hgv] at hgo
    refine ⟨_, _, _, h7.cl 0 rfl rfl, h0, by omega, ptAt_of hax ⟨x, hcx, ?_⟩⟩
    rw [wrap_in (x := o + x) (by omega) (by omega)]
    exact hK14 _ _ ⟨nl - (j + 1), by omega, j + 1, rfl, wrap_succ (by simp only [maxLen]; omega), by omega, rfl, by omega, by omega, hgo⟩
  · have hd : l.drop j = [] := List.drop_of_length_le (by omega)
    rw [hd] at hgo
    exact ⟨by rw [← hgo]; rfl, h7.ext⟩
end Go.Pl.Try

/- Places: whether two are one. -/
namespace Go.Pl
set_option linter.unusedVariables false
def st3 (P : Program) (t i : Nat) : Bool := match P.underlying t with
  | some (.struct fs) => match fs.toList with
    | [a, b, c] => a.name != "_" && b.name != "_" && c.name != "_" && Nat.beq a.type i && Nat.beq b.type i && Nat.beq c.type i && Nat.beq a.offset 0 && Nat.beq b.offset 1 && Nat.beq c.offset 2
    | _ => false
  | _ => false
theorem place_ne {P : Program} {t i : Nat} (h : st3 P t i = true) (hu : P.underlying i = some (.int .i64)) (hs : P.stoodInHeld t = false) (hg : P.eqGuardType P.depth t = false) (x y : Operand) (a b c a' b' c' : Int) (w : World) :
    Sem.run P (do eqGuard .neq t x y (.agg ⟨[.int .i64 a, .int .i64 b, .int .i64 c]⟩) (.agg ⟨[.int .i64 a', .int .i64 b', .int .i64 c']⟩); binOp .neq t (.agg ⟨[.int .i64 a, .int .i64 b, .int .i64 c]⟩) (.agg ⟨[.int .i64 a', .int .i64 b', .int .i64 c']⟩)) w = .ok (.bool (!decide ((a, b, c) = (a', b', c')))) w := by
  unfold st3 at h
  split at h
  · rename_i fs hf
    split at h
    · rename_i f1 f2 f3 hl
      simp only [Bool.and_eq_true, bne_iff_ne, ne_eq] at h
      obtain ⟨⟨⟨⟨⟨⟨⟨⟨n1, n2⟩, n3⟩, t1⟩, t2⟩, t3⟩, o1⟩, o2⟩, o3⟩ := h
      have t1 := Nat.eq_of_beq_eq_true t1
      have t2 := Nat.eq_of_beq_eq_true t2
      have t3 := Nat.eq_of_beq_eq_true t3
      have o1 := Nat.eq_of_beq_eq_true o1
      have o2 := Nat.eq_of_beq_eq_true o2
      have o3 := Nat.eq_of_beq_eq_true o3
      obtain rfl : fs = ⟨[f1, f2, f3]⟩ := by cases fs; simp_all
      have hag : ∀ w, (isAgg i).run P w = .ok false w := fun w => by unfold isAgg; rw [Sem.run_bind, run_und w hu]; rfl
      have hq : (Op.equal t (.agg ⟨[.int .i64 a, .int .i64 b, .int .i64 c]⟩) (.agg ⟨[.int .i64 a', .int .i64 b', .int .i64 c']⟩)).run P w = .ok (decide ((a, b, c) = (a', b', c'))) w := by
        have h1 : ∀ (n : Nat) (x y : Int), (Op.equalIn (n + 1) i (.int .i64 x) (.int .i64 y)).run P w = .ok (x == y) w := by
          intro n x y
          simp [Op.equalIn, run_und w hu]
        unfold Op.equal Op.maxDepth Op.equalIn
        simp [run_und w hf, hs, program, Sem.run, n1, n2, n3, t1, t2, t3, o1, o2, o3, part, hag w, h1]
        by_cases e1 : a = a' <;> by_cases e2 : b = b' <;> by_cases e3 : c = c' <;> simp [e1, e2, e3]
      simp [eqGuard, program, Sem.run, hg, binOp, hq]
    · cases h
  · cases h
end Go.Pl
namespace Go.Pl.Try
theorem place_neq (x y : Operand) (a b c a' b' c' : Int) (w : World) : Sem.run Pg (do eqGuard .neq 102 x y (.agg ⟨[.int .i64 a, .int .i64 b, .int .i64 c]⟩) (.agg ⟨[.int .i64 a', .int .i64 b', .int .i64 c']⟩); binOp .neq 102 (.agg ⟨[.int .i64 a, .int .i64 b, .int .i64 c]⟩) (.agg ⟨[.int .i64 a', .int .i64 b', .int .i64 c']⟩)) w = .ok (.bool (!decide ((a, b, c) = (a', b', c')))) w :=
  place_ne (i := 3) (by kernel_rfl) uInt (by kernel_rfl) (by kernel_rfl) x y a b c a' b' c' w
end Go.Pl.Try

/- Where fences stand, as plain Lean. -/
namespace Go.Pl.M
set_option linter.unusedVariables false
def kput (ks : List Int) (k : Int) : List Int := if ks.any (fun x => x == k) then ks else ks ++ [k]
/-- The values of a net's places. -/
def Hz.cutVals (z : Hz) (l : List Int) : List Int := l.foldl (fun ks v => kput ks (z.vals.getD v.toNat 0)) []
abbrev Plc := Int × Int × Int
def plcStep (gs : List Plc) (s : Snk) : List Plc := if gs.getLast? = some (s.fn, s.blk, s.at_) then gs else gs ++ [(s.fn, s.blk, s.at_)]
def places (l : List Snk) : List Plc := l.foldl plcStep []
theorem places_len (l : List Snk) : ∀ gs : List Plc, (l.foldl plcStep gs).length ≤ gs.length + l.length := by
  induction l with
  | nil => intro gs; simp
  | cons s l ih =>
    intro gs
    rw [List.foldl_cons]
    have := ih (plcStep gs s)
    have h2 : (plcStep gs s).length ≤ gs.length + 1 := by unfold plcStep; split <;> simp
    simp only [List.length_cons]; omega
/-- The hazards of a program's function, by labels. -/
def Prg.hz (p : Prg) (S : TS) (k : Nat) : Hz := match p.funcs[k]? with
  | some f => hzFn f (S.get k) p.writes k (p.sinks S)
  | none => Hz.new
/-- The places that are cut: 'fl k' is the flow of function k, when no more can flow. -/
def Prg.cutList (p : Prg) (S : TS) (fl : Nat → Fl) (k : Nat) : List Int := cutOf (fl k).seek (p.hz S k).weights.length
def Prg.cutKeys (p : Prg) (S : TS) (fl : Nat → Fl) (k : Nat) : List Int := (p.hz S k).cutVals (p.cutList S fl k)
def Prg.cutWt (p : Prg) (S : TS) (fl : Nat → Fl) (k : Nat) : Int := (p.hz S k).net.weight (p.cutList S fl k)
def Prg.noCut (p : Prg) : List (Int → Bool) := List.replicate p.funcs.length fun _ => false
def Prg.newCut (p : Prg) (S : TS) (fl : Nat → Fl) : List (Int → Bool) := (List.range p.funcs.length).map fun k v => decide (v ∈ p.cutKeys S fl k)
def sumTo (f : Nat → Int) : Nat → Int
  | 0 => 0
  | k + 1 => sumTo f k + f k
theorem hzVals_wv (lab : Int → Int) (wt : Int) : ∀ (l : List Int) (z : Hz), z.weights.length = z.vals.length → (hzVals lab wt l z).weights.length = (hzVals lab wt l z).vals.length
  | [], z, h => h
  | v :: vs, z, h => by
    rw [hzVals]
    refine hzVals_wv lab wt vs _ ?_
    unfold Hz.value
    split
    · simp [h]
    · exact h
theorem hzBlks_wv (lab : Int → Int) (D : List Nat) (R : List Bool) : ∀ (bs : List Blk) (n : Nat) (z : Hz), z.weights.length = z.vals.length → (hzBlks lab D R n bs z).weights.length = (hzBlks lab D R n bs z).vals.length
  | [], n, z, h => h
  | b :: bs, n, z, h => by
    rw [hzBlks]
    refine hzBlks_wv lab D R bs _ _ ?_
    split
    · exact hzVals_wv _ _ _ _ h
    · exact h
/-- Nothing but ways, beginnings, ends may turn. -/
structure Hz.Same (z z' : Hz) : Prop where
  w : z'.weights = z.weights
  v : z'.vals = z.vals
  a : z'.at_ = z.at_
theorem Hz.Same.refl (z : Hz) : z.Same z := ⟨rfl, rfl, rfl⟩
theorem Hz.Same.trans {a b c : Hz} (h : a.Same b) (k : b.Same c) : a.Same c := ⟨k.w.trans h.w, k.v.trans h.v, k.a.trans h.a⟩
theorem Hz.way_same (z : Hz) (a b : Int) : z.Same (z.way a b) := by unfold Hz.way; split <;> exact ⟨rfl, rfl, rfl⟩
theorem hzArgs_same (d : Int) : ∀ (l : List Int) (z : Hz), z.Same (hzArgs d l z)
  | [], z => .refl z
  | v :: vs, z => (z.way_same v d).trans (hzArgs_same d vs _)
theorem Hz.fromIns_same (writes : List Bool) (i : Ins) (z : Hz) : z.Same (z.fromIns writes i) := by
  unfold Hz.fromIns
  split
  · split <;> exact ⟨rfl, rfl, rfl⟩
  · exact .refl z
theorem hzIns_same (writes : List Bool) : ∀ (l : List Ins) (z : Hz), z.Same (hzIns writes l z)
  | [], z => .refl z
  | i :: is, z => ((hzArgs_same i.dst i.args z).trans (Hz.fromIns_same writes i _)).trans (hzIns_same writes is _)
theorem hzEdge_same : ∀ (ps l : List Int) (z : Hz), z.Same (hzEdge ps l z)
  | [], _, z => .refl z
  | p :: ps, [], z => .refl z
  | p :: ps, a :: l, z => (z.way_same a p).trans (hzEdge_same ps l _)
theorem hzEdges_same (bs : List Blk) : ∀ (ws : List Edg) (z : Hz), z.Same (hzEdges bs ws z)
  | [], z => .refl z
  | w :: ws, z => (hzEdge_same _ _ z).trans (hzEdges_same bs ws _)
theorem hzWays_same (writes : List Bool) (bs : List Blk) : ∀ (l : List Blk) (z : Hz), z.Same (hzWays writes bs l z)
  | [], z => .refl z
  | b :: l, z => ((hzIns_same writes b.ins z).trans (hzEdges_same bs b.fin.ways _)).trans (hzWays_same writes bs l _)
theorem hzSinks_same (fn : Int) : ∀ (l : List Snk) (z : Hz), z.Same (hzSinks fn l z)
  | [], z => .refl z
  | s :: l, z => by
    rw [hzSinks]
    refine Hz.Same.trans ?_ (hzSinks_same fn l _)
    unfold Hz.sink
    split
    · split <;> exact ⟨rfl, rfl, rfl⟩
    · exact .refl z
theorem hzFn_same (f : Fnc) (lab : Int → Int) (writes : List Bool) (fn : Int) (sinks : List Snk) : (hzBlks lab f.gr.depths f.reach 0 f.blocks Hz.new).Same (hzFn f lab writes fn sinks) := (hzWays_same _ _ _ _).trans (hzSinks_same _ _ _)
theorem hzFn_wv (f : Fnc) (lab : Int → Int) (writes : List Bool) (fn : Int) (sinks : List Snk) : (hzFn f lab writes fn sinks).weights.length = (hzFn f lab writes fn sinks).vals.length := by
  have h := hzFn_same f lab writes fn sinks
  rw [h.w, h.v]
  exact hzBlks_wv _ _ _ _ _ _ rfl
theorem Prg.hz_wv (p : Prg) (S : TS) (k : Nat) : (p.hz S k).weights.length = (p.hz S k).vals.length := by
  unfold Prg.hz
  split
  · exact hzFn_wv _ _ _ _ _
  · rfl
theorem cutOf_mem {by_ : List Int} {n : Nat} {v : Int} (h : v ∈ cutOf by_ n) : 0 ≤ v ∧ v < (n : Nat) := by
  unfold cutOf at h
  simp only [List.mem_map, List.mem_filter, List.mem_range] at h
  obtain ⟨a, ⟨h1, -⟩, rfl⟩ := h
  omega
theorem cutOf_len (by_ : List Int) (n : Nat) : (cutOf by_ n).length ≤ n := by
  unfold cutOf
  rw [List.length_map]
  exact Nat.le_trans (List.length_filter_le _ _) (by simp)
/-- A net that the walk takes. -/
structure Net.Fit (n : Net) : Prop where
  right : n.right = true
  ways : n.ways.length ≤ 68719476736
  frm : n.frm.length ≤ 68719476736
  to : n.to.length ≤ 68719476736
theorem Net.right_weights {n : Net} (h : n.right = true) : (∀ x ∈ n.weights, 1 ≤ x ∧ x ≤ 1073741824) ∧ n.weights.length ≤ 2000 := by
  unfold Net.right at h
  simp only [Bool.and_eq_true, Bool.not_eq_true', Bool.or_eq_false_iff, decide_eq_true_eq, List.any_eq_false, Bool.or_eq_true] at h
  obtain ⟨⟨⟨h1, -⟩, -⟩, h4⟩ := h
  refine ⟨fun x hx => ?_, by omega⟩
  have := h1 x hx
  omega
theorem Net.weight_le {n : Net} (h : n.right = true) (l : List Int) : 0 ≤ n.weight l ∧ n.weight l ≤ 1073741824 * (l.length : Int) := by
  have hw := (Net.right_weights h).1
  have key : ∀ (l : List Int) (o : Int), 0 ≤ o → 0 ≤ l.foldl (fun (o v : Int) => if 0 ≤ v ∧ v < (n.weights.length : Nat) then o + n.weights.getD v.toNat 0 else o) o ∧
      l.foldl (fun (o v : Int) => if 0 ≤ v ∧ v < (n.weights.length : Nat) then o + n.weights.getD v.toNat 0 else o) o ≤ o + 1073741824 * (l.length : Int) := by
    intro l
    induction l with
    | nil => intro o ho; simp [ho]
    | cons v l ih =>
      intro o ho
      rw [List.foldl_cons]
      have hv : 0 ≤ (if 0 ≤ v ∧ v < (n.weights.length : Nat) then o + n.weights.getD v.toNat 0 else o) ∧ (if 0 ≤ v ∧ v < (n.weights.length : Nat) then o + n.weights.getD v.toNat 0 else o) ≤ o + 1073741824 := by
        split
        · rename_i hc
          have := hw _ (List.mem_of_getElem? (getD_some (l := n.weights) (d := 0) (i := v.toNat) (by omega)))
          omega
        · omega
      have := ih _ hv.1
      simp only [List.length_cons]
      omega
  have := key l 0 (by omega)
  unfold Net.weight
  omega
end Go.Pl.M

/- What 'palings/harden.Of' does, read off its translation by gen.py. -/
namespace Go.Pl.Try
set_option linter.unusedVariables false
set_option maxRecDepth 100000
def F7 (ax1 : Option Addr) (nx1 cx1 : Nat) (ax2 : Option Addr) (nx2 cx2 : Nat) (x3 : Int) (w : World) (R : Value → World → Prop) : Prop :=
  AlP 32 [.slice ax1 nx1 cx1, .slice ax2 nx2 cx2, .int .i64 x3] w fun b4 w5 =>
  AlP 51 [.slice none 0 0, .slice none 0 0, .int .i64 0] w5 fun b6 w7 =>
  ∃ (ax8 : Option Addr) (nx8 cx8 : Nat) (ax9 : Option Addr) (nx9 cx9 : Nat) (x10 : Int), Row w7 b4 0 [.slice ax8 nx8 cx8, .slice ax9 nx9 cx9, .int .i64 x10] ∧
  CallP Pg 12 [.agg ⟨[.slice ax8 nx8 cx8, .slice ax9 nx9 cx9, .int .i64 x10]⟩, .slice none 0 0] w7 fun v11 w12 => ∃ (ax13 : Option Addr) (nx13 cx13 : Nat) (ax14 : Option Addr) (nx14 cx14 : Nat) (ax15 : Option Addr) (nx15 cx15 : Nat) (ax16 : Option Addr) (nx16 cx16 : Nat) (x17 : Int), v11 = .tuple ⟨[.agg ⟨[.slice ax13 nx13 cx13, .slice ax14 nx14 cx14, .slice ax15 nx15 cx15, .slice ax16 nx16 cx16]⟩, .int .i64 x17]⟩ ∧
  AlP 69 [.slice none 0 0, .slice none 0 0, .slice none 0 0, .slice none 0 0] w12 fun b18 w19 =>
  StP b18 0 [.slice ax13 nx13 cx13, .slice ax14 nx14 cx14, .slice ax15 nx15 cx15, .slice ax16 nx16 cx16] w19 fun w20 =>
  sp (!decide ((x17 : Int) = 0))
  (StP b6 0 [.slice none 0 0, .slice none 0 0, .int .i64 0] w20 fun w21 =>
  ∃ (ax22 : Option Addr) (nx22 cx22 : Nat) (ax23 : Option Addr) (nx23 cx23 : Nat) (x24 : Int), Row w21 b6 0 [.slice ax22 nx22 cx22, .slice ax23 nx23 cx23, .int .i64 x24] ∧
  R (.tuple ⟨[.agg ⟨[.slice ax22 nx22 cx22, .slice ax23 nx23 cx23, .int .i64 x24]⟩, .int .i64 x17]⟩) w21)
  (∃ (ax25 : Option Addr) (nx25 cx25 : Nat) (ax26 : Option Addr) (nx26 cx26 : Nat) (x27 : Int), Row w20 b4 0 [.slice ax25 nx25 cx25, .slice ax26 nx26 cx26, .int .i64 x27] ∧
  ∃ (ax28 : Option Addr) (nx28 cx28 : Nat) (ax29 : Option Addr) (nx29 cx29 : Nat) (ax30 : Option Addr) (nx30 cx30 : Nat) (ax31 : Option Addr) (nx31 cx31 : Nat), Row w20 b18 0 [.slice ax28 nx28 cx28, .slice ax29 nx29 cx29, .slice ax30 nx30 cx30, .slice ax31 nx31 cx31] ∧
  CallP Pg 22 [.agg ⟨[.slice ax25 nx25 cx25, .slice ax26 nx26 cx26, .int .i64 x27]⟩, .agg ⟨[.slice ax28 nx28 cx28, .slice ax29 nx29 cx29, .slice ax30 nx30 cx30, .slice ax31 nx31 cx31]⟩] w20 fun v32 w33 => ∃ (ax34 : Option Addr) (nx34 cx34 : Nat), v32 = .slice ax34 nx34 cx34 ∧
  AlP 51 [.slice none 0 0, .slice none 0 0, .int .i64 0] w33 fun b35 w36 =>
  ∃ (ax37 : Option Addr) (nx37 cx37 : Nat), cel w36 b4 1 = some (.slice ax37 nx37 cx37) ∧
  ∃ J38 : Int → World → Nat → Prop, (∃ m41, J38 0 w36 m41) ∧
  ∀ (x39 : Int), ∀ w40 m41, J38 x39 w40 m41 →
  sp (decide ((x39 : Int) < (nx37 : Nat)))
  (∃ (ax43 : Option Addr) (nx43 cx43 : Nat) (ax44 : Option Addr) (nx44 cx44 : Nat) (x45 : Int), Row w40 b4 0 [.slice ax43 nx43 cx43, .slice ax44 nx44 cx44, .int .i64 x45] ∧
  ∃ (ax46 : Option Addr) (nx46 cx46 : Nat) (ax47 : Option Addr) (nx47 cx47 : Nat) (ax48 : Option Addr) (nx48 cx48 : Nat) (ax49 : Option Addr) (nx49 cx49 : Nat), Row w40 b18 0 [.slice ax46 nx46 cx46, .slice ax47 nx47 cx47, .slice ax48 nx48 cx48, .slice ax49 nx49 cx49] ∧
  CallP Pg 23 [.agg ⟨[.slice ax43 nx43 cx43, .slice ax44 nx44 cx44, .int .i64 x45]⟩, .int .i64 x39, .agg ⟨[.slice ax46 nx46 cx46, .slice ax47 nx47 cx47, .slice ax48 nx48 cx48, .slice ax49 nx49 cx49]⟩, .slice ax34 nx34 cx34] w40 fun v50 w51 => ∃ (x52 : Option Addr), v50 = .pointer x52 ∧
  ptAt x52 fun b53 o54 =>
  ∃ (ax55 : Option Addr) (nx55 cx55 : Nat) (ax56 : Option Addr) (nx56 cx56 : Nat) (ax57 : Option Addr) (nx57 cx57 : Nat) (ax58 : Option Addr) (nx58 cx58 : Nat), Row w51 b53 o54 [.slice ax55 nx55 cx55, .slice ax56 nx56 cx56, .slice ax57 nx57 cx57, .slice ax58 nx58 cx58] ∧
  CallP Pg 24 [.agg ⟨[.slice ax55 nx55 cx55, .slice ax56 nx56 cx56, .slice ax57 nx57 cx57, .slice ax58 nx58 cx58]⟩] w51 fun v59 w60 => ∃ (ax61 : Option Addr) (nx61 cx61 : Nat) (x62 : Bool), v59 = .tuple ⟨[.slice ax61 nx61 cx61, .bool x62]⟩ ∧
  sp (!x62)
  (StP b6 0 [.slice none 0 0, .slice none 0 0, .int .i64 0] w60 fun w63 =>
  ∃ (ax64 : Option Addr) (nx64 cx64 : Nat) (ax65 : Option Addr) (nx65 cx65 : Nat) (x66 : Int), Row w63 b6 0 [.slice ax64 nx64 cx64, .slice ax65 nx65 cx65, .int .i64 x66] ∧
  R (.tuple ⟨[.agg ⟨[.slice ax64 nx64 cx64, .slice ax65 nx65 cx65, .int .i64 x66]⟩, .int .i64 31]⟩) w63)
  (AlM w60 fun b67 w68 =>
  ∃ J69 : Int → World → Nat → Prop, (∃ m72, J69 0 w68 m72) ∧
  ∀ (x70 : Int), ∀ w71 m72, J69 x70 w71 m72 →
  sp (decide ((x70 : Int) < (nx61 : Nat)))
  (0 ≤ (x70 : Int) ∧ (x70 : Int) < (nx61 : Nat) ∧
  ptAt ax61 fun b74 o75 =>
  ∃ (x76 : Int), cel w71 b74 (o75 + x70.toNat * 1) = some (.int .i64 x76) ∧
  ptAt x52 fun b77 o78 =>
  ∃ (ax79 : Option Addr) (nx79 cx79 : Nat), cel w71 b77 (o78 + 4) = some (.slice ax79 nx79 cx79) ∧
  0 ≤ (x76 : Int) ∧ (x76 : Int) < (nx79 : Nat) ∧
  ptAt ax79 fun b80 o81 =>
  ∃ (x82 : Int), cel w71 b80 (o81 + x76.toNat * 1) = some (.int .i64 x82) ∧
  ∃ w83 : World, Sem.run Pg (Instr.mapUpdate 56 (.map (some b67)) (.int .i64 x82) (.bool true)) w71 = .ok () w83 ∧
  ∃ m73, m73 < m72 ∧ J69 (IntKind.wrap .i64 (x70 + 1)) w83 m73)
  (∃ (ax84 : Option Addr) (nx84 cx84 : Nat), cel w71 b35 0 = some (.slice ax84 nx84 cx84) ∧
  AlP 56 [.map (some b67)] w71 fun b85 w86 =>
  ∃ (ax87 : Option Addr) (nx87 cx87 : Nat), ∃ w88 : World, Sem.run Pg (Builtin.append_ #[48, 48] 48 ⟨[.slice ax84 nx84 cx84, .slice (some ⟨b85, 0, none⟩) 1 1]⟩) w86 = .ok (.slice ax87 nx87 cx87) w88 ∧
  StP b35 0 [.slice ax87 nx87 cx87] w88 fun w89 =>
  ∃ (x90 : Int), cel w89.drew b35 2 = some (.int .i64 x90) ∧
  ptAt x52 fun b91 o92 =>
  ∃ (ax93 : Option Addr) (nx93 cx93 : Nat) (ax94 : Option Addr) (nx94 cx94 : Nat) (ax95 : Option Addr) (nx95 cx95 : Nat) (ax96 : Option Addr) (nx96 cx96 : Nat), Row w89.drew b91 o92 [.slice ax93 nx93 cx93, .slice ax94 nx94 cx94, .slice ax95 nx95 cx95, .slice ax96 nx96 cx96] ∧
  CallP Pg 19 [.agg ⟨[.slice ax93 nx93 cx93, .slice ax94 nx94 cx94, .slice ax95 nx95 cx95, .slice ax96 nx96 cx96]⟩, .slice ax61 nx61 cx61] w89.drew fun v97 w98 => ∃ (x99 : Int), v97 = .int .i64 x99 ∧
  Ext w89.drew w98 ∧
  StP b35 2 [.int .i64 (IntKind.wrap .i64 (x90 + x99))] w98 fun w100 =>
  ∃ m42, m42 < m41 ∧ J38 (IntKind.wrap .i64 (x39 + 1)) w100 m42)))
  (∃ (ax101 : Option Addr) (nx101 cx101 : Nat) (ax102 : Option Addr) (nx102 cx102 : Nat) (x103 : Int), Row w40 b4 0 [.slice ax101 nx101 cx101, .slice ax102 nx102 cx102, .int .i64 x103] ∧
  ∃ (ax104 : Option Addr) (nx104 cx104 : Nat), cel w40 b35 0 = some (.slice ax104 nx104 cx104) ∧
  CallP Pg 12 [.agg ⟨[.slice ax101 nx101 cx101, .slice ax102 nx102 cx102, .int .i64 x103]⟩, .slice ax104 nx104 cx104] w40 fun v105 w106 => ∃ (ax107 : Option Addr) (nx107 cx107 : Nat) (ax108 : Option Addr) (nx108 cx108 : Nat) (ax109 : Option Addr) (nx109 cx109 : Nat) (ax110 : Option Addr) (nx110 cx110 : Nat) (x111 : Int), v105 = .tuple ⟨[.agg ⟨[.slice ax107 nx107 cx107, .slice ax108 nx108 cx108, .slice ax109 nx109 cx109, .slice ax110 nx110 cx110]⟩, .int .i64 x111]⟩ ∧
  AlP 69 [.slice none 0 0, .slice none 0 0, .slice none 0 0, .slice none 0 0] w106 fun b112 w113 =>
  StP b112 0 [.slice ax107 nx107 cx107, .slice ax108 nx108 cx108, .slice ax109 nx109 cx109, .slice ax110 nx110 cx110] w113 fun w114 =>
  ∃ (ax115 : Option Addr) (nx115 cx115 : Nat) (ax116 : Option Addr) (nx116 cx116 : Nat) (x117 : Int), Row w114 b4 0 [.slice ax115 nx115 cx115, .slice ax116 nx116 cx116, .int .i64 x117] ∧
  ∃ (ax118 : Option Addr) (nx118 cx118 : Nat) (ax119 : Option Addr) (nx119 cx119 : Nat) (ax120 : Option Addr) (nx120 cx120 : Nat) (ax121 : Option Addr) (nx121 cx121 : Nat), Row w114 b112 0 [.slice ax118 nx118 cx118, .slice ax119 nx119 cx119, .slice ax120 nx120 cx120, .slice ax121 nx121 cx121] ∧
  CallP Pg 22 [.agg ⟨[.slice ax115 nx115 cx115, .slice ax116 nx116 cx116, .int .i64 x117]⟩, .agg ⟨[.slice ax118 nx118 cx118, .slice ax119 nx119 cx119, .slice ax120 nx120 cx120, .slice ax121 nx121 cx121]⟩] w114 fun v122 w123 => ∃ (ax124 : Option Addr) (nx124 cx124 : Nat), v122 = .slice ax124 nx124 cx124 ∧
  ∃ J125 : Int → World → Nat → Prop, (∃ m128, J125 0 w123 m128) ∧
  ∀ (x126 : Int), ∀ w127 m128, J125 x126 w127 m128 →
  sp (decide ((x126 : Int) < (nx124 : Nat)))
  (∀ K130 : World → Prop, (∀ w131, (
  ∃ m129, m129 < m128 ∧ J125 (IntKind.wrap .i64 (x126 + 1)) w131 m129) → K130 w131) →
  0 ≤ (x126 : Int) ∧ (x126 : Int) < (nx124 : Nat) ∧
  ptAt ax124 fun b132 o133 =>
  ∃ (x134 : Int) (x135 : Int) (x136 : Int) (x137 : Int) (x138 : Int), Row w127 b132 (o133 + x126.toNat * 5) [.int .i64 x134, .int .i64 x135, .int .i64 x136, .int .i64 x137, .int .i64 x138] ∧
  AlP 100 [.int .i64 0, .int .i64 0, .int .i64 0, .int .i64 0, .int .i64 0] w127 fun b139 w140 =>
  StP b139 0 [.int .i64 x134, .int .i64 x135, .int .i64 x136, .int .i64 x137, .int .i64 x138] w140 fun w141 =>
  ∃ (x142 : Int), cel w141 b139 0 = some (.int .i64 x142) ∧
  ∃ (x143 : Int), cel w141 b139 1 = some (.int .i64 x143) ∧
  ∃ (x144 : Int), cel w141 b139 2 = some (.int .i64 x144) ∧
  AlP 102 [.int .i64 0, .int .i64 0, .int .i64 0] w141 fun b145 w146 =>
  StP b145 0 [.int .i64 x142, .int .i64 x143, .int .i64 x144] w146 fun w147 =>
  ∀ K148 : Bool → World → Prop, (∀ (x149 : Bool), ∀ w150, (
  sp x149
  (∃ (ax151 : Option Addr) (nx151 cx151 : Nat), cel w150 b35 1 = some (.slice ax151 nx151 cx151) ∧
  ∃ (x152 : Int) (x153 : Int) (x154 : Int), Row w150 b145 0 [.int .i64 x152, .int .i64 x153, .int .i64 x154] ∧
  AlP 102 [.int .i64 x152, .int .i64 x153, .int .i64 x154] w150 fun b155 w156 =>
  ∃ (ax157 : Option Addr) (nx157 cx157 : Nat), ∃ w158 : World, Sem.run Pg (Builtin.append_ #[49, 49] 49 ⟨[.slice ax151 nx151 cx151, .slice (some ⟨b155, 0, none⟩) 1 1]⟩) w156 = .ok (.slice ax157 nx157 cx157) w158 ∧
  StP b35 1 [.slice ax157 nx157 cx157] w158 fun w159 =>
  K130 w159)
  (K130 w150)) → K148 x149 w150) →
  ∃ (ax160 : Option Addr) (nx160 cx160 : Nat), cel w147.drew b35 1 = some (.slice ax160 nx160 cx160) ∧
  sp (decide (((nx160 : Nat) : Int) = 0))
  (K148 true w147.drew)
  (∃ (ax161 : Option Addr) (nx161 cx161 : Nat), cel w147.drew b35 1 = some (.slice ax161 nx161 cx161) ∧
  ∃ (ax162 : Option Addr) (nx162 cx162 : Nat), cel w147.drew b35 1 = some (.slice ax162 nx162 cx162) ∧
  0 ≤ (IntKind.wrap .i64 ((nx162 : Nat) - 1) : Int) ∧ (IntKind.wrap .i64 ((nx162 : Nat) - 1) : Int) < (nx161 : Nat) ∧
  ptAt ax161 fun b163 o164 =>
  ∃ (x165 : Int) (x166 : Int) (x167 : Int), Row w147.drew b163 (o164 + (IntKind.wrap .i64 ((nx162 : Nat) - 1)).toNat * 3) [.int .i64 x165, .int .i64 x166, .int .i64 x167] ∧
  ∃ (x168 : Int) (x169 : Int) (x170 : Int), Row w147.drew b145 0 [.int .i64 x168, .int .i64 x169, .int .i64 x170] ∧
  ∃ (x171 : Bool), (∀ w', Sem.run Pg (do eqGuard .neq 102 (.tmp 121) (.tmp 122) (.agg ⟨[.int .i64 x165, .int .i64 x166, .int .i64 x167]⟩) (.agg ⟨[.int .i64 x168, .int .i64 x169, .int .i64 x170]⟩); binOp .neq 102 (.agg ⟨[.int .i64 x165, .int .i64 x166, .int .i64 x167]⟩) (.agg ⟨[.int .i64 x168, .int .i64 x169, .int .i64 x170]⟩)) w' = .ok (.bool x171) w') ∧
  K148 x171 w147.drew))
  (∃ (ax172 : Option Addr) (nx172 cx172 : Nat) (ax173 : Option Addr) (nx173 cx173 : Nat) (x174 : Int), Row w127 b35 0 [.slice ax172 nx172 cx172, .slice ax173 nx173 cx173, .int .i64 x174] ∧
  StP b6 0 [.slice ax172 nx172 cx172, .slice ax173 nx173 cx173, .int .i64 x174] w127 fun w175 =>
  ∃ (ax176 : Option Addr) (nx176 cx176 : Nat) (ax177 : Option Addr) (nx177 cx177 : Nat) (x178 : Int), Row w175 b6 0 [.slice ax176 nx176 cx176, .slice ax177 nx177 cx177, .int .i64 x178] ∧
  R (.tuple ⟨[.agg ⟨[.slice ax176 nx176 cx176, .slice ax177 nx177 cx177, .int .i64 x178]⟩, .int .i64 0]⟩) w175)))
def T7 : List Sh := [.v (.agg [.sl, .sl, (.int .i64)]), .v (.one .ptr), .t [(.agg [.sl, .sl, (.int .i64)])], .v (.one (.int .i64)), .v (.one .ptr), .v (.one (.int .i64)), .v (.one .sl), .v (.one .ptr), .v (.one (.int .i64)), .v (.one .ptr), .v (.one .sl), .v (.one .bool), .v (.one .map), .v (.one .any), .v (.one (.int .i64)), .v (.one .ptr), .v (.one (.int .i64)), .v (.one .any), .v (.one .ptr), .v (.one .ptr), .t [(.agg [.sl, .sl, .sl, .sl]), (.one (.int .i64))], .v (.agg [.sl, .sl, (.int .i64)]), .t [(.agg [.sl, .sl, .sl, .sl]), (.one (.int .i64))], .v (.agg [.sl, .sl, .sl, .sl]), .v (.one (.int .i64)), .v (.one (.int .i64)), .v (.one .bool), .v (.agg [.sl, .sl, (.int .i64)]), .v (.one (.int .i64)), .v (.agg [.sl, .sl, (.int .i64)]), .v (.agg [.sl, .sl, .sl, .sl]), .v (.one .sl), .v (.one .ptr), .v (.one .sl), .v (.one (.int .i64)), .v (.one (.int .i64)), .v (.one .bool), .v (.one (.int .i64)), .v (.agg [.sl, .sl, (.int .i64)]), .v (.one (.int .i64)), .v (.agg [.sl, .sl, .sl, .sl]), .v (.one .sl), .v (.one .ptr), .t [(.one .sl), (.one .bool)], .v (.one .ptr), .v (.one .ptr), .v (.one .ptr), .v (.agg [.sl, .sl, .sl, .sl]), .t [(.one .sl), (.one .bool)], .v (.one .sl), .v (.one .bool), .v (.one .bool), .v (.one .bool), .v (.agg [.sl, .sl, (.int .i64)]), .v (.one .map), .v (.one .sl), .v (.one (.int .i64)), .v (.one (.int .i64)), .v (.one .bool), .v (.one .ptr), .v (.one (.int .i64)), .v (.one .map), .v (.one .ptr), .v (.one .ptr), .v (.one .ptr), .v (.one .sl), .v (.one (.int .i64)), .v (.one .ptr), .v (.one (.int .i64)), .v (.one (.int .i64)), .v (.one .ptr), .v (.one .sl), .v (.one .map), .v (.one .sl), .v (.one .sl), .v (.one .ptr), .v (.one .ptr), .v (.one (.int .i64)), .v (.one .ptr), .v (.one .ptr), .v (.one .ptr), .v (.agg [.sl, .sl, .sl, .sl]), .v (.one .sl), .v (.one (.int .i64)), .v (.one (.int .i64)), .v (.one .ptr), .v (.one (.int .i64)), .t [(.agg [.sl, .sl, .sl, .sl]), (.one (.int .i64))], .v (.agg [.sl, .sl, (.int .i64)]), .v (.one .ptr), .v (.one .sl), .t [(.agg [.sl, .sl, .sl, .sl]), (.one (.int .i64))], .v (.agg [.sl, .sl, .sl, .sl]), .v (.one (.int .i64)), .v (.agg [.sl, .sl, (.int .i64)]), .v (.agg [.sl, .sl, .sl, .sl]), .v (.one .sl), .v (.one (.int .i64)), .v (.one (.int .i64)), .v (.one .bool), .v (.one .ptr), .v (.agg [(.int .i64), (.int .i64), (.int .i64), (.int .i64), (.int .i64)]), .v (.one .ptr), .v (.one (.int .i64)), .v (.one .ptr), .v (.one (.int .i64)), .v (.one .ptr), .v (.one (.int .i64)), .v (.agg [(.int .i64), (.int .i64), (.int .i64)]), .v (.one .ptr), .v (.one .sl), .v (.one (.int .i64)), .v (.one .bool), .v (.one .bool), .v (.one .ptr), .v (.one .sl), .v (.one .ptr), .v (.one .sl), .v (.one (.int .i64)), .v (.one (.int .i64)), .v (.one .ptr), .v (.agg [(.int .i64), (.int .i64), (.int .i64)]), .v (.agg [(.int .i64), (.int .i64), (.int .i64)]), .v (.one .bool), .v (.one .bool), .v (.one .ptr), .v (.one .sl), .v (.agg [(.int .i64), (.int .i64), (.int .i64)]), .v (.one .sl), .v (.one .sl), .v (.one .ptr), .v (.one (.int .i64)), .v (.agg [.sl, .sl, (.int .i64)])]
def A7 : Ann := (.seq none .z (.seq none .z (.seq none (.seq none .z (.cond (.seq none .z .z) .z)) (.seq none .z (.seq none .z (.seq none (.seq none .z (.block none (.loop [35] (.seq none .z (.seq none (.cond .z .z) (.seq none (.block none (.seq none .z (.seq none .z (.seq none .z (.seq none (.seq none .z (.cond (.seq none .z .z) .z)) (.seq none .z (.seq none (.seq none .z (.block none (.loop [57] (.seq none .z (.seq none (.cond .z .z) (.seq none (.block none (.seq none .z .z)) .z)))))) (.seq none .z (.dr [0, 1, 0, 0, 0, 1, 0, 2, 0, 0, 3] [0, 1, 2, 3, 4, 5, 6, 7, 8, 9, 10]))))))))) .z)))))) (.seq none .z (.seq none (.seq none .z (.block none (.loop [98] (.seq none .z (.seq none (.cond .z .z) (.seq none (.block (some []) (.seq none .z (.seq none .z (.seq (some [124]) (.dr [0, 1, 0, 0, 0, 0, 1, 0, 1, 0, 0, 0, 1, 1, 0, 0] [0, 1, 2, 3, 4, 5, 6, 7, 8, 9, 10, 11, 12, 13, 14, 15]) (.cond .z .z))))) .z)))))) (.seq none .z .z)))))))))
theorem F7_eq (ax1 : Option Addr) (nx1 cx1 : Nat) (ax2 : Option Addr) (nx2 cx2 : Nat) (x3 : Int) (w : World) (R : Value → World → Prop) : F7 ax1 nx1 cx1 ax2 nx2 cx2 x3 w R = denF Go.Proofs.Try.prog T7 Go.Proofs.Try.f7 A7 [.agg ⟨[.slice ax1 nx1 cx1, .slice ax2 nx2 cx2, .int .i64 x3]⟩] w R := by kernel_rfl
theorem F7_ok (ax1 : Option Addr) (nx1 cx1 : Nat) (ax2 : Option Addr) (nx2 cx2 : Nat) (x3 : Int) {w : World} {R : Value → World → Prop} (h : F7 ax1 nx1 cx1 ax2 nx2 cx2 x3 w R) : CallP Go.Proofs.Try.prog 7 [.agg ⟨[.slice ax1 nx1 cx1, .slice ax2 nx2 cx2, .int .i64 x3]⟩] w R :=
  calls_den (fun _ => drawn (by kernel_rfl)) Go.Proofs.Try.func7 (Nat.le_of_ble_eq_true (by kernel_rfl)) ((F7_eq ax1 nx1 cx1 ax2 nx2 cx2 x3 w R).mp h)
end Go.Pl.Try
