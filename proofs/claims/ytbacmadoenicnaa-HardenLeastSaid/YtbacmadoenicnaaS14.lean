/- Joined texts of the proof, part 14: WCut1, F79, F49, WCut2, F50, WCut3, F51, WCut4. -/
import Derived.Test.YtbacmadoenicnaaS13
set_option maxRecDepth 2000
set_option linter.unusedVariables false
set_option linter.unusedSimpArgs false
set_option linter.unusedSectionVars false
/- Nets: 'Right', and what it calls: walked. -/
namespace Go.Pl.Try
open M
set_option linter.unusedVariables false
theorem uInt : Pg.underlying 3 = some (.int .i64) := by kernel_rfl
theorem growN_run {w : World} {n : Nat} (hn : 0 < n) (hm : n ≤ 17592186044416) :
    ∃ b c' sp w', (Builtin.append_ #[34, 3] 34 ⟨[.slice none 0 0, .int .i64 (n : Int)]⟩).run Pg w = .ok (.slice (some ⟨b, 0, none⟩) n c') w' ∧ Sls 1 (some ⟨b, 0, none⟩) n c' (List.replicate n (.int .i64 0)) (.at b [] sp) ∧ Hp w w' ((Rw.at b [] sp).L 3 (List.replicate n (.int .i64 0)) ++ []) := by
  obtain ⟨ht, i, z, hi, h1, h8, hz, hzs⟩ := slT_inv slInts
  have hzc : z.cells = #[.int .i64 0] := by
    have := zInt
    simp only [zeroOf, hi, hz, Option.map_some, Option.some.injEq] at this
    exact this
  have hw : IntKind.wrap .i64 (n : Int) = n := wrap_in (by omega) (by omega)
  have h0 : ¬ ((n : Int) < 0) := by omega
  have h48 : ¬ ((281474976710656 : Int) < (n : Int) * i.bytes) := by rw [h8]; omega
  have hn0 : ¬ n = 0 := by omega
  have h63' : ¬ ((9223372036854775807 : Int) < (n : Int)) := by omega
  have hfit : ¬ (281474976710656 < Builtin.nextslicecap n 0 * i.bytes) := Nat.not_lt.2 (by have := growslice_fits (need := n) (old := 0) (bytes := i.bytes) hn (by rw [h8]; omega); exact this)
  have hge := grownCap_ge w n 0 3
  have hle := grownCap_le_maxLen w n 0 3 (by simp only [maxLen]; omega)
  have hz1 : ∀ k, (Builtin.zeroCells z.cells k).toList = List.replicate k (.int .i64 0) := by
    intro k
    apply List.ext_getElem
    · simp [Builtin.zeroCells, hzs]
    · intro j h1 h2
      have : j % 1 = 0 := Nat.mod_one j
      simp [Builtin.zeroCells, hzc, this]
  have hrun : (Builtin.append_ #[34, 3] 34 ⟨[.slice none 0 0, .int .i64 (n : Int)]⟩).run Pg w = .ok (.slice (some ⟨w.heap.size, 0, none⟩) n (grownCap w n 0 3)) (w.drew.alloc (.cells (Builtin.zeroCells z.cells n ++ Builtin.zeroCells z.cells (grownCap w n 0 3 - n)) 3)) := by
    simp [Builtin.append_, run_underlying ht, run_underlying uInt, sizeOf, typeInfo, zeroValue, hi, hz, h1, asInt, asIntOf, hw, h0, h48, hn0, h63', hfit, Question.forced, newRow, grownCap, Builtin.firstCells]
  refine ⟨_, _, (Builtin.zeroCells z.cells (grownCap w n 0 3 - n)).toList, _, hrun, ⟨by simp, rfl, ?_, hle, hge⟩, ?_⟩
  · rw [List.length_append, List.length_replicate, hz1, List.length_replicate]; omega
  · have h3 := (Hp.refl w).drew.al (.cells (Builtin.zeroCells z.cells n ++ Builtin.zeroCells z.cells (grownCap w n 0 3 - n)) 3)
    have hcs : (Builtin.zeroCells z.cells n ++ Builtin.zeroCells z.cells (grownCap w n 0 3 - n)) = ⟨[] ++ List.replicate n (.int .i64 0) ++ (Builtin.zeroCells z.cells (grownCap w n 0 3 - n)).toList⟩ := by
      apply Array.ext'
      rw [Array.toList_append, hz1 n]
      rfl
    rw [hcs] at h3 ⊢
    exact h3
theorem grow_w {w : World} {n : Nat} (hm : n ≤ 17592186044416) :
    CallP Pg 83 [.slice none 0 0, .int .i64 n] w fun v w' => ∃ a' c' r, v = .slice a' 0 c' ∧ Sls 1 a' 0 c' [] r ∧ Hp w w' (r.L 3 []) := by
  refine F83_ok _ _ _ _ ?_
  intro K3 hK3
  refine sp_dec (fun h => by omega) (fun _ => hK3 _ ?_)
  intro K5 hK5
  have hcap : (Builtin.cap_ #[34] 3 ⟨[.slice none 0 0]⟩).run Pg w = .ok (.int .i64 0) w := by
    obtain ⟨ht, -⟩ := slT_inv slInts
    simp [Builtin.cap_, run_underlying ht, goInt]
  have hwr : IntKind.wrap .i64 ((n : Int) - (IntKind.wrap .i64 (0 - ((0 : Nat) : Int)))) = n := by
    rw [wrap_in (x := 0 - ((0 : Nat) : Int)) (by omega) (by omega), wrap_in (by omega) (by omega)]; omega
  refine ⟨0, hcap, ?_⟩
  rw [hwr]
  refine sp_dec (fun hpos => ?_) (fun h0 => hK5 _ _ _ _ ⟨none, 0, .emp, rfl, Sls.nil _ _, Hp.refl w⟩)
  obtain ⟨b, c', sp, w', hrun, hs, h'⟩ := growN_run (w := w) (n := n) (by omega) hm
  obtain ⟨r0, hrun0, hs0, _⟩ := head_run0 (k := 0) slInts (Sls.nil 1 none) (L := []) (Hp.refl w) (Nat.le_refl 0)
  obtain ⟨r2, hrun2, hs2, h2⟩ := head_run0 (k := 0) slInts hs (L := []) h' (Nat.zero_le _)
  refine ⟨0, hcap, _, _, _, hrun0, _, _, _, w', hrun, _, _, _, hrun2, hK5 _ _ _ _ ⟨_, c', r2, rfl, by simpa using hs2, by simpa using h2⟩⟩
theorem concat_w {w : World} {a : Option Addr} {n c : Nat} {ls : List (List Int)} (h : RdII w a n ls) (hb : (ls.map List.length).sum ≤ 4398046511104) :
    CallP Pg 70 [.slice a n c] w fun v w' => ∃ a' c' r, v = .slice a' ls.flatten.length c' ∧ Sls 1 a' ls.flatten.length c' (ints ls.flatten) r ∧ Hp w w' (r.L 3 (ints ls.flatten)) := by
  have hl := h.len
  have hle := h.le
  have hsplit : ∀ {j : Nat} {l : List Int}, ls[j]? = some l → ((ls.take (j + 1)).map List.length).sum = ((ls.take j).map List.length).sum + l.length := by
    intro j l hj
    rw [List.take_add_one, hj]; simp
  have hmono : ∀ j, ((ls.take j).map List.length).sum ≤ (ls.map List.length).sum := by
    intro j
    have h2 : ((ls.take j ++ ls.drop j).map List.length).sum = (ls.map List.length).sum := by rw [List.take_append_drop]
    rw [List.map_append, List.sum_append] at h2
    omega
  refine F70_ok _ _ _ ?_
  refine ⟨fun s i w1 m => w1 = w ∧ ∃ j : Nat, i = j ∧ j ≤ n ∧ m = n - j ∧ s = (((ls.take j).map List.length).sum : Nat), ⟨n, rfl, 0, rfl, by omega, by omega, by simp⟩, ?_⟩
  rintro s i w5 m ⟨rfl, j, rfl, hj, rfl, rfl⟩
  refine sp_dec (fun hlt => ?_) (fun hge => ?_)
  · intro K8 hK8
    obtain ⟨l, hx⟩ := at_some (l := ls) (j := j) (by omega)
    obtain ⟨b, o, a', n', c', ha, hc, hr⟩ := h.at hx
    have hnl := hr.len
    have h1 := hsplit hx
    have h2 := hmono (j + 1)
    have hwr : IntKind.wrap .i64 ((((ls.take j).map List.length).sum : Nat) + (n' : Nat) : Int) = (((ls.take (j + 1)).map List.length).sum : Nat) := by
      rw [wrap_in (by omega) (by omega)]; omega
    refine ⟨by omega, by omega, ptAt_of ha ⟨_, _, _, hc, ?_⟩⟩
    rw [hwr]
    refine sp_dec (fun hneg => by omega) (fun _ => hK8 _ _ ⟨n - (j + 1), by omega, rfl, j + 1, wrap_succ (by simp only [maxLen] at hle ⊢; omega), by omega, rfl, rfl⟩)
  · have hjn : j = n := by omega
    subst hjn
    have htk : ls.take j = ls := List.take_of_length_le (by omega)
    rw [htk]
    refine (grow_w (by omega)).mono ?_
    rintro v w17 ⟨ag, cg, rg, rfl, hsg, h17⟩
    refine ⟨_, _, _, rfl, ?_⟩
    refine ⟨fun a2 n2 c2 i w1 m => ∃ (u : Nat) (r2 : Rw), i = u ∧ u ≤ j ∧ m = j - u ∧ n2 = (ls.take u).flatten.length ∧ Sls 1 a2 n2 c2 (ints (ls.take u).flatten) r2 ∧ Hp w5 w1 (r2.L 3 (ints (ls.take u).flatten) ++ []), ⟨j, 0, rg, rfl, by omega, by omega, by simp, by simpa using hsg, by simpa using h17⟩, ?_⟩
    rintro a2 n2 c2 i w22 m ⟨u, r2, rfl, hu, rfl, rfl, hs, h22⟩
    have hfl : ∀ t, (ls.take t).flatten.length = ((ls.take t).map List.length).sum := fun t => List.length_flatten
    refine sp_dec (fun hlt2 => ?_) (fun hge2 => ?_)
    · obtain ⟨l, hx⟩ := at_some (l := ls) (j := u) (by omega)
      obtain ⟨b, o, a', n', c', ha, hc, hr⟩ := h.at hx
      have hnl := hr.len
      have h1 := hsplit hx
      have h2 := hmono (u + 1)
      have h3 := hfl u
      obtain ⟨a3, c3, w29, r3, hrun, hs3, h29⟩ := app2 (ty := 34) slInts (by omega) hs [] h22 (srcI (RdI.ext hr h22.ext)) (one_ints l) (by simp only [maxLen]; omega) (by omega) (cx := c')
      have hfe : ints (ls.take u).flatten ++ l.map (Value.int .i64) = ints (ls.take (u + 1)).flatten := by
        rw [List.take_add_one, hx]; simp
      rw [hfe] at hs3 h29
      have hne : (ls.take u).flatten.length + n' = (ls.take (u + 1)).flatten.length := by rw [hfl u, hfl (u + 1)]; omega
      rw [hne] at hs3 hrun
      exact ⟨by omega, by omega, ptAt_of ha ⟨_, _, _, h22.ext.cel hc, _, _, _, w29, hrun, j - (u + 1), by omega, u + 1, r3, wrap_succ (by simp only [maxLen] at hle ⊢; omega), by omega, rfl, rfl, hs3, by simpa using h29⟩⟩
    · have huj : ls.take u = ls := List.take_of_length_le (by omega)
      rw [huj] at hs h22 ⊢
      exact ⟨a2, c2, r2, rfl, hs, by simpa using h22⟩
/-- A net, as it lies. -/
def RNet (w : World) (vs : List Value) (n : Net) : Prop := ∃ aw nw cw ay ny cy af nf cf at_ nt ct, vs = [.slice aw nw cw, .slice ay ny cy, .slice af nf cf, .slice at_ nt ct] ∧ RdI w aw nw n.weights ∧ RdS 2 RTwo w ay ny n.ways ∧ RdI w af nf n.frm ∧ RdI w at_ nt n.to
theorem RNet.ext {w w' : World} {vs : List Value} {n : Net} (hx : Ext w w') (h : RNet w vs n) : RNet w' vs n := by
  obtain ⟨aw, nw, cw, ay, ny, cy, af, nf, cf, at_, nt, ct, e, h1, h2, h3, h4⟩ := h
  exact ⟨aw, nw, cw, ay, ny, cy, af, nf, cf, at_, nt, ct, e, h1.ext hx, RdTwo.ext h2 hx, h3.ext hx, h4.ext hx⟩
theorem nright_w {w : World} {n : Net} {vs : List Value} (h : RNet w vs n) (hb : n.frm.length + n.to.length ≤ 4398046511104) :
    CallP Pg 39 [.agg ⟨vs⟩] w fun v w' => v = .bool n.right ∧ Ext w w' := by
  obtain ⟨aw, nw, cw, ay, ny, cy, af, nf, cf, at_, nt, ct, rfl, hw, hy, hf, ht⟩ := h
  have hwl := hw.len
  refine F39_ok _ _ _ _ _ _ _ _ _ _ _ _ ?_
  unfold F39
  refine alp (Hp.refl w) fun b5 w6 h6 => alp h6 fun b7 w8 h8 => ?_
  refine stp h8 0 rfl (by simp) rfl fun w9 h9 => ?_
  have h9 : Hp w w9 [(b7, Cl 117 [.func (.func 65) ⟨[]⟩ ⟨[.pointer (some ⟨b5, 0, none⟩)]⟩]), (b5, Cl 62 [.slice aw nw cw, .slice ay ny cy, .slice af nf cf, .slice at_ nt ct])] := h9
  have hc5 : ∀ {w1 : World}, Ext w9 w1 → cel w1 b5 0 = some (.slice aw nw cw) ∧ cel w1 b5 1 = some (.slice ay ny cy) ∧ cel w1 b5 2 = some (.slice af nf cf) ∧ cel w1 b5 3 = some (.slice at_ nt ct) ∧ cel w1 b7 0 = some (.func (.func 65) ⟨[]⟩ ⟨[.pointer (some ⟨b5, 0, none⟩)]⟩) := fun hx =>
    ⟨hx.cel (h9.cl 1 rfl rfl), hx.cel (h9.cl 1 rfl rfl), hx.cel (h9.cl 1 rfl rfl), hx.cel (h9.cl 1 rfl rfl), hx.cel (h9.cl 0 rfl rfl)⟩
  have hin : ∀ (v : Int) (w1 : World), Ext w9 w1 → CallV Pg (.func (.func 65) ⟨[]⟩ ⟨[.pointer (some ⟨b5, 0, none⟩)]⟩) [.int .i64 v] w1 fun u w2 => u = .bool (n.has v) ∧ w2 = w1 := by
    intro v w1 hx
    refine ⟨by kernel_rfl, F65_ok v b5 0 ?_⟩
    refine sp_dec (fun h0 => ⟨_, _, _, (hc5 hx).1, ?_, rfl⟩) (fun h0 => ⟨?_, rfl⟩)
    · simp only [Net.has, h0, decide_true, Bool.true_and, hwl]
    · simp [Net.has, h0]
  intro K10 hK10
  have hfin : ∀ (bad : Bool) (w1 : World), Ext w9 w1 → bad = (n.weights.any (fun w => decide (w < 1) || decide (1073741824 < w)) || n.ways.any (fun w => !n.has w.1 || !n.has w.2) || (n.frm ++ n.to).any (fun v => !n.has v)) → K10 bad w1 := by
    intro bad w1 hx hbad
    refine hK10 _ _ (sp_of (fun hno => ⟨_, _, _, (hc5 hx).1, ?_, h9.ext.trans hx⟩) (fun hyes => ⟨?_, h9.ext.trans hx⟩))
    · have : bad = false := by simpa using hno
      unfold Net.right
      rw [← hbad, this, hwl]
      simp
    · have : bad = true := by simpa using hyes
      unfold Net.right
      rw [← hbad, this]
      simp
  refine ⟨_, _, _, (hc5 (Ext.refl _)).1, ?_⟩
  refine (hasI64_w (f := .func (.func 67) ⟨[]⟩ ⟨[]⟩) (fun w => decide (w < 1) || decide (1073741824 < w)) (RdI.ext hw h9.ext) fun x _ w1 hx => ⟨by kernel_rfl, F67_ok x (sp_dec (fun h0 => ⟨by simp [h0], Ext.refl _⟩) (fun h0 => ⟨by simp [h0], Ext.refl _⟩))⟩).mono ?_
  rintro v w16 ⟨rfl, hx16⟩
  refine ⟨_, rfl, sp_of (fun hy1 => hfin _ _ hx16 (by rw [hy1]; rfl)) (fun hn1 => ?_)⟩
  refine ⟨_, _, _, (hc5 hx16).2.1, ?_⟩
  refine (hasTwo_w (fun w => !n.has w.1 || !n.has w.2) (RdTwo.ext hy (h9.ext.trans hx16)) fun x _ vs w1 hR hx1 => ?_).mono ?_
  · obtain rfl := hR
    have hx9 := hx16.trans hx1
    refine ⟨by kernel_rfl, F69_ok x.1 x.2 b7 0 ?_⟩
    unfold F69
    refine alp (Hp.refl w1) fun bx w2 h2 => ⟨_, h2.ext.cel (hc5 hx9).2.2.2.2, by omega, by omega, _, h2.cl 0 rfl rfl, (hin x.1 w2 (hx9.trans h2.ext)).mono ?_⟩
    rintro v w3 ⟨rfl, rfl⟩
    refine ⟨_, rfl, sp_of (fun hno => ⟨by rw [hno]; rfl, h2.ext⟩) (fun hyes => ?_)⟩
    refine ⟨_, h2.ext.cel (hc5 hx9).2.2.2.2, by omega, by omega, _, h2.cl 0 rfl rfl, (hin x.2 w3 (hx9.trans h2.ext)).mono ?_⟩
    rintro v w4 ⟨rfl, rfl⟩
    exact ⟨_, rfl, by rw [hyes]; rfl, h2.ext⟩
  rintro v w20 ⟨rfl, hx20⟩
  have hx920 := hx16.trans hx20
  refine ⟨_, rfl, sp_of (fun hy1 => hfin _ _ hx920 (by rw [hy1, hn1]; rfl)) (fun hn2 => ?_)⟩
  refine ⟨_, _, _, (hc5 hx920).2.2.1, _, _, _, (hc5 hx920).2.2.2.1, ?_⟩
  refine alp (Hp.refl w20) fun b24 w25 h25 => ?_
  have hx925 := hx920.trans h25.ext
  have hrows : RdII w25 (some ⟨b24, 0, none⟩) 2 [n.frm, n.to] := by
    refine ⟨rfl, by simp only [maxLen]; omega, fun i x hi => ?_⟩
    match i, hi with
    | 0, hi => cases hi; exact ⟨b24, 0, [.slice af nf cf], rfl, fun k v hk => by
        cases k with
        | zero => cases hk; exact h25.cl 0 rfl rfl
        | succ k => simp at hk, rfl, af, nf, cf, rfl, hf.ext (h9.ext.trans hx925)⟩
    | 1, hi => cases hi; exact ⟨b24, 0, [.slice at_ nt ct], rfl, fun k v hk => by
        cases k with
        | zero => cases hk; exact h25.cl 0 rfl rfl
        | succ k => simp at hk, rfl, at_, nt, ct, rfl, ht.ext (h9.ext.trans hx925)⟩
    | k + 2, hi => simp at hi
  refine (concat_w hrows (by simp; omega)).mono ?_
  rintro v w27 ⟨a', c', r, rfl, hs, h27⟩
  have hx927 := hx925.trans h27.ext
  refine ⟨_, _, _, rfl, ?_⟩
  have hfl : ([n.frm, n.to] : List (List Int)).flatten = n.frm ++ n.to := by simp
  rw [hfl] at hs h27 ⊢
  have hrd : RdI w27 a' (n.frm ++ n.to).length (n.frm ++ n.to) := rdI_owns (e := 3) hs fun p hp => (h27.own p hp).2
  refine (hasInt_w (fun v => !n.has v) hrd fun x _ w1 hx1 => ?_).mono ?_
  · refine ⟨by kernel_rfl, F71_ok x b7 0 ⟨_, (hc5 (hx927.trans hx1)).2.2.2.2, (hin x w1 (hx927.trans hx1)).mono ?_⟩⟩
    rintro v w2 ⟨rfl, rfl⟩
    exact ⟨_, rfl, rfl, Ext.refl _⟩
  rintro v w30 ⟨rfl, hx30⟩
  exact ⟨_, rfl, hfin _ _ (hx927.trans hx30) (by rw [hn1, hn2]; rfl)⟩
end Go.Pl.Try

/- What '(*palings/cut.flow).add' does, read off its translation by gen.py. -/
namespace Go.Pl.Try
set_option linter.unusedVariables false
set_option maxRecDepth 100000
def F79 (x1 : Option Addr) (x2 : Int) (x3 : Int) (x4 : Int) (w : World) (R : Value → World → Prop) : Prop :=
  ∃ X5 : Nat → Prop,
  ptAt x1 fun b6 o7 =>
  ¬ X5 b6 ∧
  ∃ (ax8 : Option Addr) (nx8 cx8 : Nat), cel w.drew b6 (o7 + 1) = some (.slice ax8 nx8 cx8) ∧
  ptAt x1 fun b9 o10 =>
  ¬ X5 b9 ∧
  ∃ (ax11 : Option Addr) (nx11 cx11 : Nat), cel w.drew b9 (o10 + 1) = some (.slice ax11 nx11 cx11) ∧
  0 ≤ (x2 : Int) ∧ (x2 : Int) < (nx11 : Nat) ∧
  ptAt ax11 fun b12 o13 =>
  ¬ X5 b12 ∧
  ∃ (ax14 : Option Addr) (nx14 cx14 : Nat), cel w.drew b12 (o13 + x2.toNat * 1) = some (.slice ax14 nx14 cx14) ∧
  ptAt x1 fun b15 o16 =>
  ¬ X5 b15 ∧
  ∃ (ax17 : Option Addr) (nx17 cx17 : Nat), cel w.drew b15 o16 = some (.slice ax17 nx17 cx17) ∧
  AlP 3 [.int .i64 (nx17 : Nat)] w.drew fun b18 w19 =>
  ExtX X5 w.drew w19 ∧
  ∃ (ax20 : Option Addr) (nx20 cx20 : Nat), ∃ w21 : World, Sem.run Pg (Builtin.append_ #[34, 34] 34 ⟨[.slice ax14 nx14 cx14, .slice (some ⟨b18, 0, none⟩) 1 1]⟩) w19 = .ok (.slice ax20 nx20 cx20) w21 ∧
  ExtX X5 w.drew w21 ∧
  0 ≤ (x2 : Int) ∧ (x2 : Int) < (nx8 : Nat) ∧
  ptAt ax8 fun b22 o23 =>
  StP b22 (o23 + x2.toNat * 1) [.slice ax20 nx20 cx20] w21 fun w24 =>
  ptAt x1 fun b25 o26 =>
  ∃ (ax27 : Option Addr) (nx27 cx27 : Nat), cel w24 b25 o26 = some (.slice ax27 nx27 cx27) ∧
  AlP 156 [.int .i64 x3, .int .i64 x4] w24 fun b28 w29 =>
  ∃ (ax30 : Option Addr) (nx30 cx30 : Nat), ∃ w31 : World, Sem.run Pg (Builtin.append_ #[151, 151] 151 ⟨[.slice ax27 nx27 cx27, .slice (some ⟨b28, 0, none⟩) 1 1]⟩) w29 = .ok (.slice ax30 nx30 cx30) w31 ∧
  ptAt x1 fun b32 o33 =>
  StP b32 o33 [.slice ax30 nx30 cx30] w31 fun w34 =>
  ∃ X35 : Nat → Prop,
  ptAt x1 fun b36 o37 =>
  ¬ X35 b36 ∧
  ∃ (ax38 : Option Addr) (nx38 cx38 : Nat), cel w34.drew b36 (o37 + 1) = some (.slice ax38 nx38 cx38) ∧
  ptAt x1 fun b39 o40 =>
  ¬ X35 b39 ∧
  ∃ (ax41 : Option Addr) (nx41 cx41 : Nat), cel w34.drew b39 (o40 + 1) = some (.slice ax41 nx41 cx41) ∧
  0 ≤ (x3 : Int) ∧ (x3 : Int) < (nx41 : Nat) ∧
  ptAt ax41 fun b42 o43 =>
  ¬ X35 b42 ∧
  ∃ (ax44 : Option Addr) (nx44 cx44 : Nat), cel w34.drew b42 (o43 + x3.toNat * 1) = some (.slice ax44 nx44 cx44) ∧
  ptAt x1 fun b45 o46 =>
  ¬ X35 b45 ∧
  ∃ (ax47 : Option Addr) (nx47 cx47 : Nat), cel w34.drew b45 o46 = some (.slice ax47 nx47 cx47) ∧
  AlP 3 [.int .i64 (nx47 : Nat)] w34.drew fun b48 w49 =>
  ExtX X35 w34.drew w49 ∧
  ∃ (ax50 : Option Addr) (nx50 cx50 : Nat), ∃ w51 : World, Sem.run Pg (Builtin.append_ #[34, 34] 34 ⟨[.slice ax44 nx44 cx44, .slice (some ⟨b48, 0, none⟩) 1 1]⟩) w49 = .ok (.slice ax50 nx50 cx50) w51 ∧
  ExtX X35 w34.drew w51 ∧
  0 ≤ (x3 : Int) ∧ (x3 : Int) < (nx38 : Nat) ∧
  ptAt ax38 fun b52 o53 =>
  StP b52 (o53 + x3.toNat * 1) [.slice ax50 nx50 cx50] w51 fun w54 =>
  ptAt x1 fun b55 o56 =>
  ∃ (ax57 : Option Addr) (nx57 cx57 : Nat), cel w54 b55 o56 = some (.slice ax57 nx57 cx57) ∧
  AlP 156 [.int .i64 x2, .int .i64 0] w54 fun b58 w59 =>
  ∃ (ax60 : Option Addr) (nx60 cx60 : Nat), ∃ w61 : World, Sem.run Pg (Builtin.append_ #[151, 151] 151 ⟨[.slice ax57 nx57 cx57, .slice (some ⟨b58, 0, none⟩) 1 1]⟩) w59 = .ok (.slice ax60 nx60 cx60) w61 ∧
  ptAt x1 fun b62 o63 =>
  StP b62 o63 [.slice ax60 nx60 cx60] w61 fun w64 =>
  R (.tuple ⟨[]⟩) w64
def T79 : List Sh := [.v (.one .ptr), .v (.one (.int .i64)), .v (.one (.int .i64)), .v (.one (.int .i64)), .v (.one .any), .v (.one .any), .v (.one .any), .v (.one .any), .v (.one .ptr), .v (.one .ptr), .v (.one .ptr), .v (.one .sl), .v (.one (.int .i64)), .v (.one .ptr), .v (.one .ptr), .v (.one .ptr), .v (.one .sl), .v (.one (.int .i64)), .v (.one .ptr), .v (.one .sl), .v (.one .ptr), .v (.one .ptr), .v (.one .ptr), .v (.one .sl), .v (.one (.int .i64)), .v (.one .sl), .v (.one .sl), .v (.one .ptr), .v (.one .ptr), .v (.one .ptr), .v (.one .ptr), .v (.one .ptr), .v (.one .sl), .v (.one (.int .i64)), .v (.one (.int .i64)), .v (.agg [(.int .i64), (.int .i64)]), .v (.one .sl), .v (.one .sl), .v (.one .ptr), .v (.one .ptr), .v (.one .ptr), .v (.one .ptr), .v (.one .ptr), .v (.one .sl), .v (.one (.int .i64)), .v (.one .ptr), .v (.one .ptr), .v (.one .ptr), .v (.one .sl), .v (.one (.int .i64)), .v (.one .ptr), .v (.one .sl), .v (.one .ptr), .v (.one .ptr), .v (.one .ptr), .v (.one .sl), .v (.one (.int .i64)), .v (.one .sl), .v (.one .sl), .v (.one .ptr), .v (.one .ptr), .v (.one .ptr), .v (.one .ptr), .v (.one .ptr), .v (.one .sl), .v (.one (.int .i64)), .v (.agg [(.int .i64), (.int .i64)]), .v (.one .sl), .v (.one .sl), .v (.one .ptr), .v (.one .ptr)]
def A79 : Ann := (.seq none (.drt true [0, 0, 0, 1, 0, 0, 0, 0, 1, 0, 0, 1, 0, 0, 0, 1, 0, 2, 2, 0, 3] (.op 0 (.op 1 (.op 2 (.op 3 (.op 4 (.op 5 (.op 6 (.op 7 (.op 8 (.op 9 (.op 10 (.op 11 (.op 12 (.op 13 (.op 14 (.op 15 (.op 16 (.op 17 (.op 18 (.op 19 (.op 20 .nil)))))))))))))))))))))) (.seq none .z (.seq none (.drt true [0, 0, 0, 1, 0, 0, 0, 0, 1, 0, 0, 1, 0, 0, 0, 1, 0, 2, 2, 0, 3] (.op 0 (.op 1 (.op 2 (.op 3 (.op 4 (.op 5 (.op 6 (.op 7 (.op 8 (.op 9 (.op 10 (.op 11 (.op 12 (.op 13 (.op 14 (.op 15 (.op 16 (.op 17 (.op 18 (.op 19 (.op 20 .nil)))))))))))))))))))))) .z)))
theorem F79_eq (x1 : Option Addr) (x2 : Int) (x3 : Int) (x4 : Int) (w : World) (R : Value → World → Prop) : F79 x1 x2 x3 x4 w R = denF Go.Proofs.Try.prog T79 Go.Proofs.Try.f79 A79 [.pointer x1, .int .i64 x2, .int .i64 x3, .int .i64 x4] w R := by kernel_rfl
theorem F79_ok (x1 : Option Addr) (x2 : Int) (x3 : Int) (x4 : Int) {w : World} {R : Value → World → Prop} (h : F79 x1 x2 x3 x4 w R) : CallP Go.Proofs.Try.prog 79 [.pointer x1, .int .i64 x2, .int .i64 x3, .int .i64 x4] w R :=
  calls_den (fun _ => drawn (by kernel_rfl)) Go.Proofs.Try.func79 (Nat.le_of_ble_eq_true (by kernel_rfl)) ((F79_eq x1 x2 x3 x4 w R).mp h)
end Go.Pl.Try

/- What '(palings/cut.Net).make' does, read off its translation by gen.py. -/
namespace Go.Pl.Try
set_option linter.unusedVariables false
set_option maxRecDepth 100000
def F49 (ax1 : Option Addr) (nx1 cx1 : Nat) (ax2 : Option Addr) (nx2 cx2 : Nat) (ax3 : Option Addr) (nx3 cx3 : Nat) (ax4 : Option Addr) (nx4 cx4 : Nat) (w : World) (R : Value → World → Prop) : Prop :=
  AlP 62 [.slice ax1 nx1 cx1, .slice ax2 nx2 cx2, .slice ax3 nx3 cx3, .slice ax4 nx4 cx4] w fun b5 w6 =>
  ∃ (ax7 : Option Addr) (nx7 cx7 : Nat), cel w6 b5 0 = some (.slice ax7 nx7 cx7) ∧
  ∃ (ax8 : Option Addr) (nx8 cx8 : Nat), ∃ w9 : World, Sem.run Pg (Instr.makeSlice 112 (.int .i64 (IntKind.wrap .i64 ((IntKind.wrap .i64 (2 * (nx7 : Nat))) + 2))) (.int .i64 (IntKind.wrap .i64 ((IntKind.wrap .i64 (2 * (nx7 : Nat))) + 2)))) w6 = .ok (.slice ax8 nx8 cx8) w9 ∧
  AlP 153 [.slice none 0 0, .slice ax8 nx8 cx8] w9 fun b10 w11 =>
  ∃ (ax12 : Option Addr) (nx12 cx12 : Nat), cel w11 b5 0 = some (.slice ax12 nx12 cx12) ∧
  ∃ J13 : Int → World → Nat → Prop, (∃ m16, J13 0 w11 m16) ∧
  ∀ (x14 : Int), ∀ w15 m16, J13 x14 w15 m16 →
  sp (decide ((x14 : Int) < (nx12 : Nat)))
  (0 ≤ (x14 : Int) ∧ (x14 : Int) < (nx12 : Nat) ∧
  ptAt ax12 fun b18 o19 =>
  ∃ (x20 : Int), cel w15 b18 (o19 + x14.toNat * 1) = some (.int .i64 x20) ∧
  CallP Pg 79 [.pointer (some ⟨b10, 0, none⟩), .int .i64 (IntKind.wrap .i64 (2 * x14)), .int .i64 (IntKind.wrap .i64 ((IntKind.wrap .i64 (2 * x14)) + 1)), .int .i64 x20] w15 fun v21 w22 => v21 = .tuple ⟨[]⟩ ∧
  ∃ m17, m17 < m16 ∧ J13 (IntKind.wrap .i64 (x14 + 1)) w22 m17)
  (∃ (ax23 : Option Addr) (nx23 cx23 : Nat), cel w15 b5 1 = some (.slice ax23 nx23 cx23) ∧
  ∃ J24 : Int → World → Nat → Prop, (∃ m27, J24 0 w15 m27) ∧
  ∀ (x25 : Int), ∀ w26 m27, J24 x25 w26 m27 →
  sp (decide ((x25 : Int) < (nx23 : Nat)))
  (0 ≤ (x25 : Int) ∧ (x25 : Int) < (nx23 : Nat) ∧
  ptAt ax23 fun b29 o30 =>
  ∃ (x31 : Int) (x32 : Int), Row w26 b29 (o30 + x25.toNat * 2) [.int .i64 x31, .int .i64 x32] ∧
  AlP 84 [.int .i64 0, .int .i64 0] w26 fun b33 w34 =>
  StP b33 0 [.int .i64 x31, .int .i64 x32] w34 fun w35 =>
  0 ≤ (0 : Int) ∧ (0 : Int) < (2 : Nat) ∧
  ∃ (x36 : Int), cel w35 b33 0 = some (.int .i64 x36) ∧
  0 ≤ (1 : Int) ∧ (1 : Int) < (2 : Nat) ∧
  ∃ (x37 : Int), cel w35 b33 1 = some (.int .i64 x37) ∧
  CallP Pg 79 [.pointer (some ⟨b10, 0, none⟩), .int .i64 (IntKind.wrap .i64 ((IntKind.wrap .i64 (2 * x36)) + 1)), .int .i64 (IntKind.wrap .i64 (2 * x37)), .int .i64 1152921504606846976] w35 fun v38 w39 => v38 = .tuple ⟨[]⟩ ∧
  ∃ m28, m28 < m27 ∧ J24 (IntKind.wrap .i64 (x25 + 1)) w39 m28)
  (∃ (ax40 : Option Addr) (nx40 cx40 : Nat), cel w26 b5 2 = some (.slice ax40 nx40 cx40) ∧
  ∃ J41 : Int → World → Nat → Prop, (∃ m44, J41 0 w26 m44) ∧
  ∀ (x42 : Int), ∀ w43 m44, J41 x42 w43 m44 →
  sp (decide ((x42 : Int) < (nx40 : Nat)))
  (0 ≤ (x42 : Int) ∧ (x42 : Int) < (nx40 : Nat) ∧
  ptAt ax40 fun b46 o47 =>
  ∃ (x48 : Int), cel w43 b46 (o47 + x42.toNat * 1) = some (.int .i64 x48) ∧
  CallP Pg 79 [.pointer (some ⟨b10, 0, none⟩), .int .i64 (IntKind.wrap .i64 ((IntKind.wrap .i64 ((IntKind.wrap .i64 (2 * (nx7 : Nat))) + 2)) - 2)), .int .i64 (IntKind.wrap .i64 (2 * x48)), .int .i64 1152921504606846976] w43 fun v49 w50 => v49 = .tuple ⟨[]⟩ ∧
  ∃ m45, m45 < m44 ∧ J41 (IntKind.wrap .i64 (x42 + 1)) w50 m45)
  (∃ (ax51 : Option Addr) (nx51 cx51 : Nat), cel w43 b5 3 = some (.slice ax51 nx51 cx51) ∧
  ∃ J52 : Int → World → Nat → Prop, (∃ m55, J52 0 w43 m55) ∧
  ∀ (x53 : Int), ∀ w54 m55, J52 x53 w54 m55 →
  sp (decide ((x53 : Int) < (nx51 : Nat)))
  (0 ≤ (x53 : Int) ∧ (x53 : Int) < (nx51 : Nat) ∧
  ptAt ax51 fun b57 o58 =>
  ∃ (x59 : Int), cel w54 b57 (o58 + x53.toNat * 1) = some (.int .i64 x59) ∧
  CallP Pg 79 [.pointer (some ⟨b10, 0, none⟩), .int .i64 (IntKind.wrap .i64 ((IntKind.wrap .i64 (2 * x59)) + 1)), .int .i64 (IntKind.wrap .i64 ((IntKind.wrap .i64 ((IntKind.wrap .i64 (2 * (nx7 : Nat))) + 2)) - 1)), .int .i64 1152921504606846976] w54 fun v60 w61 => v60 = .tuple ⟨[]⟩ ∧
  ∃ m56, m56 < m55 ∧ J52 (IntKind.wrap .i64 (x53 + 1)) w61 m56)
  (R (.pointer (some ⟨b10, 0, none⟩)) w54))))
def T49 : List Sh := [.v (.agg [.sl, .sl, .sl, .sl]), .v (.one .ptr), .v (.one .ptr), .v (.one (.int .i64)), .v (.one .ptr), .v (.one (.int .i64)), .v (.one (.int .i64)), .v (.one .any), .v (.one .ptr), .v (.one .any), .v (.one (.int .i64)), .v (.one .any), .v (.one (.int .i64)), .v (.one .ptr), .v (.one .sl), .v (.one (.int .i64)), .v (.one (.int .i64)), .v (.one (.int .i64)), .v (.one (.int .i64)), .v (.one .sl), .v (.agg [.sl, .sl]), .v (.one .ptr), .v (.one .ptr), .v (.one .sl), .v (.one (.int .i64)), .v (.one (.int .i64)), .v (.one .bool), .v (.one (.int .i64)), .v (.one .ptr), .v (.one (.int .i64)), .v (.one .ptr), .v (.one (.int .i64)), .v (.one (.int .i64)), .v (.one (.int .i64)), .v (.one (.int .i64)), .v (.one (.int .i64)), .v (.one (.int .i64)), .t [], .v (.one (.int .i64)), .v (.one .ptr), .v (.one .sl), .v (.one (.int .i64)), .v (.one (.int .i64)), .v (.one .bool), .v (.one .ptr), .v (.agg [(.int .i64), (.int .i64)]), .v (.one .ptr), .v (.one .ptr), .v (.one (.int .i64)), .v (.one (.int .i64)), .v (.one (.int .i64)), .v (.one .ptr), .v (.one (.int .i64)), .v (.one (.int .i64)), .t [], .v (.one (.int .i64)), .v (.one .ptr), .v (.one .sl), .v (.one (.int .i64)), .v (.one (.int .i64)), .v (.one .bool), .v (.one .ptr), .v (.one (.int .i64)), .v (.one .ptr), .v (.one (.int .i64)), .v (.one (.int .i64)), .v (.one (.int .i64)), .v (.one (.int .i64)), .t [], .v (.one (.int .i64)), .v (.one .ptr), .v (.one .sl), .v (.one (.int .i64)), .v (.one (.int .i64)), .v (.one .bool), .v (.one .ptr), .v (.one (.int .i64)), .v (.one .ptr), .v (.one (.int .i64)), .v (.one (.int .i64)), .v (.one (.int .i64)), .v (.one (.int .i64)), .v (.one (.int .i64)), .t [], .v (.one (.int .i64)), .v (.one .ptr)]
def A49 : Ann := (.seq none .z (.seq none .z (.seq none .z (.seq none (.seq none .z (.block none (.loop [25] (.seq none .z (.seq none (.cond .z .z) (.seq none (.block none (.seq none .z .z)) .z)))))) (.seq none (.seq none .z (.block none (.loop [42] (.seq none .z (.seq none (.cond .z .z) (.seq none (.block none (.seq none .z .z)) .z)))))) (.seq none (.seq none .z (.block none (.loop [59] (.seq none .z (.seq none (.cond .z .z) (.seq none (.block none (.seq none .z .z)) .z)))))) (.seq none (.seq none .z (.block none (.loop [73] (.seq none .z (.seq none (.cond .z .z) (.seq none (.block none (.seq none .z .z)) .z)))))) (.seq none .z .z))))))))
theorem F49_eq (ax1 : Option Addr) (nx1 cx1 : Nat) (ax2 : Option Addr) (nx2 cx2 : Nat) (ax3 : Option Addr) (nx3 cx3 : Nat) (ax4 : Option Addr) (nx4 cx4 : Nat) (w : World) (R : Value → World → Prop) : F49 ax1 nx1 cx1 ax2 nx2 cx2 ax3 nx3 cx3 ax4 nx4 cx4 w R = denF Go.Proofs.Try.prog T49 Go.Proofs.Try.f49 A49 [.agg ⟨[.slice ax1 nx1 cx1, .slice ax2 nx2 cx2, .slice ax3 nx3 cx3, .slice ax4 nx4 cx4]⟩] w R := by kernel_rfl
theorem F49_ok (ax1 : Option Addr) (nx1 cx1 : Nat) (ax2 : Option Addr) (nx2 cx2 : Nat) (ax3 : Option Addr) (nx3 cx3 : Nat) (ax4 : Option Addr) (nx4 cx4 : Nat) {w : World} {R : Value → World → Prop} (h : F49 ax1 nx1 cx1 ax2 nx2 cx2 ax3 nx3 cx3 ax4 nx4 cx4 w R) : CallP Go.Proofs.Try.prog 49 [.agg ⟨[.slice ax1 nx1 cx1, .slice ax2 nx2 cx2, .slice ax3 nx3 cx3, .slice ax4 nx4 cx4]⟩] w R :=
  calls_den (fun _ => drawn (by kernel_rfl)) Go.Proofs.Try.func49 (Nat.le_of_ble_eq_true (by kernel_rfl)) ((F49_eq ax1 nx1 cx1 ax2 nx2 cx2 ax3 nx3 cx3 ax4 nx4 cx4 w R).mp h)
end Go.Pl.Try

/- Nets: the flow of a net: walked. -/
namespace Go.Pl.M
set_option linter.unusedVariables false
theorem Fl.add_arcs (f : Fl) (a b : Nat) (t : Int) : (f.add a b t).arcs.length = f.arcs.length + 2 := by simp [Fl.add]
theorem Fl.add_outs (f : Fl) (a b : Nat) (t : Int) : (f.add a b t).outs.length = f.outs.length := by simp [Fl.add, Rows.app_len]
theorem Fl.add_le (f : Fl) (a b : Nat) (t : Int) (h : ∀ l ∈ f.outs, l.length ≤ f.arcs.length) : ∀ l ∈ (f.add a b t).outs, l.length ≤ (f.add a b t).arcs.length := by
  intro l hl
  rw [Fl.add_arcs]
  exact Rows.app_le (Rows.app_le h a _) b _ l hl
end Go.Pl.M
namespace Go.Pl.Try
open M
set_option linter.unusedVariables false
structure FlM where
  bf : Nat
  bo : Nat
  sa : RowV
  ss : List RowV
def FlL (m : FlM) (f : Fl) : List (Nat × Obj) :=
  (m.bf, Cl 153 [m.sa.val, .slice (some ⟨m.bo, 0, none⟩) f.outs.length f.outs.length]) :: (m.sa.r.L 156 (twos f.arcs) ++ RO 34 3 m.bo m.ss f.outs)
structure FlOk (m : FlM) (f : Fl) : Prop where
  a : m.sa.Ok 2 (twos f.arcs)
  r : RowsOk m.ss f.outs
theorem slArcs : slT Pg 151 156 2 16 = true := by kernel_rfl
section
variable {w0 w : World} {F : List (Nat × Obj)} {m : FlM} {f : Fl}
theorem FlL.cells (h : Hp w0 w (F ++ FlL m f)) : cel w m.bf 0 = some (.slice m.sa.a m.sa.n m.sa.c) ∧ cel w m.bf 1 = some (.slice (some ⟨m.bo, 0, none⟩) f.outs.length f.outs.length) := by
  have hL : (F ++ FlL m f)[F.length]? = some (m.bf, Cl 153 [m.sa.val, .slice (some ⟨m.bo, 0, none⟩) f.outs.length f.outs.length]) := by rw [List.getElem?_append_right (Nat.le_refl _), Nat.sub_self]; rfl
  exact ⟨h.cl F.length hL rfl, h.cl F.length hL rfl⟩
theorem add_half (h : Hp w0 w (F ++ FlL m f)) (hok : FlOk m f) {i : Nat} (hi : i < f.outs.length) (hal : f.arcs.length ≤ 4398046511104) (hrl : ∀ l ∈ f.outs, l.length ≤ 4398046511104) (x3 x4 : Int) {K : World → Prop}
    (k : ∀ w' m', m'.bf = m.bf → m'.bo = m.bo → Hp w0 w' (F ++ FlL m' ⟨f.arcs ++ [(x3, x4)], Rows.app f.outs i (f.arcs.length : Nat)⟩) → FlOk m' ⟨f.arcs ++ [(x3, x4)], Rows.app f.outs i (f.arcs.length : Nat)⟩ → K w') :
    ∃ X5 : Nat → Prop,
    ptAt (some ⟨m.bf, 0, none⟩) fun b6 o7 =>
    ¬ X5 b6 ∧
    ∃ (ax8 : Option Addr) (nx8 cx8 : Nat), cel w.drew b6 (o7 + 1) = some (.slice ax8 nx8 cx8) ∧
    ptAt (some ⟨m.bf, 0, none⟩) fun b9 o10 =>
    ¬ X5 b9 ∧
    ∃ (ax11 : Option Addr) (nx11 cx11 : Nat), cel w.drew b9 (o10 + 1) = some (.slice ax11 nx11 cx11) ∧
    0 ≤ (i : Int) ∧ (i : Int) < (nx11 : Nat) ∧
    ptAt ax11 fun b12 o13 =>
    ¬ X5 b12 ∧
    ∃ (ax14 : Option Addr) (nx14 cx14 : Nat), cel w.drew b12 (o13 + (i : Int).toNat * 1) = some (.slice ax14 nx14 cx14) ∧
    ptAt (some ⟨m.bf, 0, none⟩) fun b15 o16 =>
    ¬ X5 b15 ∧
    ∃ (ax17 : Option Addr) (nx17 cx17 : Nat), cel w.drew b15 o16 = some (.slice ax17 nx17 cx17) ∧
    AlP 3 [.int .i64 (nx17 : Nat)] w.drew fun b18 w19 =>
    ExtX X5 w.drew w19 ∧
    ∃ (ax20 : Option Addr) (nx20 cx20 : Nat), ∃ w21 : World, Sem.run Pg (Builtin.append_ #[34, 34] 34 ⟨[.slice ax14 nx14 cx14, .slice (some ⟨b18, 0, none⟩) 1 1]⟩) w19 = .ok (.slice ax20 nx20 cx20) w21 ∧
    ExtX X5 w.drew w21 ∧
    0 ≤ (i : Int) ∧ (i : Int) < (nx8 : Nat) ∧
    ptAt ax8 fun b22 o23 =>
    StP b22 (o23 + (i : Int).toNat * 1) [.slice ax20 nx20 cx20] w21 fun w24 =>
    ptAt (some ⟨m.bf, 0, none⟩) fun b25 o26 =>
    ∃ (ax27 : Option Addr) (nx27 cx27 : Nat), cel w24 b25 o26 = some (.slice ax27 nx27 cx27) ∧
    AlP 156 [.int .i64 x3, .int .i64 x4] w24 fun b28 w29 =>
    ∃ (ax30 : Option Addr) (nx30 cx30 : Nat), ∃ w31 : World, Sem.run Pg (Builtin.append_ #[151, 151] 151 ⟨[.slice ax27 nx27 cx27, .slice (some ⟨b28, 0, none⟩) 1 1]⟩) w29 = .ok (.slice ax30 nx30 cx30) w31 ∧
    ptAt (some ⟨m.bf, 0, none⟩) fun b32 o33 =>
    StP b32 o33 [.slice ax30 nx30 cx30] w31 fun w34 => K w34 := by
  obtain ⟨l, hl⟩ := at_some hi
  obtain ⟨s, hs, hsok, hsn⟩ := hok.r.get hl
  have hll := hrl l (List.mem_of_getElem? hl)
  have han := okN2 hok.a
  obtain ⟨S, hS⟩ : ∃ S : Nat × Obj, S = (m.bf, Cl 153 [m.sa.val, .slice (some ⟨m.bo, 0, none⟩) f.outs.length f.outs.length]) := ⟨_, rfl⟩
  have hA : Hp w0 w.drew ((F ++ S :: m.sa.r.L 156 (twos f.arcs)) ++ RO 34 3 m.bo m.ss f.outs) := by subst hS; simpa [FlL] using h.drew
  obtain ⟨FX, hFX⟩ : ∃ FX : List (Nat × Obj), FX = (m.bo, Cl 34 (m.ss.map RowV.val)) :: S :: m.sa.r.L 156 (twos f.arcs) := ⟨_, rfl⟩
  have xs : ¬ Xf w0 FX m.bf := by subst hFX hS; exact Xf.at_ (i := 1) rfl
  have xo : ¬ Xf w0 FX m.bo := by subst hFX; exact Xf.at_ (i := 0) rfl
  have hsub : ∀ p ∈ FX, p ∈ (F ++ S :: m.sa.r.L 156 (twos f.arcs)) ++ RO 34 3 m.bo m.ss f.outs := by
    intro p hp
    subst hFX
    simp only [RO, List.mem_cons, List.mem_append] at hp ⊢
    rcases hp with h | h | h <;> simp [h]
  have hcs := FlL.cells h.drew
  refine ⟨Xf w0 FX, ptAt_of rfl ⟨xs, _, _, _, hcs.2, ptAt_of rfl ⟨xs, _, _, _, hcs.2, by omega, by omega, ptAt_of rfl ⟨xo, _, _, _, RO.cel hA hs, ptAt_of rfl ⟨xs, _, _, _, hcs.1, ?_⟩⟩⟩⟩⟩
  refine alp hA fun b18 w19 h19 => ⟨hA.xf h19 hsub (fun p hp => List.mem_cons_of_mem _ (hsub p hp)), ?_⟩
  obtain ⟨s', w21, hrun, hr', h21, hst⟩ := RO.app (F := (b18, Cl 3 [.int .i64 (m.sa.n : Nat)]) :: (F ++ S :: m.sa.r.L 156 (twos f.arcs))) (ty := 34) slInts hok.r h19 hs hl (k := 0) rfl (by simp only [maxLen]; omega) (by omega)
  refine ⟨_, _, _, w21, hrun, hA.xf h21 hsub (fun p hp => ?_), by omega, by omega, ptAt_of rfl (hst fun w24 h24 => ?_)⟩
  · subst hFX
    simp only [List.mem_cons, List.mem_append] at hp ⊢
    rcases hp with h | h | h <;> simp [h]
  have h24 := h24.drop 1
  rw [han] at h24 hr'
  have hB : Hp w0 w24 (F ++ S :: (m.sa.r.L 156 (twos f.arcs) ++ RO 34 3 m.bo (m.ss.set i s') (f.outs.set i (l ++ [((f.arcs.length : Nat) : Int)])))) := by simpa using h24
  have hcS : cel w24 m.bf 0 = some (.slice m.sa.a m.sa.n m.sa.c) := by
    subst hS
    exact hB.cl F.length (by rw [List.getElem?_append_right (Nat.le_refl _), Nat.sub_self]; rfl) rfl
  refine ptAt_of rfl ⟨_, _, _, hcS, ?_⟩
  refine alp hB fun b28 w29 h29 => ?_
  obtain ⟨a', c', w31, r', hrun2, hs2, h31⟩ := app1 (ty := 151) slArcs (by omega) hok.a ((b28, Cl 156 [.int .i64 x3, .int .i64 x4]) :: (F ++ [S]))
    (L := RO 34 3 m.bo (m.ss.set i s') (f.outs.set i (l ++ [((f.arcs.length : Nat) : Int)]))) (by simpa using h29) 0 rfl rfl rfl (by simp only [maxLen]; omega) (by omega)
  have ht : twos f.arcs ++ [.int .i64 x3, .int .i64 x4] = twos (f.arcs ++ [(x3, x4)]) := by simp [twos]
  rw [ht] at hs2 h31
  refine ⟨_, _, _, w31, hrun2, ptAt_of rfl ?_⟩
  have h31 : Hp w0 w31 ((b28, Cl 156 [.int .i64 x3, .int .i64 x4]) :: (F ++ S :: (r'.L 156 (twos (f.arcs ++ [(x3, x4)])) ++ RO 34 3 m.bo (m.ss.set i s') (f.outs.set i (l ++ [((f.arcs.length : Nat) : Int)]))))) := by simpa using h31
  have h31 := h31.drop 1
  rw [hS] at h31
  refine stp h31 F.length (b := m.bf) (by rw [List.drop_succ_cons, List.drop_zero, List.getElem?_append_right (Nat.le_refl _), Nat.sub_self]; rfl) (by simp) rfl fun w34 h34 => ?_
  rw [List.drop_succ_cons, List.drop_zero, List.set_append_right _ _ (Nat.le_refl _), Nat.sub_self, List.set_cons_zero] at h34
  have happ := Rows.app_at hl ((f.arcs.length : Nat) : Int)
  refine k w34 ⟨m.bf, m.bo, ⟨a', m.sa.n + 1, c', r'⟩, m.ss.set i s'⟩ rfl rfl ?_ ⟨hs2, by rw [happ]; exact hr'⟩
  unfold FlL
  rw [happ]
  simp only [List.length_set]
  exact h34
theorem add_w (h : Hp w0 w (F ++ FlL m f)) (hok : FlOk m f) {a b : Nat} (ha : a < f.outs.length) (hb : b < f.outs.length) (hal : f.arcs.length ≤ 2199023255552) (hrl : ∀ l ∈ f.outs, l.length ≤ f.arcs.length) (t : Int) :
    CallP Pg 79 [.pointer (some ⟨m.bf, 0, none⟩), .int .i64 a, .int .i64 b, .int .i64 t] w fun u w' => u = .tuple ⟨[]⟩ ∧ ∃ m', m'.bf = m.bf ∧ m'.bo = m.bo ∧ Hp w0 w' (F ++ FlL m' (f.add a b t)) ∧ FlOk m' (f.add a b t) := by
  refine F79_ok _ _ _ _ ?_
  unfold F79
  refine add_half h hok ha (by omega) (fun l hl => by have := hrl l hl; omega) b t fun w' m1 hb1 hb2 h1 ok1 => ?_
  rw [← hb1]
  refine add_half h1 ok1 (i := b) (by simp only [Rows.app_len]; exact hb) (by simp; omega) (fun l hl => by have := Rows.app_le hrl a _ l hl; omega) a 0 fun w2 m2 hb3 hb4 h2 ok2 => ?_
  simp only [List.length_append, List.length_cons, List.length_nil, Nat.zero_add] at h2 ok2
  exact ⟨rfl, m2, hb3, hb4.trans hb2, h2, ok2⟩
end
theorem make_w {w : World} {n : Net} {vs : List Value} (h : RNet w vs n) (hr : n.right = true) (hb : n.ways.length ≤ 68719476736 ∧ n.frm.length ≤ 68719476736 ∧ n.to.length ≤ 68719476736) :
    CallP Pg 49 [.agg ⟨vs⟩] w fun u w' => ∃ m, u = .pointer (some ⟨m.bf, 0, none⟩) ∧ Hp w w' (FlL m n.mk') ∧ FlOk m n.mk' := by
  obtain ⟨aw, nw, cw, ay, ny, cy, af, nf, cf, at_, nt, ct, rfl, hw, hy, hf, ht⟩ := h
  have hwl := hw.len
  have hyl := hy.len
  have hfl := hf.len
  have htl := ht.len
  obtain ⟨hb1, hb2, hb3⟩ := hb
  unfold Net.right at hr
  simp only [Bool.and_eq_true, Bool.not_eq_true', Bool.or_eq_false_iff, decide_eq_true_eq, List.any_eq_false, Bool.or_eq_true] at hr
  obtain ⟨⟨⟨hr1, hr2⟩, hr3⟩, hr4⟩ := hr
  have hin : ∀ v, n.has v = true → 0 ≤ v ∧ v < (nw : Nat) := by
    intro v hv
    unfold Net.has at hv
    simp only [Bool.and_eq_true, decide_eq_true_eq] at hv
    omega
  have hyin : ∀ x ∈ n.ways, (0 ≤ x.1 ∧ x.1 < (nw : Nat)) ∧ (0 ≤ x.2 ∧ x.2 < (nw : Nat)) := by
    intro x hx
    have := hr2 x hx
    simp only [Bool.not_eq_true', not_or, Bool.not_eq_false] at this
    exact ⟨hin _ this.1, hin _ this.2⟩
  have hfin : ∀ v ∈ n.frm, 0 ≤ v ∧ v < (nw : Nat) := fun v hv => hin v (by have := hr3 v (by simp [hv]); simpa using this)
  have htin : ∀ v ∈ n.to, 0 ≤ v ∧ v < (nw : Nat) := fun v hv => hin v (by have := hr3 v (by simp [hv]); simpa using this)
  have hn2 : nw ≤ 2000 := by omega
  have hall : n.all = 2 * nw + 2 := by rw [Net.all, hwl]
  refine F49_ok _ _ _ _ _ _ _ _ _ _ _ _ ?_
  unfold F49
  refine alp (Hp.refl w) fun b5 w6 h6 => ⟨_, _, _, h6.cl 0 rfl rfl, ?_⟩
  have e1 : IntKind.wrap .i64 (2 * (nw : Nat) : Int) = ((2 * nw : Nat) : Int) := by rw [wrap_in (by omega) (by omega)]; omega
  have e2 : IntKind.wrap .i64 (((2 * nw : Nat) : Int) + 2) = ((2 * nw + 2 : Nat) : Int) := by rw [wrap_in (by omega) (by omega)]; omega
  have e3 : IntKind.wrap .i64 (((2 * nw + 2 : Nat) : Int) - 2) = ((2 * nw + 2 - 2 : Nat) : Int) := by rw [wrap_in (by omega) (by omega)]; omega
  have e4 : IntKind.wrap .i64 (((2 * nw + 2 : Nat) : Int) - 1) = ((2 * nw + 2 - 1 : Nat) : Int) := by rw [wrap_in (by omega) (by omega)]; omega
  rw [e1, e2, e3, e4]
  obtain ⟨bo, w9, hm, h9⟩ := make_run slIntss zIntss h6 (2 * nw + 2) (by omega) (by simp only [maxLen]; omega)
  refine ⟨_, _, _, w9, hm, ?_⟩
  refine alp h9 fun b10 w11 h11 => ?_
  obtain ⟨N, hN⟩ : ∃ N : Nat × Obj, N = (b5, Cl 62 [.slice aw nw cw, .slice ay ny cy, .slice af nf cf, .slice at_ nt ct]) := ⟨_, rfl⟩
  obtain ⟨f0, hf0⟩ : ∃ f : Fl, f = ⟨[], List.replicate n.all []⟩ := ⟨_, rfl⟩
  have h11 : Hp w w11 ([N] ++ FlL ⟨b10, bo, .emp, List.replicate n.all RowV.emp⟩ f0) := by
    refine Hp.perm (L := [(b10, Cl 153 [.slice none 0 0, .slice (some ⟨bo, 0, none⟩) (2 * nw + 2) (2 * nw + 2)]), (bo, Cl 34 (List.replicate (2 * nw + 2) (.slice none 0 0))), N]) (by subst hN; exact h11) ?_
    have : FlL ⟨b10, bo, .emp, List.replicate n.all RowV.emp⟩ f0 = [(b10, Cl 153 [.slice none 0 0, .slice (some ⟨bo, 0, none⟩) (2 * nw + 2) (2 * nw + 2)]), (bo, Cl 34 (List.replicate (2 * nw + 2) (.slice none 0 0)))] := by
      subst hf0
      unfold FlL
      rw [RO.new, hall, List.length_replicate]
      rfl
    rw [this]
    exact List.perm_append_comm (l₁ := [_, _]) (l₂ := [_])
  have hcN : ∀ {w1 : World} {L1}, Hp w w1 (N :: L1) → cel w1 b5 0 = some (.slice aw nw cw) ∧ cel w1 b5 1 = some (.slice ay ny cy) ∧ cel w1 b5 2 = some (.slice af nf cf) ∧ cel w1 b5 3 = some (.slice at_ nt ct) := by
    intro w1 L1 h1
    subst hN
    exact ⟨h1.cl 0 rfl rfl, h1.cl 0 rfl rfl, h1.cl 0 rfl rfl, h1.cl 0 rfl rfl⟩
  have hok0 : FlOk ⟨b10, bo, .emp, List.replicate n.all RowV.emp⟩ f0 := by subst hf0; exact ⟨Sls.nil 2 none, RowsOk.new _⟩
  have hle0 : ∀ l ∈ f0.outs, l.length ≤ f0.arcs.length := by subst hf0; intro l hl; rw [List.eq_of_mem_replicate hl]; exact Nat.le_refl _
  have hol0 : f0.outs.length = 2 * nw + 2 := by subst hf0; simp [hall]
  have hal0 : f0.arcs.length = 0 := by subst hf0; rfl
  obtain ⟨fin, hfin'⟩ : ∃ f, f = n.mk' := ⟨_, rfl⟩
  have hgo : mkT n.all n.to (mkF n.all n.frm (mkY n.ways (mkW n.weights 0 f0))) = fin := by rw [hfin', hf0]; rfl
  rw [← hfin', hall] at *
  clear hall
  refine ⟨_, _, _, (hcN h11).1, ?_⟩
  refine ⟨fun i w' k => ∃ (j : Nat) (m : FlM) (f : Fl), i = j ∧ j ≤ nw ∧ k = nw - j ∧ m.bf = b10 ∧ Hp w w' ([N] ++ FlL m f) ∧ FlOk m f ∧ f.outs.length = 2 * nw + 2 ∧ f.arcs.length = 2 * j ∧ (∀ l ∈ f.outs, l.length ≤ f.arcs.length) ∧ mkT (2 * nw + 2) n.to (mkF (2 * nw + 2) n.frm (mkY n.ways (mkW (n.weights.drop j) j f))) = fin,
    ⟨nw, 0, _, f0, rfl, by omega, by omega, rfl, h11, hok0, hol0, hal0, hle0, hgo⟩, ?_⟩
  clear h11 hok0 hgo
  rintro i w15 k ⟨j, m, f, rfl, hj, rfl, hmb, h15, hok, hol, hal, hle, hgo⟩
  refine sp_dec (fun hlt => ?_) (fun hge => ?_)
  · obtain ⟨x, hx⟩ := at_some (l := n.weights) (j := j) (by omega)
    rw [drop_cons hx, mkW] at hgo
    obtain ⟨bx, ox, hax, hcx⟩ := RdI.at (RdI.ext hw h15.ext) hx
    have e5 : IntKind.wrap .i64 (2 * (j : Nat) : Int) = ((2 * j : Nat) : Int) := by rw [wrap_in (by omega) (by omega)]; omega
    have e6 : IntKind.wrap .i64 (((2 * j : Nat) : Int) + 1) = ((2 * j + 1 : Nat) : Int) := by rw [wrap_in (by omega) (by omega)]; omega
    refine ⟨by omega, by omega, ptAt_of hax ⟨x, by simpa using hcx, ?_⟩⟩
    rw [e5, e6, ← hmb]
    refine (add_w h15 hok (a := 2 * j) (b := 2 * j + 1) (by omega) (by omega) (by omega) hle x).mono ?_
    rintro _ w22 ⟨rfl, m2, hb2, -, h22, hok2⟩
    exact ⟨rfl, nw - (j + 1), by omega, j + 1, m2, _, wrap_succ (by simp only [maxLen]; omega), by omega, rfl, hb2, h22, hok2, by rw [Fl.add_outs]; exact hol, by rw [Fl.add_arcs]; omega, Fl.add_le f _ _ _ hle, hgo⟩
  have hd : n.weights.drop j = [] := List.drop_of_length_le (by omega)
  rw [hd, mkW] at hgo
  refine ⟨_, _, _, (hcN h15).2.1, ?_⟩
  refine ⟨fun i w' k => ∃ (j : Nat) (m : FlM) (f : Fl), i = j ∧ j ≤ ny ∧ k = ny - j ∧ m.bf = b10 ∧ Hp w w' ([N] ++ FlL m f) ∧ FlOk m f ∧ f.outs.length = 2 * nw + 2 ∧ f.arcs.length = 2 * nw + 2 * j ∧ (∀ l ∈ f.outs, l.length ≤ f.arcs.length) ∧ mkT (2 * nw + 2) n.to (mkF (2 * nw + 2) n.frm (mkY (n.ways.drop j) f)) = fin,
    ⟨ny, 0, m, f, rfl, by omega, by omega, hmb, h15, hok, hol, by omega, hle, hgo⟩, ?_⟩
  clear h15 hok hgo hol hal hle hmb hd hge
  rintro i w26 k ⟨j, m, f, rfl, hj, rfl, hmb, h26, hok, hol, hal, hle, hgo⟩
  refine sp_dec (fun hlt => ?_) (fun hge => ?_)
  · obtain ⟨x, hx⟩ := at_some (l := n.ways) (j := j) (by omega)
    rw [drop_cons hx, mkY] at hgo
    obtain ⟨bx, ox, vs, hax, hrow, hvl, rfl⟩ := hy.at_ _ _ hx
    obtain ⟨⟨h10, h1n⟩, h20, h2n⟩ := hyin x (List.mem_of_getElem? hx)
    refine ⟨by omega, by omega, ptAt_of hax ⟨_, _, h26.ext.row hrow, ?_⟩⟩
    refine alp h26 fun b33 w34 h34 => ?_
    refine stp h34 0 rfl (by simp) rfl fun w35 h35 => ⟨by omega, by omega, _, h35.cl 0 rfl rfl, by omega, by omega, _, h35.cl 0 rfl rfl, ?_⟩
    have e5 : IntKind.wrap .i64 (2 * x.1) = ((2 * x.1.toNat : Nat) : Int) := by rw [wrap_in (by omega) (by omega)]; omega
    have e6 : IntKind.wrap .i64 (((2 * x.1.toNat : Nat) : Int) + 1) = ((2 * x.1.toNat + 1 : Nat) : Int) := by rw [wrap_in (by omega) (by omega)]; omega
    have e7 : IntKind.wrap .i64 (2 * x.2) = ((2 * x.2.toNat : Nat) : Int) := by rw [wrap_in (by omega) (by omega)]; omega
    rw [e5, e6, e7, ← hmb]
    refine (add_w (h35.drop 1) hok (a := 2 * x.1.toNat + 1) (b := 2 * x.2.toNat) (by omega) (by omega) (by omega) hle much).mono ?_
    rintro _ w22 ⟨rfl, m2, hb2, -, h22, hok2⟩
    exact ⟨rfl, ny - (j + 1), by omega, j + 1, m2, _, wrap_succ (by simp only [maxLen]; omega), by omega, rfl, hb2, h22, hok2, by rw [Fl.add_outs]; exact hol, by rw [Fl.add_arcs]; omega, Fl.add_le f _ _ _ hle, hgo⟩
  have hd : n.ways.drop j = [] := List.drop_of_length_le (by omega)
  rw [hd, mkY] at hgo
  refine ⟨_, _, _, (hcN h26).2.2.1, ?_⟩
  refine ⟨fun i w' k => ∃ (j : Nat) (m : FlM) (f : Fl), i = j ∧ j ≤ nf ∧ k = nf - j ∧ m.bf = b10 ∧ Hp w w' ([N] ++ FlL m f) ∧ FlOk m f ∧ f.outs.length = 2 * nw + 2 ∧ f.arcs.length = 2 * nw + 2 * ny + 2 * j ∧ (∀ l ∈ f.outs, l.length ≤ f.arcs.length) ∧ mkT (2 * nw + 2) n.to (mkF (2 * nw + 2) (n.frm.drop j) f) = fin,
    ⟨nf, 0, m, f, rfl, by omega, by omega, hmb, h26, hok, hol, by omega, hle, hgo⟩, ?_⟩
  clear h26 hok hgo hol hal hle hmb hd hge
  rintro i w43 k ⟨j, m, f, rfl, hj, rfl, hmb, h43, hok, hol, hal, hle, hgo⟩
  refine sp_dec (fun hlt => ?_) (fun hge => ?_)
  · obtain ⟨x, hx⟩ := at_some (l := n.frm) (j := j) (by omega)
    rw [drop_cons hx, mkF] at hgo
    obtain ⟨bx, ox, hax, hcx⟩ := RdI.at (RdI.ext hf h43.ext) hx
    obtain ⟨h10, h1n⟩ := hfin x (List.mem_of_getElem? hx)
    refine ⟨by omega, by omega, ptAt_of hax ⟨x, by simpa using hcx, ?_⟩⟩
    have e5 : IntKind.wrap .i64 (2 * x) = ((2 * x.toNat : Nat) : Int) := by rw [wrap_in (by omega) (by omega)]; omega
    rw [e5, ← hmb]
    refine (add_w h43 hok (a := 2 * nw + 2 - 2) (b := 2 * x.toNat) (by omega) (by omega) (by omega) hle much).mono ?_
    rintro _ w22 ⟨rfl, m2, hb2, -, h22, hok2⟩
    exact ⟨rfl, nf - (j + 1), by omega, j + 1, m2, _, wrap_succ (by simp only [maxLen]; omega), by omega, rfl, hb2, h22, hok2, by rw [Fl.add_outs]; exact hol, by rw [Fl.add_arcs]; omega, Fl.add_le f _ _ _ hle, hgo⟩
  have hd : n.frm.drop j = [] := List.drop_of_length_le (by omega)
  rw [hd, mkF] at hgo
  refine ⟨_, _, _, (hcN h43).2.2.2, ?_⟩
  refine ⟨fun i w' k => ∃ (j : Nat) (m : FlM) (f : Fl), i = j ∧ j ≤ nt ∧ k = nt - j ∧ m.bf = b10 ∧ Hp w w' ([N] ++ FlL m f) ∧ FlOk m f ∧ f.outs.length = 2 * nw + 2 ∧ f.arcs.length = 2 * nw + 2 * ny + 2 * nf + 2 * j ∧ (∀ l ∈ f.outs, l.length ≤ f.arcs.length) ∧ mkT (2 * nw + 2) (n.to.drop j) f = fin,
    ⟨nt, 0, m, f, rfl, by omega, by omega, hmb, h43, hok, hol, by omega, hle, hgo⟩, ?_⟩
  clear h43 hok hgo hol hal hle hmb hd hge
  rintro i w54 k ⟨j, m, f, rfl, hj, rfl, hmb, h54, hok, hol, hal, hle, hgo⟩
  refine sp_dec (fun hlt => ?_) (fun hge => ?_)
  · obtain ⟨x, hx⟩ := at_some (l := n.to) (j := j) (by omega)
    rw [drop_cons hx, mkT] at hgo
    obtain ⟨bx, ox, hax, hcx⟩ := RdI.at (RdI.ext ht h54.ext) hx
    obtain ⟨h10, h1n⟩ := htin x (List.mem_of_getElem? hx)
    refine ⟨by omega, by omega, ptAt_of hax ⟨x, by simpa using hcx, ?_⟩⟩
    have e5 : IntKind.wrap .i64 (2 * x) = ((2 * x.toNat : Nat) : Int) := by rw [wrap_in (by omega) (by omega)]; omega
    have e6 : IntKind.wrap .i64 (((2 * x.toNat : Nat) : Int) + 1) = ((2 * x.toNat + 1 : Nat) : Int) := by rw [wrap_in (by omega) (by omega)]; omega
    rw [e5, e6, ← hmb]
    refine (add_w h54 hok (a := 2 * x.toNat + 1) (b := 2 * nw + 2 - 1) (by omega) (by omega) (by omega) hle much).mono ?_
    rintro _ w22 ⟨rfl, m2, hb2, -, h22, hok2⟩
    exact ⟨rfl, nt - (j + 1), by omega, j + 1, m2, _, wrap_succ (by simp only [maxLen]; omega), by omega, rfl, hb2, h22, hok2, by rw [Fl.add_outs]; exact hol, by rw [Fl.add_arcs]; omega, Fl.add_le f _ _ _ hle, hgo⟩
  have hd : n.to.drop j = [] := List.drop_of_length_le (by omega)
  rw [hd, mkT] at hgo
  subst hgo
  exact ⟨m, by rw [hmb], h54.drop 1, hok⟩
end Go.Pl.Try

/- What '(*palings/cut.flow).seek' does, read off its translation by gen.py. -/
namespace Go.Pl.Try
set_option linter.unusedVariables false
set_option maxRecDepth 100000
def F50 (x1 : Option Addr) (w : World) (R : Value → World → Prop) : Prop :=
  ptAt x1 fun b2 o3 =>
  ∃ (ax4 : Option Addr) (nx4 cx4 : Nat), cel w b2 (o3 + 1) = some (.slice ax4 nx4 cx4) ∧
  ∃ (ax5 : Option Addr) (nx5 cx5 : Nat), ∃ w6 : World, Sem.run Pg (Instr.makeSlice 34 (.int .i64 (nx4 : Nat)) (.int .i64 (nx4 : Nat))) w = .ok (.slice ax5 nx5 cx5) w6 ∧
  ∃ J7 : Int → World → Nat → Prop, (∃ m10, J7 0 w6 m10) ∧
  ∀ (x8 : Int), ∀ w9 m10, J7 x8 w9 m10 →
  sp (decide ((x8 : Int) < (nx5 : Nat)))
  (0 ≤ (x8 : Int) ∧ (x8 : Int) < (nx5 : Nat) ∧
  ptAt ax5 fun b12 o13 =>
  StP b12 (o13 + x8.toNat * 1) [.int .i64 (-1)] w9 fun w14 =>
  ∃ m11, m11 < m10 ∧ J7 (IntKind.wrap .i64 (x8 + 1)) w14 m11)
  (ptAt x1 fun b15 o16 =>
  ∃ (ax17 : Option Addr) (nx17 cx17 : Nat), cel w9 b15 (o16 + 1) = some (.slice ax17 nx17 cx17) ∧
  0 ≤ (IntKind.wrap .i64 ((nx17 : Nat) - 2) : Int) ∧ (IntKind.wrap .i64 ((nx17 : Nat) - 2) : Int) < (nx5 : Nat) ∧
  ptAt ax5 fun b18 o19 =>
  StP b18 (o19 + (IntKind.wrap .i64 ((nx17 : Nat) - 2)).toNat * 1) [.int .i64 (-2)] w9 fun w20 =>
  AlP 3 [.int .i64 (IntKind.wrap .i64 ((nx17 : Nat) - 2))] w20 fun b21 w22 =>
  ∃ J23 : Option Addr → Nat → Nat → World → Nat → Prop, (∃ m26, J23 (some ⟨b21, 0, none⟩) 1 1 w22 m26) ∧
  ∀ (ax24 : Option Addr) (nx24 cx24 : Nat), ∀ w25 m26, J23 ax24 nx24 cx24 w25 m26 →
  sp (decide ((0 : Int) < (nx24 : Nat)))
  (0 ≤ (0 : Int) ∧ (0 : Int) < (nx24 : Nat) ∧
  ptAt ax24 fun b28 o29 =>
  ∃ (x30 : Int), cel w25 b28 o29 = some (.int .i64 x30) ∧
  ∃ (ax31 : Option Addr) (nx31 cx31 : Nat), Sem.run Pg (Instr.sliceAt 34 (.slice ax24 nx24 cx24) (some (.int .i64 1)) none none) w25 = .ok (.slice ax31 nx31 cx31) w25 ∧
  ptAt x1 fun b32 o33 =>
  ∃ (ax34 : Option Addr) (nx34 cx34 : Nat), cel w25 b32 (o33 + 1) = some (.slice ax34 nx34 cx34) ∧
  0 ≤ (x30 : Int) ∧ (x30 : Int) < (nx34 : Nat) ∧
  ptAt ax34 fun b35 o36 =>
  ∃ (ax37 : Option Addr) (nx37 cx37 : Nat), cel w25 b35 (o36 + x30.toNat * 1) = some (.slice ax37 nx37 cx37) ∧
  ∃ J38 : Option Addr → Nat → Nat → Int → World → Nat → Prop, (∃ m42, J38 ax31 nx31 cx31 0 w25 m42) ∧
  ∀ (ax39 : Option Addr) (nx39 cx39 : Nat) (x40 : Int), ∀ w41 m42, J38 ax39 nx39 cx39 x40 w41 m42 →
  sp (decide ((x40 : Int) < (nx37 : Nat)))
  (∀ K44 : Option Addr → Nat → Nat → World → Prop, (∀ (ax45 : Option Addr) (nx45 cx45 : Nat), ∀ w46, (
  ∃ m43, m43 < m42 ∧ J38 ax45 nx45 cx45 (IntKind.wrap .i64 (x40 + 1)) w46 m43) → K44 ax45 nx45 cx45 w46) →
  0 ≤ (x40 : Int) ∧ (x40 : Int) < (nx37 : Nat) ∧
  ptAt ax37 fun b47 o48 =>
  ∃ (x49 : Int), cel w41 b47 (o48 + x40.toNat * 1) = some (.int .i64 x49) ∧
  ptAt x1 fun b50 o51 =>
  ∃ (ax52 : Option Addr) (nx52 cx52 : Nat), cel w41 b50 o51 = some (.slice ax52 nx52 cx52) ∧
  0 ≤ (x49 : Int) ∧ (x49 : Int) < (nx52 : Nat) ∧
  ptAt ax52 fun b53 o54 =>
  ∃ (x55 : Int) (x56 : Int), Row w41 b53 (o54 + x49.toNat * 2) [.int .i64 x55, .int .i64 x56] ∧
  AlP 156 [.int .i64 0, .int .i64 0] w41 fun b57 w58 =>
  StP b57 0 [.int .i64 x55, .int .i64 x56] w58 fun w59 =>
  ∃ (x60 : Int), cel w59 b57 1 = some (.int .i64 x60) ∧
  sp (decide ((0 : Int) < x60))
  (∃ (x61 : Int), cel w59 b57 0 = some (.int .i64 x61) ∧
  0 ≤ (x61 : Int) ∧ (x61 : Int) < (nx5 : Nat) ∧
  ptAt ax5 fun b62 o63 =>
  ∃ (x64 : Int), cel w59 b62 (o63 + x61.toNat * 1) = some (.int .i64 x64) ∧
  sp (decide ((x64 : Int) = (-1)))
  (∃ (x65 : Int), cel w59 b57 0 = some (.int .i64 x65) ∧
  0 ≤ (x65 : Int) ∧ (x65 : Int) < (nx5 : Nat) ∧
  ptAt ax5 fun b66 o67 =>
  StP b66 (o67 + x65.toNat * 1) [.int .i64 x49] w59 fun w68 =>
  ∃ (x69 : Int), cel w68 b57 0 = some (.int .i64 x69) ∧
  AlP 3 [.int .i64 x69] w68 fun b70 w71 =>
  ∃ (ax72 : Option Addr) (nx72 cx72 : Nat), ∃ w73 : World, Sem.run Pg (Builtin.append_ #[34, 34] 34 ⟨[.slice ax39 nx39 cx39, .slice (some ⟨b70, 0, none⟩) 1 1]⟩) w71 = .ok (.slice ax72 nx72 cx72) w73 ∧
  K44 ax72 nx72 cx72 w73)
  (K44 ax39 nx39 cx39 w59))
  (K44 ax39 nx39 cx39 w59))
  (∃ m27, m27 < m26 ∧ J23 ax39 nx39 cx39 w41 m27))
  (R (.slice ax5 nx5 cx5) w25))
def T50 : List Sh := [.v (.one .ptr), .v (.one .any), .v (.one .sl), .v (.one .sl), .v (.one (.int .i64)), .v (.one (.int .i64)), .v (.one .sl), .v (.one (.int .i64)), .v (.one .any), .v (.one (.int .i64)), .v (.one .ptr), .v (.one .ptr), .v (.one .ptr), .v (.one .ptr), .v (.one .sl), .v (.one (.int .i64)), .v (.one .sl), .v (.one .sl), .v (.one (.int .i64)), .v (.one (.int .i64)), .v (.one .bool), .v (.one (.int .i64)), .v (.one .sl), .v (.one (.int .i64)), .v (.one .ptr), .v (.one (.int .i64)), .v (.one .ptr), .v (.one .ptr), .v (.one .ptr), .v (.one .sl), .v (.one (.int .i64)), .v (.one (.int .i64)), .v (.one .sl), .v (.one (.int .i64)), .v (.one .ptr), .v (.one (.int .i64)), .v (.one .sl), .v (.one .sl), .v (.one (.int .i64)), .v (.one .bool), .v (.one .sl), .v (.one .ptr), .v (.one (.int .i64)), .v (.one .sl), .v (.one .sl), .v (.one .ptr), .v (.one .ptr), .v (.one .ptr), .v (.one .sl), .v (.one (.int .i64)), .v (.one .ptr), .v (.one .sl), .v (.one (.int .i64)), .v (.one (.int .i64)), .v (.one .bool), .v (.one .ptr), .v (.one (.int .i64)), .v (.one .ptr), .v (.one .ptr), .v (.one .ptr), .v (.one .sl), .v (.one (.int .i64)), .v (.one .ptr), .v (.agg [(.int .i64), (.int .i64)]), .v (.one .ptr), .v (.one (.int .i64)), .v (.one .bool), .v (.one .bool), .v (.one .sl), .v (.one .ptr), .v (.one (.int .i64)), .v (.one .ptr), .v (.one (.int .i64)), .v (.one .bool), .v (.one .bool), .v (.one .sl), .v (.one .ptr), .v (.one (.int .i64)), .v (.one (.int .i64)), .v (.one .ptr), .v (.one .sl), .v (.one .ptr), .v (.one (.int .i64)), .v (.one .sl), .v (.one .sl), .v (.one (.int .i64)), .v (.one .sl)]
def A50 : Ann := (.seq none .z (.seq none .z (.seq none (.seq none .z (.block none (.loop [19] (.seq none .z (.seq none (.cond .z .z) (.seq none (.block none (.seq none .z .z)) .z)))))) (.seq none .z (.seq none .z (.seq none .z (.seq none (.block none (.loop [6] (.seq none (.seq none .z (.cond .z .z)) (.block none (.seq none .z (.seq none .z (.seq none .z (.block none (.loop [6, 53] (.seq none .z (.seq none (.cond .z .z) (.seq none (.block (some [6]) (.seq none .z (.seq none .z (.ifs none none (.seq none .z .z) .z)))) .z)))))))))))) (.seq none .z .z))))))))
theorem F50_eq (x1 : Option Addr) (w : World) (R : Value → World → Prop) : F50 x1 w R = denF Go.Proofs.Try.prog T50 Go.Proofs.Try.f50 A50 [.pointer x1] w R := by kernel_rfl
theorem F50_ok (x1 : Option Addr) {w : World} {R : Value → World → Prop} (h : F50 x1 w R) : CallP Go.Proofs.Try.prog 50 [.pointer x1] w R :=
  calls_den (fun _ => drawn (by kernel_rfl)) Go.Proofs.Try.func50 (Nat.le_of_ble_eq_true (by kernel_rfl)) ((F50_eq x1 w R).mp h)
end Go.Pl.Try

/- Nets: the search of a flow: walked. -/
namespace Go.Pl.Try
open M
set_option linter.unusedVariables false
theorem twos_at {l : List (Int × Int)} {i : Nat} {s : Int × Int} (h : l[i]? = some s) : ((twos l).drop (i * 2)).take 2 = [.int .i64 s.1, .int .i64 s.2] := by
  induction l generalizing i with
  | nil => simp at h
  | cons a l ih =>
    unfold twos
    rw [List.flatMap_cons]
    cases i with
    | zero => simp only [List.getElem?_cons_zero, Option.some.injEq] at h; subst h; simp
    | succ i =>
      rw [show (i + 1) * 2 = ([.int .i64 a.1, .int .i64 a.2] : List Value).length + i * 2 by simp; omega, List.drop_length_add_append]
      exact ih (by simpa using h)
section
variable {w0 w : World} {F : List (Nat × Obj)} {m : FlM} {f : Fl}
theorem FlL.arcs (h : Hp w0 w (F ++ FlL m f)) (hok : FlOk m f) : RdS 2 RTwo w m.sa.a m.sa.n f.arcs := by
  have h2 : Hp w0 w ((F ++ [(m.bf, Cl 153 [m.sa.val, .slice (some ⟨m.bo, 0, none⟩) f.outs.length f.outs.length])]) ++ (m.sa.r.L 156 (twos f.arcs) ++ RO 34 3 m.bo m.ss f.outs)) := by simpa [FlL] using h
  exact Sls.rd hok.a _ h2 (okN2 hok.a).symm fun i x hx => twos_at hx
theorem FlL.row (hok : FlOk m f) {i : Nat} {l : List Int} (hl : f.outs[i]? = some l) : ∃ a n c, ∀ (w0 w : World) (F : List (Nat × Obj)), Hp w0 w (F ++ FlL m f) → cel w m.bo (0 + i * 1) = some (.slice a n c) ∧ RdI w a n l := by
  obtain ⟨s, hs, _, _⟩ := hok.r.get hl
  refine ⟨s.a, s.n, s.c, fun w0 w F h => ?_⟩
  have h2 : Hp w0 w ((F ++ (m.bf, Cl 153 [m.sa.val, .slice (some ⟨m.bo, 0, none⟩) f.outs.length f.outs.length]) :: m.sa.r.L 156 (twos f.arcs)) ++ RO 34 3 m.bo m.ss f.outs) := by simpa [FlL] using h
  exact ⟨RO.cel h2 hs, RO.row hok.r h2 hs hl⟩
theorem setI {xs : List Int} {i : Nat} (b : Int) (h : i < xs.length) : splice (ints xs) (0 + i * 1) [.int .i64 b] = ints (xs.set i b) := by
  have := set_splice (Value.int .i64) xs i b h
  simpa using this
theorem seek_w (h : Hp w0 w (F ++ FlL m f)) (hok : FlOk m f) (hs : f.Shape) (hn : f.outs.length ≤ 1048576) (hal : f.arcs.length ≤ 4398046511104) (hrl : ∀ l ∈ f.outs, l.length ≤ 4398046511104) :
    CallP Pg 50 [.pointer (some ⟨m.bf, 0, none⟩)] w fun u w' => ∃ b, u = .slice (some ⟨b, 0, none⟩) f.outs.length f.outs.length ∧ Hp w0 w' ((b, Cl 3 (ints f.seek)) :: (F ++ FlL m f)) := by
  obtain ⟨n, hnn⟩ : ∃ n, n = f.outs.length := ⟨_, rfl⟩
  obtain ⟨fuel, hgo, hsl⟩ := Fl.seek_go hs
  have h2 := hs.two
  have han := okN2 hok.a
  refine F50_ok _ ?_
  unfold F50
  refine ptAt_of rfl ⟨_, _, _, by have := (FlL.cells h).2; simpa using this, ?_⟩
  obtain ⟨fin, hfin⟩ : ∃ r, r = f.seek := ⟨_, rfl⟩
  rw [← hfin] at hgo hsl ⊢
  rw [← hnn] at hn h2 hsl hgo ⊢
  obtain ⟨bb, w6, hm, h6⟩ := make_run slInts zInt h n (by omega) (by simp only [maxLen]; omega)
  refine ⟨_, _, _, w6, hm, ?_⟩
  refine ⟨fun i w' k => ∃ (j : Nat), i = j ∧ j ≤ n ∧ k = n - j ∧ Hp w0 w' ((bb, Cl 3 (ints (List.replicate j (-1) ++ List.replicate (n - j) 0))) :: (F ++ FlL m f)),
    ⟨n, 0, rfl, by omega, by omega, by simpa using h6⟩, ?_⟩
  clear h6
  rintro i w9 k ⟨j, rfl, hj, rfl, h9⟩
  refine sp_dec (fun hlt => ?_) (fun hge => ?_)
  · refine ⟨by omega, by omega, ptAt_of rfl ?_⟩
    refine stp h9 0 rfl (by simp; omega) rfl fun w14 h14 => ⟨n - (j + 1), by omega, j + 1, wrap_succ (by simp only [maxLen]; omega), by omega, rfl, ?_⟩
    have e : (List.replicate j (-1 : Int) ++ List.replicate (n - j) 0).set j (-1) = List.replicate (j + 1) (-1) ++ List.replicate (n - (j + 1)) 0 := by
      rw [List.set_append_right _ _ (by simp), List.length_replicate, Nat.sub_self, show n - j = (n - (j + 1)) + 1 by omega, List.replicate_succ, List.set_cons_zero, List.replicate_succ']
      simp
    have hS := setI (xs := List.replicate j (-1 : Int) ++ List.replicate (n - j) 0) (i := j) (-1) (by simp; omega)
    rw [e] at hS
    simp only [Int.toNat_natCast, hS] at h14
    exact h14
  have hjn : j = n := by omega
  subst hjn
  rw [Nat.sub_self, List.replicate_zero, List.append_nil] at h9
  have h9' : Hp w0 w9 (((bb, Cl 3 (ints (List.replicate j (-1)))) :: F) ++ FlL m f) := h9
  have e1 : IntKind.wrap .i64 ((j : Nat) - 2 : Int) = ((j - 2 : Nat) : Int) := by rw [wrap_in (by omega) (by omega)]; omega
  refine ptAt_of rfl ⟨_, _, _, by have := (FlL.cells h9').2; rw [← hnn] at this; simpa using this, ?_⟩
  rw [e1]
  refine ⟨by omega, by omega, ptAt_of rfl ?_⟩
  refine stp h9 0 rfl (by simp; omega) rfl fun w20 h20 => ?_
  have hS := setI (xs := List.replicate j (-1 : Int)) (i := j - 2) (-2) (by simp; omega)
  simp only [Int.toNat_natCast, hS] at h20
  have h20 : Hp w0 w20 ((bb, Cl 3 (ints ((List.replicate j (-1)).set (j - 2) (-2)))) :: (F ++ FlL m f)) := h20
  refine alp h20 fun b21 w22 h22 => ?_
  refine ⟨fun a nn c w' k => ∃ (by_ todo : List Int) (r : Rw), nn = todo.length ∧ Sls 1 a nn c (ints todo) r ∧ Hp w0 w' ([(bb, Cl 3 (ints by_))] ++ (r.L 3 (ints todo) ++ (F ++ FlL m f))) ∧ by_.length = j ∧ (∀ t ∈ todo, 0 ≤ t ∧ t < (j : Nat)) ∧ todo.length + by_.count (-1) ≤ j ∧ seekGo f k by_ todo = some fin,
    ⟨fuel, (List.replicate j (-1)).set (j - 2) (-2), [((j - 2 : Nat) : Int)], .at b21 [] [], rfl, ⟨rfl, rfl, rfl, by simp only [maxLen]; omega, Nat.le_refl _⟩, h22.perm (List.Perm.swap _ _ _), by simp, by simp; omega, ?_, hgo⟩, ?_⟩
  · have hcs := count_set_m (l := List.replicate j (-1)) (i := j - 2) (a := -2) (by rw [List.getElem?_replicate, if_pos (by omega)]) (by decide)
    rw [List.count_replicate_self] at hcs
    simp only [List.length_cons, List.length_nil]; omega
  clear h22 h20 h9 h9' hgo
  rintro a nn c w25 k ⟨by_, todo, r, rfl, hsl2, h25, hbl, htd, hcnt, hgo⟩
  refine sp_dec (fun hlt => ?_) (fun hge => ?_)
  · cases todo with
    | nil => simp at hlt
    | cons v todo =>
      cases k with
      | zero => simp [seekGo] at hgo
      | succ k =>
        rw [seekGo] at hgo
        obtain ⟨hv0, hvn⟩ := htd v (by simp)
        obtain ⟨l, hl⟩ := at_some (l := f.outs) (j := v.toNat) (by omega)
        have hld : f.outs.getD v.toNat [] = l := by rw [List.getD_eq_getElem?_getD, hl]; rfl
        rw [hld] at hgo
        have hlr := hs.outs l (List.mem_of_getElem? hl)
        have hll := hrl l (List.mem_of_getElem? hl)
        obtain ⟨bt, ot, hat, hct⟩ := hsl2.cel_at [_] h25 (j := 0) (v := .int .i64 v) (by simp)
        obtain ⟨a', c', r', hrun, hs', h25'⟩ := cut_run (k := 1) slInts hsl2 [_] h25 (by simp) (hsl2.c_le)
        have hdr : (ints (v :: todo)).drop (1 * 1) = ints todo := rfl
        rw [hdr] at hs' h25'
        have h25F : Hp w0 w25 ((([(bb, Cl 3 (ints by_))] ++ r'.L 3 (ints todo)) ++ F) ++ FlL m f) := by simpa using h25'
        obtain ⟨ar, nr, cr, hrow⟩ := FlL.row hok hl
        have hcr := (hrow _ _ _ h25F).1
        have hnr := (hrow _ _ _ h25F).2.len
        refine ⟨by omega, by simp, ptAt_of hat ⟨v, hct, a', _, c', hrun, ptAt_of rfl ⟨_, _, _, by have := (FlL.cells h25F).2; rw [← hnn] at this; simpa using this, by omega, by omega, ptAt_of rfl ⟨_, _, _, hcr, ?_⟩⟩⟩⟩
        obtain ⟨mid, hmid⟩ : ∃ r, r = seekIn f.arcs l (by_, todo) := ⟨_, rfl⟩
        have hfacts := seekIn_facts (n := j) (by rw [hnn]; exact hs.arcs) l by_ todo hlr hbl (fun t ht => htd t (by simp [ht]))
        rw [← hmid] at hgo hfacts
        simp only [List.length_cons] at hcnt
        refine ⟨fun a nn c i w' k => ∃ (u : Nat) (by_ todo : List Int) (r : Rw), i = u ∧ u ≤ nr ∧ k = nr - u ∧ nn = todo.length ∧ Sls 1 a nn c (ints todo) r ∧ Hp w0 w' ([(bb, Cl 3 (ints by_))] ++ (r.L 3 (ints todo) ++ (F ++ FlL m f))) ∧ by_.length = j ∧ (∀ t ∈ todo, 0 ≤ t ∧ t < (j : Nat)) ∧ todo.length + by_.count (-1) ≤ j ∧ seekIn f.arcs (l.drop u) (by_, todo) = mid,
          ⟨nr, 0, by_, todo, r', rfl, by omega, by omega, by simp, by simpa using hs', h25', hbl, fun t ht => htd t (by simp [ht]), by omega, hmid.symm⟩, ?_⟩
        clear hsl2 h25 hbl htd hcnt hs' h25' h25F hmid
        rintro a nn c i w41 q ⟨u, by_, todo, r, rfl, hu, rfl, rfl, hsl2, h41, hbl, htd, hcnt, hmid⟩
        have h41F : Hp w0 w41 ((([(bb, Cl 3 (ints by_))] ++ r.L 3 (ints todo)) ++ F) ++ FlL m f) := by simpa using h41
        refine sp_dec (fun hlt2 => ?_) (fun hge2 => ?_)
        · intro K44 hK44
          obtain ⟨x, hx⟩ := at_some (l := l) (j := u) (by omega)
          rw [drop_cons hx, seekIn] at hmid
          obtain ⟨hx0, hxa⟩ := hlr x (List.mem_of_getElem? hx)
          obtain ⟨bx, ox, hax, hcx⟩ := RdI.at (hrow _ _ _ h41F).2 hx
          have hcf := (FlL.cells h41F).1
          obtain ⟨y, hy⟩ := at_some (l := f.arcs) (j := x.toNat) (by omega)
          have hyd : f.arcs.getD x.toNat (0, 0) = y := by rw [List.getD_eq_getElem?_getD, hy]; rfl
          rw [hyd] at hmid
          simp only at hmid
          obtain ⟨hy0, hyn⟩ := hs.arcs y (List.mem_of_getElem? hy)
          rw [← hnn] at hyn
          obtain ⟨ba, oa, vs, haa, hrowa, hvla, rfl⟩ := (FlL.arcs h41F hok).at_ _ _ hy
          refine ⟨by omega, by omega, ptAt_of hax ⟨x, hcx, ptAt_of rfl ⟨_, _, _, hcf, hx0, by omega, ptAt_of haa ⟨_, _, hrowa, ?_⟩⟩⟩⟩
          refine alp h41 fun b57 w58 h58 => ?_
          refine stp h58 0 rfl (by simp) rfl fun w59 h59 => ⟨_, h59.cl 0 rfl rfl, ?_⟩
          have h59 : Hp w0 w59 ((b57, Cl 156 [.int .i64 y.1, .int .i64 y.2]) :: ([(bb, Cl 3 (ints by_))] ++ (r.L 3 (ints todo) ++ (F ++ FlL m f)))) := h59
          have hskip : ¬ (0 < y.2 ∧ by_.getD y.1.toNat 0 = -1) → K44 a todo.length c w59 := by
            intro hno
            rw [if_neg hno] at hmid
            exact hK44 _ _ _ _ ⟨nr - (u + 1), by omega, u + 1, by_, todo, r, wrap_succ (by simp only [maxLen]; omega), by omega, rfl, rfl, hsl2, h59.drop 1, hbl, htd, hcnt, hmid⟩
          obtain ⟨z, hz⟩ := at_some (l := by_) (j := y.1.toNat) (by omega)
          have hzd : by_.getD y.1.toNat 0 = z := by rw [List.getD_eq_getElem?_getD, hz]; rfl
          refine sp_dec (fun hpos => ⟨_, h59.cl 0 rfl rfl, by omega, by omega, ptAt_of rfl ⟨z, h59.cl 1 rfl (by simp [hz]), sp_dec (fun hz1 => ?_) (fun hz1 => hskip (fun h => hz1 (by rw [← hzd]; exact h.2)))⟩⟩) (fun hpos => hskip (fun h => hpos h.1))
          rw [if_pos ⟨hpos, by rw [hzd, hz1]⟩] at hmid
          refine ⟨_, h59.cl 0 rfl rfl, by omega, by omega, ptAt_of rfl ?_⟩
          refine stp h59 1 rfl (by simp; omega) rfl fun w68 h68 => ⟨_, h68.cl 0 rfl rfl, ?_⟩
          have hS := setI (xs := by_) (i := y.1.toNat) x (by omega)
          rw [hS] at h68
          have h68 : Hp w0 w68 ((b57, Cl 156 [.int .i64 y.1, .int .i64 y.2]) :: ([(bb, Cl 3 (ints (by_.set y.1.toNat x)))] ++ (r.L 3 (ints todo) ++ (F ++ FlL m f)))) := h68
          refine alp h68 fun b70 w71 h71 => ?_
          have hcs := count_set_m (l := by_) (i := y.1.toNat) (a := x) (by rw [hz, hz1]) (by omega)
          obtain ⟨a', c', w73, r', hrun, hs3, h73⟩ := app1 (ty := 34) slInts (by omega) hsl2 ((b70, Cl 3 [.int .i64 y.1]) :: (b57, Cl 156 [.int .i64 y.1, .int .i64 y.2]) :: [(bb, Cl 3 (ints (by_.set y.1.toNat x)))]) h71 0 rfl rfl rfl (by simp only [maxLen]; omega) (by omega)
          have he1 : ints todo ++ [.int .i64 y.1] = ints (todo ++ [y.1]) := by simp
          rw [he1] at hs3 h73
          refine ⟨_, _, _, w73, hrun, hK44 _ _ _ _ ⟨nr - (u + 1), by omega, u + 1, by_.set y.1.toNat x, todo ++ [y.1], r', wrap_succ (by simp only [maxLen]; omega), by omega, rfl, by simp, hs3, h73.drop 2, by simpa using hbl, ?_, by simp; omega, hmid⟩⟩
          intro t ht
          rcases List.mem_append.1 ht with ht | ht
          · exact htd t ht
          · simp at ht; subst ht; exact ⟨hy0, hyn⟩
        · have hd : l.drop u = [] := List.drop_of_length_le (by omega)
          rw [hd, seekIn] at hmid
          rw [← hmid] at hgo
          exact ⟨k, Nat.lt_succ_self k, by_, todo, r, rfl, hsl2, h41, hbl, htd, hcnt, hgo⟩
  · have : todo = [] := List.eq_nil_of_length_eq_zero (by omega)
    subst this
    cases k with
    | zero => simp [seekGo] at hgo
    | succ k =>
      simp only [seekGo, Option.some.injEq] at hgo
      subst hgo
      refine ⟨bb, rfl, h25.sub ?_⟩
      exact List.Sublist.cons_cons _ (List.sublist_append_right _ _)
end
end Go.Pl.Try

/- What '(*palings/cut.flow).push' does, read off its translation by gen.py. -/
namespace Go.Pl.Try
set_option linter.unusedVariables false
set_option maxRecDepth 100000
def F51 (x1 : Option Addr) (ax2 : Option Addr) (nx2 cx2 : Nat) (w : World) (R : Value → World → Prop) : Prop :=
  ptAt x1 fun b3 o4 =>
  ∃ (ax5 : Option Addr) (nx5 cx5 : Nat), cel w b3 (o4 + 1) = some (.slice ax5 nx5 cx5) ∧
  ∃ J6 : Int → Int → World → Nat → Prop, (∃ m10, J6 1152921504606846976 (IntKind.wrap .i64 ((nx5 : Nat) - 1)) w m10) ∧
  ∀ (x7 : Int) (x8 : Int), ∀ w9 m10, J6 x7 x8 w9 m10 →
  0 ≤ (x8 : Int) ∧ (x8 : Int) < (nx2 : Nat) ∧
  ptAt ax2 fun b12 o13 =>
  ∃ (x14 : Int), cel w9 b12 (o13 + x8.toNat * 1) = some (.int .i64 x14) ∧
  sp (decide ((0 : Int) ≤ x14))
  (ptAt x1 fun b15 o16 =>
  ∃ (ax17 : Option Addr) (nx17 cx17 : Nat), cel w9.drew b15 o16 = some (.slice ax17 nx17 cx17) ∧
  0 ≤ (x8 : Int) ∧ (x8 : Int) < (nx2 : Nat) ∧
  ptAt ax2 fun b18 o19 =>
  ∃ (x20 : Int), cel w9.drew b18 (o19 + x8.toNat * 1) = some (.int .i64 x20) ∧
  0 ≤ (x20 : Int) ∧ (x20 : Int) < (nx17 : Nat) ∧
  ptAt ax17 fun b21 o22 =>
  ∃ (x23 : Int), cel w9.drew b21 (o22 + x20.toNat * 2 + 1) = some (.int .i64 x23) ∧
  ptAt x1 fun b24 o25 =>
  ∃ (ax26 : Option Addr) (nx26 cx26 : Nat), cel w9.drew.drew b24 o25 = some (.slice ax26 nx26 cx26) ∧
  0 ≤ (x8 : Int) ∧ (x8 : Int) < (nx2 : Nat) ∧
  ptAt ax2 fun b27 o28 =>
  ∃ (x29 : Int), cel w9.drew.drew b27 (o28 + x8.toNat * 1) = some (.int .i64 x29) ∧
  0 ≤ (bitsI .xor .i64 x29 1 : Int) ∧ (bitsI .xor .i64 x29 1 : Int) < (nx26 : Nat) ∧
  ptAt ax26 fun b30 o31 =>
  ∃ (x32 : Int), cel w9.drew.drew b30 (o31 + (bitsI .xor .i64 x29 1).toNat * 2) = some (.int .i64 x32) ∧
  ∃ m11, m11 < m10 ∧ J6 (mnI x7 x23) x32 w9.drew.drew m11)
  (∃ J33 : Int → World → Nat → Prop, (∃ m36, J33 (IntKind.wrap .i64 ((nx5 : Nat) - 1)) w9 m36) ∧
  ∀ (x34 : Int), ∀ w35 m36, J33 x34 w35 m36 →
  0 ≤ (x34 : Int) ∧ (x34 : Int) < (nx2 : Nat) ∧
  ptAt ax2 fun b38 o39 =>
  ∃ (x40 : Int), cel w35 b38 (o39 + x34.toNat * 1) = some (.int .i64 x40) ∧
  sp (decide ((0 : Int) ≤ x40))
  (ptAt x1 fun b41 o42 =>
  ∃ (ax43 : Option Addr) (nx43 cx43 : Nat), cel w35.drew b41 o42 = some (.slice ax43 nx43 cx43) ∧
  0 ≤ (x34 : Int) ∧ (x34 : Int) < (nx2 : Nat) ∧
  ptAt ax2 fun b44 o45 =>
  ∃ (x46 : Int), cel w35.drew b44 (o45 + x34.toNat * 1) = some (.int .i64 x46) ∧
  0 ≤ (x46 : Int) ∧ (x46 : Int) < (nx43 : Nat) ∧
  ptAt ax43 fun b47 o48 =>
  ∃ (x49 : Int), cel w35.drew b47 (o48 + x46.toNat * 2 + 1) = some (.int .i64 x49) ∧
  0 ≤ (x46 : Int) ∧ (x46 : Int) < (nx43 : Nat) ∧
  ptAt ax43 fun b50 o51 =>
  StP b50 (o51 + x46.toNat * 2 + 1) [.int .i64 (IntKind.wrap .i64 (x49 - x7))] w35.drew fun w52 =>
  ptAt x1 fun b53 o54 =>
  ∃ (ax55 : Option Addr) (nx55 cx55 : Nat), cel w52.drew b53 o54 = some (.slice ax55 nx55 cx55) ∧
  0 ≤ (x34 : Int) ∧ (x34 : Int) < (nx2 : Nat) ∧
  ptAt ax2 fun b56 o57 =>
  ∃ (x58 : Int), cel w52.drew b56 (o57 + x34.toNat * 1) = some (.int .i64 x58) ∧
  0 ≤ (bitsI .xor .i64 x58 1 : Int) ∧ (bitsI .xor .i64 x58 1 : Int) < (nx55 : Nat) ∧
  ptAt ax55 fun b59 o60 =>
  ∃ (x61 : Int), cel w52.drew b59 (o60 + (bitsI .xor .i64 x58 1).toNat * 2 + 1) = some (.int .i64 x61) ∧
  0 ≤ (bitsI .xor .i64 x58 1 : Int) ∧ (bitsI .xor .i64 x58 1 : Int) < (nx55 : Nat) ∧
  ptAt ax55 fun b62 o63 =>
  StP b62 (o63 + (bitsI .xor .i64 x58 1).toNat * 2 + 1) [.int .i64 (IntKind.wrap .i64 (x61 + x7))] w52.drew fun w64 =>
  ptAt x1 fun b65 o66 =>
  ∃ (ax67 : Option Addr) (nx67 cx67 : Nat), cel w64.drew b65 o66 = some (.slice ax67 nx67 cx67) ∧
  0 ≤ (x34 : Int) ∧ (x34 : Int) < (nx2 : Nat) ∧
  ptAt ax2 fun b68 o69 =>
  ∃ (x70 : Int), cel w64.drew b68 (o69 + x34.toNat * 1) = some (.int .i64 x70) ∧
  0 ≤ (bitsI .xor .i64 x70 1 : Int) ∧ (bitsI .xor .i64 x70 1 : Int) < (nx67 : Nat) ∧
  ptAt ax67 fun b71 o72 =>
  ∃ (x73 : Int), cel w64.drew b71 (o72 + (bitsI .xor .i64 x70 1).toNat * 2) = some (.int .i64 x73) ∧
  ∃ m37, m37 < m36 ∧ J33 x73 w64.drew m37)
  (R (.tuple ⟨[]⟩) w35))
def T51 : List Sh := [.v (.one .ptr), .v (.one .sl), .v (.one .any), .v (.one .any), .v (.one (.int .i64)), .v (.one (.int .i64)), .v (.one (.int .i64)), .v (.one (.int .i64)), .v (.one .ptr), .v (.one .ptr), .v (.one .ptr), .v (.one .sl), .v (.one (.int .i64)), .v (.one (.int .i64)), .v (.one (.int .i64)), .v (.one .sl), .v (.one (.int .i64)), .v (.one .ptr), .v (.one (.int .i64)), .v (.one .bool), .v (.one .ptr), .v (.one .ptr), .v (.one .ptr), .v (.one .sl), .v (.one .sl), .v (.one (.int .i64)), .v (.one .ptr), .v (.one (.int .i64)), .v (.one (.int .i64)), .v (.one .ptr), .v (.one .ptr), .v (.one (.int .i64)), .v (.one (.int .i64)), .v (.one .ptr), .v (.one .ptr), .v (.one .ptr), .v (.one .sl), .v (.one .sl), .v (.one (.int .i64)), .v (.one .ptr), .v (.one (.int .i64)), .v (.one .ptr), .v (.one .ptr), .v (.one (.int .i64)), .v (.one (.int .i64)), .v (.one (.int .i64)), .v (.one .sl), .v (.one (.int .i64)), .v (.one .ptr), .v (.one (.int .i64)), .v (.one .bool), .v (.one .ptr), .v (.one .ptr), .v (.one .ptr), .v (.one .sl), .v (.one .sl), .v (.one (.int .i64)), .v (.one .ptr), .v (.one (.int .i64)), .v (.one (.int .i64)), .v (.one .ptr), .v (.one .ptr), .v (.one (.int .i64)), .v (.one .ptr), .v (.one .ptr), .v (.one .ptr), .v (.one .sl), .v (.one .sl), .v (.one (.int .i64)), .v (.one .ptr), .v (.one (.int .i64)), .v (.one .ptr), .v (.one .ptr), .v (.one (.int .i64)), .v (.one (.int .i64)), .v (.one (.int .i64)), .v (.one .ptr), .v (.one .ptr), .v (.one .ptr), .v (.one .ptr), .v (.one .ptr), .v (.one .sl), .v (.one .sl), .v (.one (.int .i64)), .v (.one .ptr), .v (.one (.int .i64)), .v (.one (.int .i64)), .v (.one .ptr), .v (.one .ptr), .v (.one (.int .i64)), .v (.one (.int .i64)), .v (.one (.int .i64)), .v (.one .ptr), .v (.one .ptr)]
def A51 : Ann := (.seq none .z (.seq none .z (.seq none (.seq none .z (.block none (.loop [5, 6] (.seq none (.seq none .z (.cond .z .z)) (.seq none (.block none (.dr [0, 0, 0, 0, 1, 0, 0, 0, 1, 0, 0, 1, 0, 0] [0, 1, 2, 3, 4, 5, 6, 7, 8, 9, 10, 11, 12, 13])) (.dr [0, 0, 0, 1, 0, 0, 0, 1, 0, 0, 0, 1, 0] [0, 1, 2, 3, 4, 5, 6, 7, 8, 9, 10, 11, 12])))))) (.seq none .z (.block none (.loop [7] (.seq none (.seq none .z (.cond .z .z)) (.seq none (.block none (.seq none (.dr [0, 0, 0, 1, 0, 0, 0, 1, 0, 0, 1, 0, 0, 0, 0, 3] [0, 1, 2, 3, 4, 5, 6, 7, 8, 9, 10, 11, 12, 13, 14, 15]) (.dr [0, 0, 0, 1, 0, 0, 0, 1, 0, 0, 0, 1, 0, 0, 0, 0, 3] [0, 1, 2, 3, 4, 5, 6, 7, 8, 9, 10, 11, 12, 13, 14, 15, 16]))) (.dr [0, 0, 0, 1, 0, 0, 0, 1, 0, 0, 0, 1, 0] [0, 1, 2, 3, 4, 5, 6, 7, 8, 9, 10, 11, 12])))))))))
theorem F51_eq (x1 : Option Addr) (ax2 : Option Addr) (nx2 cx2 : Nat) (w : World) (R : Value → World → Prop) : F51 x1 ax2 nx2 cx2 w R = denF Go.Proofs.Try.prog T51 Go.Proofs.Try.f51 A51 [.pointer x1, .slice ax2 nx2 cx2] w R := by kernel_rfl
theorem F51_ok (x1 : Option Addr) (ax2 : Option Addr) (nx2 cx2 : Nat) {w : World} {R : Value → World → Prop} (h : F51 x1 ax2 nx2 cx2 w R) : CallP Go.Proofs.Try.prog 51 [.pointer x1, .slice ax2 nx2 cx2] w R :=
  calls_den (fun _ => drawn (by kernel_rfl)) Go.Proofs.Try.func51 (Nat.le_of_ble_eq_true (by kernel_rfl)) ((F51_eq x1 ax2 nx2 cx2 w R).mp h)
end Go.Pl.Try

/- Nets: what flows on a way: walked. -/
namespace Go.Pl.M
set_option linter.unusedVariables false
theorem pushAt_len (arcs : List (Int × Int)) (m : Int) (a : Nat) : (pushAt arcs m a).length = arcs.length := by simp [pushAt]
theorem getD_set_fst {arcs : List (Int × Int)} {a : Nat} {y : Int} (i : Nat) : ((arcs.set a ((arcs.getD a (0, 0)).1, y)).getD i (0, 0)).1 = (arcs.getD i (0, 0)).1 := by
  simp only [List.getD_eq_getElem?_getD, List.getElem?_set]
  split
  · rename_i e; subst e
    split
    · rfl
    · rename_i h; rw [List.getElem?_eq_none (by omega)]
  · rfl
theorem pushAt_fst (arcs : List (Int × Int)) (m : Int) (a : Nat) (i : Nat) : ((pushAt arcs m a).getD i (0, 0)).1 = (arcs.getD i (0, 0)).1 := by
  unfold pushAt
  rw [getD_set_fst, getD_set_fst]
theorem pushAll_snoc (m : Int) (a : Nat) : ∀ (P : List Nat) (arcs : List (Int × Int)), pushAll m (P ++ [a]) arcs = pushAt (pushAll m P arcs) m a
  | [], _ => rfl
  | b :: P, arcs => by rw [List.cons_append, pushAll, pushAll_snoc m a P]; rfl
end Go.Pl.M
namespace Go.Pl.Try
open M
set_option linter.unusedVariables false
theorem xor_one {a : Nat} (h : a < 4611686018427387904) : bitsI .xor .i64 (a : Int) 1 = ((a ^^^ 1 : Nat) : Int) := by
  have h2 : a ^^^ 1 < 2 ^ 62 := Nat.xor_lt_two_pow (by omega) (by omega)
  show IntKind.wrap .i64 (((BitVec.ofInt 64 (a : Int) ^^^ BitVec.ofInt 64 1).toNat : Nat) : Int) = _
  have e1 : (BitVec.ofInt 64 (a : Int) ^^^ BitVec.ofInt 64 1).toNat = a ^^^ 1 := by
    rw [BitVec.toNat_xor, BitVec.toNat_ofInt, BitVec.toNat_ofInt]
    congr 1
    omega
  rw [e1, wrap_in (by omega) (by omega)]
theorem twos_set {l : List (Int × Int)} {i : Nat} (h : i < l.length) (y : Int) : splice (twos l) (i * 2 + 1) [.int .i64 y] = twos (l.set i ((l.getD i (0, 0)).1, y)) := by
  induction l generalizing i with
  | nil => simp at h
  | cons a l ih =>
    cases i with
    | zero => simp [twos, splice]
    | succ i =>
      have := ih (i := i) (by simpa using h)
      simp only [twos, List.flatMap_cons, List.set_cons_succ, List.getD_cons_succ] at this ⊢
      rw [← this]
      unfold splice
      have e : (i + 1) * 2 + 1 = ([.int .i64 a.1, .int .i64 a.2] : List Value).length + (i * 2 + 1) := by simp; omega
      rw [e, List.take_length_add_append, Nat.add_assoc _ _ ([Value.int IntKind.i64 y].length), List.drop_length_add_append]
      simp
section
variable {w0 w : World} {F : List (Nat × Obj)} {m : FlM} {f : Fl}
theorem arc_cel (h : Hp w0 w (F ++ FlL m f)) (hok : FlOk m f) {a : Nat} (ha : a < f.arcs.length) : ∃ b o, m.sa.a = some ⟨b, o, none⟩ ∧ cel w b (o + a * 2) = some (.int .i64 (f.arcs.getD a (0, 0)).1) ∧ cel w b (o + a * 2 + 1) = some (.int .i64 (f.arcs.getD a (0, 0)).2) := by
  obtain ⟨b, o, vs, hb, hrow, _, rfl⟩ := (FlL.arcs h hok).at_ a _ (getD_some (d := (0, 0)) ha)
  exact ⟨b, o, hb, hrow 0 _ rfl, hrow 1 _ rfl⟩
theorem arc_st (h : Hp w0 w (F ++ FlL m f)) (hok : FlOk m f) {a : Nat} (ha : a < f.arcs.length) (y : Int) {b o : Nat} (hb : m.sa.a = some ⟨b, o, none⟩) {K : World → Prop}
    (k : ∀ w1, Hp w0 w1 (F ++ FlL m ⟨f.arcs.set a ((f.arcs.getD a (0, 0)).1, y), f.outs⟩) → FlOk m ⟨f.arcs.set a ((f.arcs.getD a (0, 0)).1, y), f.outs⟩ → K w1) : StP b (o + a * 2 + 1) [.int .i64 y] w K := by
  have h2 : Hp w0 w ((F ++ [(m.bf, Cl 153 [m.sa.val, .slice (some ⟨m.bo, 0, none⟩) f.outs.length f.outs.length])]) ++ (m.sa.r.L 156 (twos f.arcs) ++ RO 34 3 m.bo m.ss f.outs)) := by simpa [FlL] using h
  have hst := Sls.st hok.a _ h2 (j := a * 2 + 1) (us := [.int .i64 y]) (by rw [twos_len]; simp; omega) (by simp) rfl (K := fun _ _ w1 => K w1) (fun b' o' w1 _ hs' h' => by
    rw [twos_set ha] at hs' h'
    exact k w1 (by simpa [FlL] using h') ⟨hs', hok.r⟩)
  obtain ⟨b', o', e, hst⟩ := ptAt_inv hst
  rw [hb] at e
  cases e
  exact hst
theorem push_w (h : Hp w0 w (F ++ FlL m f)) (hok : FlOk m f) (hs : f.Shape) (hn : f.outs.length ≤ 1048576) (hal : f.arcs.length ≤ 4398046511104) {by_ : List Int} {bb k : Nat} (hk : F[k]? = some (bb, Cl 3 (ints by_))) (hbl : by_.length = f.outs.length)
    (hba : ∀ a ∈ by_, a < (f.arcs.length : Nat)) (hev : f.arcs.length % 2 = 0) {P : List Nat} {fuel : Nat} (hP : pathGo f.arcs by_ fuel ((f.outs.length - 1 : Nat) : Int) = some P) {q : Int} (hq : q = most f.arcs much P)
    (hbd : ∀ t, ∀ x ∈ pushAll q (P.take t) f.arcs, -4611686018427387904 ≤ x.2 ∧ x.2 ≤ 4611686018427387904) (hmo : 0 ≤ q ∧ q ≤ 4611686018427387904) :
    CallP Pg 51 [.pointer (some ⟨m.bf, 0, none⟩), .slice (some ⟨bb, 0, none⟩) f.outs.length f.outs.length] w fun u w' => u = .tuple ⟨[]⟩ ∧ Hp w0 w' (F ++ FlL m ⟨pushAll q P f.arcs, f.outs⟩) ∧ FlOk m ⟨pushAll q P f.arcs, f.outs⟩ := by
  obtain ⟨n, hnn⟩ : ∃ n, n = f.outs.length := ⟨_, rfl⟩
  have h2 := hs.two
  have han := okN2 hok.a
  have hxe : ∀ {a : Nat}, a < f.arcs.length → a ^^^ 1 < f.arcs.length := by
    intro a ha
    have e1 : (a ^^^ 1) / 2 = a / 2 := by rw [Nat.xor_div_two]; simp
    have e2 : (a ^^^ 1) % 2 = (a + 1) % 2 := by
      have e3 : (a ^^^ 1) % 2 = (a % 2) ^^^ 1 := Nat.xor_mod_two_pow (n := 1)
      rw [e3]
      rcases Nat.mod_two_eq_zero_or_one a with h0 | h0 <;> rw [h0] <;> simp <;> omega
    omega
  rw [← hnn] at hbl hn h2 hP ⊢
  have hby : ∀ {w1 : World} {L1} {v : Nat}, Hp w0 w1 (F ++ L1) → v < n → cel w1 bb (0 + v * 1) = some (.int .i64 (by_.getD v 0)) := by
    intro w1 L1 v h1 hv
    refine h1.cl k (e := 3) (vs := ints by_) (by rw [List.getElem?_append_left (List.getElem?_eq_some_iff.1 hk).1]; exact hk) ?_
    rw [show 0 + v * 1 = v by omega, List.getElem?_map, getD_some (d := 0) (by omega)]; rfl
  have hbya : ∀ {v : Nat}, v < n → 0 ≤ by_.getD v 0 → (by_.getD v 0).toNat < f.arcs.length := by
    intro v hv h0
    have := hba _ (List.mem_of_getElem? (getD_some (l := by_) (d := 0) (i := v) (by omega)))
    omega
  refine F51_ok _ _ _ _ ?_
  unfold F51
  have hc1 := (FlL.cells h).2
  rw [← hnn] at hc1
  refine ptAt_of rfl ⟨_, _, _, hc1, ?_⟩
  have e1 : IntKind.wrap .i64 ((n : Nat) - 1 : Int) = ((n - 1 : Nat) : Int) := by rw [wrap_in (by omega) (by omega)]; omega
  rw [e1]
  have hto : ∀ {a : Nat}, a < f.arcs.length → ∃ v : Nat, (f.arcs.getD a (0, 0)).1 = v ∧ v < n := by
    intro a ha
    have := hs.arcs _ (List.mem_of_getElem? (getD_some (l := f.arcs) (d := (0, 0)) ha))
    exact ⟨(f.arcs.getD a (0, 0)).1.toNat, by omega, by omega⟩
  refine ⟨fun mo v w' g => ∃ (vn : Nat) (P' : List Nat), v = vn ∧ vn < n ∧ Hp w0 w' (F ++ FlL m f) ∧ pathGo f.arcs by_ g v = some P' ∧ most f.arcs mo P' = q,
    ⟨fuel, n - 1, P, rfl, by omega, h, hP, hq.symm⟩, ?_⟩
  clear h
  rintro mo v w9 g ⟨vn, P', rfl, hvn, h9, hgo, hmq⟩
  have hb9 := hby h9 hvn
  cases g with
  | zero => simp [pathGo] at hgo
  | succ g =>
  rw [pathGo] at hgo
  simp only [Int.toNat_natCast] at hgo hb9 ⊢
  refine ⟨by omega, by omega, ptAt_of rfl ⟨_, hb9, sp_dec (fun hge => ?_) (fun hlt => ?_)⟩⟩
  · rw [if_pos hge] at hgo
    have han1 := hbya hvn hge
    have hb9d := hby h9.drew hvn
    have hb9dd := hby h9.drew.drew hvn
    obtain ⟨a, ha⟩ : ∃ a : Nat, by_.getD vn 0 = (a : Int) := ⟨(by_.getD vn 0).toNat, by omega⟩
    rw [ha] at hgo han1 hb9d hb9dd
    simp only [Int.toNat_natCast] at hgo han1
    have hxa := hxe han1
    obtain ⟨b, o, hsa, hcto, hcl⟩ := arc_cel h9.drew hok han1
    obtain ⟨b2, o2, hsa2, hcto2, hcl2⟩ := arc_cel h9.drew.drew hok hxa
    obtain ⟨v2, hv2, hv2n⟩ := hto hxa
    have hgo2 : ∃ P2, pathGo f.arcs by_ g (f.arcs.getD (a ^^^ 1) (0, 0)).1 = some P2 ∧ a :: P2 = P' := by
      cases hp : pathGo f.arcs by_ g (f.arcs.getD (a ^^^ 1) (0, 0)).1 with
      | none => rw [hp] at hgo; cases hgo
      | some P2 => rw [hp] at hgo; exact ⟨P2, rfl, by simpa using hgo⟩
    obtain ⟨P2, hp2, rfl⟩ := hgo2
    have hxo := xor_one (a := a) (by omega)
    refine ptAt_of rfl ⟨_, _, _, (FlL.cells h9.drew).1, by omega, by omega, ptAt_of rfl ⟨_, hb9d, by omega, by omega, ptAt_of hsa ⟨_, hcl, ptAt_of rfl ⟨_, _, _, (FlL.cells h9.drew.drew).1, by omega, by omega, ptAt_of rfl ⟨_, hb9dd, ?_⟩⟩⟩⟩⟩
    rw [hxo]
    refine ⟨by omega, by omega, ptAt_of hsa2 ⟨_, hcto2, g, Nat.lt_succ_self g, v2, P2, hv2, hv2n, h9.drew.drew, hp2, ?_⟩⟩
    rw [← hmq]
    simp only [most, List.foldl_cons]
    rfl
  rw [if_neg hlt] at hgo
  cases hgo
  have hmo2 : mo = q := by simpa [most] using hmq
  clear hlt hb9 hmq
  subst hmo2
  obtain ⟨fin, hfin⟩ : ∃ r, r = pushAll mo P f.arcs := ⟨_, rfl⟩
  rw [← hfin]
  refine ⟨fun v w' g => ∃ (vn t : Nat) (arcs : List (Int × Int)), v = vn ∧ vn < n ∧ Hp w0 w' (F ++ FlL m ⟨arcs, f.outs⟩) ∧ FlOk m ⟨arcs, f.outs⟩ ∧ pathGo f.arcs by_ g v = some (P.drop t) ∧ arcs = pushAll mo (P.take t) f.arcs ∧ arcs.length = f.arcs.length ∧ (∀ i, (arcs.getD i (0, 0)).1 = (f.arcs.getD i (0, 0)).1),
    ⟨fuel, n - 1, 0, f.arcs, rfl, by omega, h9, hok, hP, rfl, rfl, fun _ => rfl⟩, ?_⟩
  clear h9 hvn hok g
  rintro v w35 g ⟨vn, t, arcs, rfl, hvn, h35, hok, hgo, harc, hal2, hfst⟩
  have hb35 := hby h35 hvn
  cases g with
  | zero => simp [pathGo] at hgo
  | succ g =>
  rw [pathGo] at hgo
  simp only [Int.toNat_natCast] at hgo hb35 ⊢
  refine ⟨by omega, by omega, ptAt_of rfl ⟨_, hb35, sp_dec (fun hge => ?_) (fun hlt => ?_)⟩⟩
  · rw [if_pos hge] at hgo
    have han1 := hbya hvn hge
    obtain ⟨a, ha⟩ : ∃ a : Nat, by_.getD vn 0 = (a : Int) := ⟨(by_.getD vn 0).toNat, by omega⟩
    rw [ha] at hgo han1
    simp only [Int.toNat_natCast] at hgo han1
    have hxa := hxe han1
    have hxo := xor_one (a := a) (by omega)
    obtain ⟨v2, hv2, hv2n⟩ := hto hxa
    have hgo2 : ∃ P2, pathGo f.arcs by_ g (f.arcs.getD (a ^^^ 1) (0, 0)).1 = some P2 ∧ a :: P2 = P.drop t := by
      cases hp : pathGo f.arcs by_ g (f.arcs.getD (a ^^^ 1) (0, 0)).1 with
      | none => rw [hp] at hgo; cases hgo
      | some P2 => rw [hp] at hgo; exact ⟨P2, rfl, by simpa using hgo⟩
    obtain ⟨P2, hp2, hdr⟩ := hgo2
    have htP : P[t]? = some a := by rw [← List.head?_drop, ← hdr]; rfl
    have hdr2 : P.drop (t + 1) = P2 := by rw [← List.drop_drop, ← hdr]; rfl
    have htk : P.take (t + 1) = P.take t ++ [a] := by rw [List.take_add_one, htP]; rfl
    have hbt := hbd t
    rw [← harc] at hbt
    have hla := hbt _ (List.mem_of_getElem? (getD_some (l := arcs) (d := (0, 0)) (i := a) (by omega)))
    have hbt2 := hbd (t + 1)
    rw [htk, pushAll_snoc, ← harc] at hbt2
    -- the arc
    obtain ⟨b, o, hsa, hcto, hcl⟩ := arc_cel h35.drew hok (a := a) (by simp only; omega)
    have hbd1 := hby h35.drew hvn
    rw [ha] at hbd1
    refine ptAt_of rfl ⟨_, _, _, (FlL.cells h35.drew).1, by omega, by omega, ptAt_of rfl ⟨_, hbd1, by omega, by omega, ptAt_of hsa ⟨_, hcl, by omega, by omega, ptAt_of hsa ?_⟩⟩⟩
    refine arc_st h35.drew hok (a := a) (by simp only; omega) _ hsa fun w52 h52 ok52 => ?_
    have hw1 : IntKind.wrap .i64 ((arcs.getD a (0, 0)).2 - mo) = (arcs.getD a (0, 0)).2 - mo := wrap_in (by omega) (by omega)
    simp only [hw1] at h52 ok52
    obtain ⟨arcs1, harcs1⟩ : ∃ x, x = arcs.set a ((arcs.getD a (0, 0)).1, (arcs.getD a (0, 0)).2 - mo) := ⟨_, rfl⟩
    rw [← harcs1] at h52 ok52
    have hl1 : arcs1.length = f.arcs.length := by rw [harcs1]; simp [hal2]
    -- its other way
    obtain ⟨b2, o2, hsa2, hcto2, hcl2⟩ := arc_cel h52.drew ok52 (a := a ^^^ 1) (by simp only; omega)
    have hbd2 := hby h52.drew hvn
    rw [ha] at hbd2
    refine ptAt_of rfl ⟨_, _, _, (FlL.cells h52.drew).1, by omega, by omega, ptAt_of rfl ⟨_, hbd2, ?_⟩⟩
    rw [hxo]
    refine ⟨by omega, by omega, ptAt_of hsa2 ⟨_, hcl2, by omega, by omega, ptAt_of hsa2 ?_⟩⟩
    refine arc_st h52.drew ok52 (a := a ^^^ 1) (by simp only; omega) _ hsa2 fun w64 h64 ok64 => ?_
    have hpa : pushAt arcs mo a = arcs1.set (a ^^^ 1) ((arcs1.getD (a ^^^ 1) (0, 0)).1, (arcs1.getD (a ^^^ 1) (0, 0)).2 + mo) := by unfold pushAt; rw [harcs1]
    have hlb : -4611686018427387904 ≤ (arcs1.getD (a ^^^ 1) (0, 0)).2 + mo ∧ (arcs1.getD (a ^^^ 1) (0, 0)).2 + mo ≤ 4611686018427387904 := by
      have := hbt2 ((arcs1.getD (a ^^^ 1) (0, 0)).1, (arcs1.getD (a ^^^ 1) (0, 0)).2 + mo) (by
        rw [hpa]
        refine List.mem_of_getElem? (i := a ^^^ 1) ?_
        rw [List.getElem?_set, if_pos rfl, if_pos (by omega)])
      exact this
    have hw2 : IntKind.wrap .i64 ((arcs1.getD (a ^^^ 1) (0, 0)).2 + mo) = (arcs1.getD (a ^^^ 1) (0, 0)).2 + mo := wrap_in (by omega) (by omega)
    simp only [hw2] at h64 ok64
    rw [← hpa] at h64 ok64
    have hfst2 : ∀ i, ((pushAt arcs mo a).getD i (0, 0)).1 = (f.arcs.getD i (0, 0)).1 := fun i => (pushAt_fst arcs mo a i).trans (hfst i)
    obtain ⟨b3, o3, hsa3, hcto3, hcl3⟩ := arc_cel h64.drew ok64 (a := a ^^^ 1) (by simp only [pushAt_len]; omega)
    simp only [hfst2, hv2] at hcto3
    have hbd3 := hby h64.drew hvn
    rw [ha] at hbd3
    refine ptAt_of rfl ⟨_, _, _, (FlL.cells h64.drew).1, by omega, by omega, ptAt_of rfl ⟨_, hbd3, ?_⟩⟩
    rw [hxo]
    refine ⟨by omega, by omega, ptAt_of hsa3 ⟨_, hcto3, g, Nat.lt_succ_self g, v2, t + 1, pushAt arcs mo a, rfl, hv2n, h64.drew, ok64, ?_, ?_, ?_, hfst2⟩⟩
    · rw [hdr2, ← hv2]; exact hp2
    · rw [htk, pushAll_snoc, ← harc]
    · rw [pushAt_len, hal2]
  · rw [if_neg hlt] at hgo
    have hd : P.drop t = [] := by simpa using hgo.symm
    have htk : P.take t = P := List.take_of_length_le (by have := List.drop_eq_nil_iff.1 hd; exact this)
    rw [htk] at harc
    rw [hfin, ← harc]
    exact ⟨trivial, h35, hok⟩
end
end Go.Pl.Try
