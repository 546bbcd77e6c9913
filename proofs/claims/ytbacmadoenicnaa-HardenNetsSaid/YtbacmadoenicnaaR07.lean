/- Joined texts of the proof, part 7: WSsa2, F15, WWrites, F16, WReach, F31, F57, WSsa3. -/
import Derived.Test.YtbacmadoenicnaaR06
set_option maxRecDepth 2000
set_option linter.unusedVariables false
set_option linter.unusedSimpArgs false
set_option linter.unusedSectionVars false
/- What is right of a function's parts: walked. -/
namespace Go.Pl.Try
open M
set_option linter.unusedVariables false
theorem blkOf {w : World} {a : Option Addr} {n : Nat} {bs : List Blk} (h : RdBlocks w a n bs) {i : Nat} {b : Blk} (hi : bs[i]? = some b) :
    ∃ bb o ap np cp ai ni ci ae ne ce, a = some ⟨bb, o, none⟩ ∧ Row w bb (o + i * 6) [.slice ap np cp, .slice ai ni ci, .int .i64 b.fin.kind, .int .i64 b.fin.val, .slice ae ne ce, .int .i64 b.fin.trap] ∧
      RdI w ap np b.params ∧ RdS 7 RIns w ai ni b.ins ∧ RdS 2 REdge w ae ne b.fin.ways := by
  obtain ⟨bb, o, vs, ha, hrow, hvl, ap, np, cp, ai, ni, ci, ae, ne, ce, rfl, h1, h2, h3⟩ := h.at_ _ _ hi
  exact ⟨bb, o, ap, np, cp, ai, ni, ci, ae, ne, ce, ha, hrow, h1, h2, h3⟩
theorem nodup_snoc {l : List Int} {x : Int} : (l ++ [x]).Nodup ↔ l.Nodup ∧ x ∉ l := by
  rw [List.nodup_append]
  constructor
  · rintro ⟨h1, -, h3⟩
    exact ⟨h1, fun hx => h3 x hx x (by simp) rfl⟩
  · rintro ⟨h1, h2⟩
    refine ⟨h1, by simp, ?_⟩
    intro a ha b hb e
    simp at hb
    subst hb; subst e
    exact h2 ha
theorem once_false {f : Fnc} {l1 l2 l3 : List Int} {x : Int} (hf : f.made = l1 ++ x :: l2) (h : x ≤ 0 ∨ x ∈ l1) : once f = false := by
  unfold once
  rw [decide_eq_false_iff_not]
  rintro ⟨h1, h2⟩
  rw [hf] at h1 h2
  rcases h with h | h
  · have := h1 x (by simp); omega
  · rw [List.nodup_append] at h2
    exact h2.2.2 x h x (by simp) rfl
theorem once_w {w : World} {f : Fnc} {vs : List Value} (h : RFunc w vs f) (hl : f.Lim) :
    CallP Pg 26 [.agg ⟨vs⟩] w fun v w' => v = .bool (once f) ∧ Ext w w' := by
  obtain ⟨a, n, c, rfl, hb⟩ := h
  refine F26_ok _ _ _ _ ?_
  unfold F26
  refine alp (Hp.refl w) fun b3 w4 h4 => ?_
  refine alm h4 fun b5 w6 h6 => ⟨_, _, _, h6.cl 1 rfl rfl, ?_⟩
  have hbl := hb.len
  have hble := hb.le
  refine ⟨fun i w' c' => ∃ (j : Nat) (o : Obj), i = j ∧ j ≤ n ∧ c' = n - j ∧ Hp w w' [(b5, o)] ∧ MapO (setF ((f.blocks.take j).flatMap Blk.made)) o ∧ (∀ v ∈ (f.blocks.take j).flatMap Blk.made, 0 < v) ∧ ((f.blocks.take j).flatMap Blk.made).Nodup,
    ⟨n, 0, _, rfl, by omega, by omega, h6.sub (by simp), setF_nil, by simp, by simp⟩, ?_⟩
  rintro i w10 c' ⟨j, o, rfl, hj, rfl, h10, ho, hpos, hnd⟩
  refine sp_dec (fun hlt => ?_) (fun hge => ?_)
  · have hx : f.blocks[j]? = some f.blocks[j] := List.getElem?_eq_getElem (by omega)
    have hdrop : f.blocks.drop j = f.blocks[j] :: f.blocks.drop (j + 1) := List.drop_eq_getElem_cons (by omega)
    have hblim := hl.each _ (List.mem_of_getElem? hx)
    generalize f.blocks[j] = b at hx hdrop hblim
    have hmade : f.made = (f.blocks.take j).flatMap Blk.made ++ (b.made ++ (f.blocks.drop (j + 1)).flatMap Blk.made) := by
      unfold Fnc.made
      rw [← List.flatMap_cons, ← hdrop, ← List.flatMap_append, List.take_append_drop]
    obtain ⟨bb, ob, ap, np, cp, ai, ni, ci, ae, ne, ce, ha, hrow, hp, hi, he⟩ := blkOf hb hx
    refine ⟨by omega, by omega, ptAt_of ha ⟨_, _, _, _, _, _, _, _, _, _, _, _, h10.ext.row hrow, ?_⟩⟩
    refine alp h10 fun b21 w22 h22 => ?_
    refine stp h22 0 rfl (by simp) rfl fun w23 h23 => ?_
    have hpl := hp.len
    have hil := hi.len
    have hile := hi.le
    have hds := dsts_length b.ins
    have := hblim.params
    have := hblim.ins
    simp only [lim] at *
    refine ⟨_, _, _, h23.cl 0 rfl rfl, (cloneI_w (RdI.ext hp h23.ext) (by omega)).mono ?_⟩
    rintro v w26 ⟨a', c'', r, rfl, hs, hh⟩
    have h26 := h23.call hh
    refine ⟨_, _, _, rfl, _, _, _, (h26.perm List.perm_append_comm).cl 0 rfl rfl, ?_⟩
    have h26' := h26.perm List.perm_append_comm
    refine ⟨fun am nm cm i w' c' => ∃ (q : Nat) (r : Rw), i = q ∧ q ≤ ni ∧ c' = ni - q ∧ Sls 1 am nm cm ((b.params ++ dsts (b.ins.take q)).map (Value.int .i64)) r ∧
      Hp w w' ([(b21, Cl 47 [.slice ap np cp, .slice ai ni ci, .int .i64 b.fin.kind, .int .i64 b.fin.val, .slice ae ne ce, .int .i64 b.fin.trap]), (b5, o)] ++ (r.L 3 ((b.params ++ dsts (b.ins.take q)).map (Value.int .i64)) ++ [])),
      ⟨ni, 0, r, rfl, by omega, by omega, by simpa [dsts] using hs, by simpa [dsts, splice] using h26'⟩, ?_⟩
    rintro am nm cm i w32 c' ⟨q, r, rfl, hq, rfl, hs, h32⟩
    have hnm := hs.n_eq
    have hdq := dsts_length (b.ins.take q)
    rw [List.length_map, List.length_append] at hnm
    rw [List.length_take] at hdq
    refine sp_dec (fun hlt2 => ?_) (fun hge2 => ?_)
    · intro K hK
      have hy : b.ins[q]? = some b.ins[q] := List.getElem?_eq_getElem (by omega)
      generalize b.ins[q] = x at hy
      obtain ⟨bi, oi, vs, hai, hrowi, hvli, aa, na, ca, rfl, hargs⟩ := hi.at_ _ _ hy
      refine ⟨by omega, by omega, ptAt_of hai ⟨_, _, _, _, _, _, _, _, _, h32.ext.row hrowi, ?_⟩⟩
      refine alp h32 fun b52 w53 h53 => ?_
      refine stp h53 0 rfl (by simp) rfl fun w54 h54 => ?_
      have hd := dsts_step hy
      refine ⟨_, h54.cl 0 rfl rfl, sp_of (fun h0 => ?_) (fun h0 => ?_)⟩
      · have h0' : x.dst ≠ 0 := by simpa using h0
        refine ⟨_, h54.cl 0 rfl rfl, ?_⟩
        refine alp h54 fun b62 w63 h63 => ?_
        obtain ⟨a64, c64, w65, r64, happ, hs64, h65⟩ := app1 (ty := 34) slInts (by omega) hs [_, _, _, _] h63 0 rfl rfl rfl (by simp only [maxLen]; omega) (by omega)
        refine ⟨_, _, _, w65, happ, hK _ _ _ _ ⟨ni - (q + 1), by omega, q + 1, r64, wrap_succ (by omega), by omega, rfl, ?_, ?_⟩⟩
        · rw [hd, if_neg h0', ← List.append_assoc]; simpa using hs64
        · rw [hd, if_neg h0', ← List.append_assoc]; simpa using h65.drop 2
      · have h0' : x.dst = 0 := by simpa using h0
        have hd' : dsts (b.ins.take (q + 1)) = dsts (b.ins.take q) := by rw [hd, if_pos h0', List.append_nil]
        refine hK _ _ _ _ ⟨ni - (q + 1), by omega, q + 1, r, wrap_succ (by omega), by omega, rfl, ?_, ?_⟩
        · rw [hd']; exact hs
        · rw [hd']; exact h54.drop 1
    · have hqn : q = ni := by omega
      rw [List.take_of_length_le (by omega)] at hs h32 hnm
      have hm : b.params ++ dsts b.ins = b.made := rfl
      have hml : b.made.length ≤ 2097152 := by rw [← hm, List.length_append]; omega
      rw [hm] at hs h32
      rw [← List.length_append, hm] at hnm
      refine ⟨fun i w' c' => ∃ (s : Nat) (o : Obj), i = s ∧ s ≤ nm ∧ c' = nm - s ∧ Hp w w' ([(b21, Cl 47 [.slice ap np cp, .slice ai ni ci, .int .i64 b.fin.kind, .int .i64 b.fin.val, .slice ae ne ce, .int .i64 b.fin.trap]), (b5, o)] ++ (r.L 3 (b.made.map (Value.int .i64)) ++ [])) ∧
        MapO (setF ((f.blocks.take j).flatMap Blk.made ++ b.made.take s)) o ∧ (∀ v ∈ (f.blocks.take j).flatMap Blk.made ++ b.made.take s, 0 < v) ∧ ((f.blocks.take j).flatMap Blk.made ++ b.made.take s).Nodup,
        ⟨nm, 0, o, rfl, by omega, by omega, h32, by simpa using ho, by simpa using hpos, by simpa using hnd⟩, ?_⟩
      rintro i w58 c' ⟨s, o2, rfl, hs', rfl, h58, ho2, hpos2, hnd2⟩
      refine sp_dec (fun hlt3 => ?_) (fun hge3 => ?_)
      · have hz : b.made[s]? = some b.made[s] := List.getElem?_eq_getElem (by omega)
        have hsplit : b.made = b.made.take s ++ b.made[s] :: b.made.drop (s + 1) := by
          rw [← List.drop_eq_getElem_cons (by omega), List.take_append_drop]
        generalize b.made[s] = v at hz hsplit
        obtain ⟨bs, os, rfl, hcs⟩ := hs.cel_at [_, _] h58 (j := s) (v := .int .i64 v) (by rw [List.getElem?_map, hz]; rfl)
        refine ⟨by omega, by omega, ptAt_of rfl ⟨v, by simpa using hcs, ?_⟩⟩
        intro K1 hK1 K2 hK2
        have hfm : f.made = ((f.blocks.take j).flatMap Blk.made ++ b.made.take s) ++ v :: (b.made.drop (s + 1) ++ (f.blocks.drop (j + 1)).flatMap Blk.made) := by
          rw [hmade]
          conv => lhs; rw [hsplit]
          simp
        refine sp_dec (fun hv => ?_) (fun hv => ?_)
        · exact hK2 _ ⟨by rw [once_false (l3 := []) hfm (.inl hv)], h58.ext⟩
        · refine ⟨decide (v ∈ (f.blocks.take j).flatMap Blk.made ++ b.made.take s), ?_, sp_dec (fun hin => ?_) (fun hin => ?_)⟩
          · rw [look_map mpBool zB (h58.rmap 1 rfl ho2), getD_setF]
          · exact hK2 _ ⟨by rw [once_false (l3 := []) hfm (.inr hin)], h58.ext⟩
          · obtain ⟨w66, o3, hu, ho3, h66⟩ := upd_map mpBool h58 1 rfl ho2 v (.bool true)
            have ht : b.made.take (s + 1) = b.made.take s ++ [v] := by rw [List.take_add_one, hz]; rfl
            refine hK1 _ ⟨w66, hu, nm - (s + 1), by omega, s + 1, o3, wrap_succ (by simp only [maxLen]; omega), by omega, rfl, h66, ?_, ?_, ?_⟩
            · rw [ht, ← List.append_assoc]; exact ho3.add
            · rw [ht, ← List.append_assoc]
              intro y hy
              rcases List.mem_append.1 hy with hy | hy
              · exact hpos2 y hy
              · simp at hy; omega
            · rw [ht, ← List.append_assoc, nodup_snoc]
              exact ⟨hnd2, hin⟩
      · have hsn : s = nm := by omega
        have hst : b.made.take s = b.made := List.take_of_length_le (by omega)
        rw [hst] at ho2 hpos2 hnd2
        have ht : (f.blocks.take (j + 1)).flatMap Blk.made = (f.blocks.take j).flatMap Blk.made ++ b.made := by rw [List.take_add_one, hx]; simp
        refine ⟨n - (j + 1), by omega, j + 1, o2, wrap_succ (by omega), by omega, rfl, h58.sub (by simp), ?_, ?_, ?_⟩
        · rw [ht]; exact ho2
        · rw [ht]; exact hpos2
        · rw [ht]; exact hnd2
  · have hjn : j = n := by omega
    rw [List.take_of_length_le (by omega)] at hpos hnd
    refine ⟨?_, h10.ext⟩
    have : once f = true := by unfold once; rw [decide_eq_true_iff]; exact ⟨hpos, hnd⟩
    rw [this]
theorem ends_w {w : World} {f : Fnc} {vs : List Value} (h : RFunc w vs f) {e : Fin} {ae : Option Addr} {ne ce : Nat} (he : RdS 2 REdge w ae ne e.ways) :
    CallP Pg 27 [.agg ⟨vs⟩, .agg ⟨[.int .i64 e.kind, .int .i64 e.val, .slice ae ne ce, .int .i64 e.trap]⟩] w fun v w' => v = .bool (endsOk f.blocks e) ∧ Ext w w' := by
  obtain ⟨a, n, c, rfl, hb⟩ := h
  refine F27_ok _ _ _ _ _ _ _ _ _ _ ?_
  unfold F27
  refine alp (Hp.refl w) fun b7 w8 h8 => ?_
  refine alp h8 fun b9 w10 h10 => ?_
  refine alm h10 fun b11 w12 h12 => ?_
  obtain ⟨w13, o13, hu1, ho1, h13⟩ := upd_map mpEnds h12 0 rfl MapO.empty 1 (.int .i64 1)
  obtain ⟨w14, o14, hu2, ho2, h14⟩ := upd_map mpEnds h13 0 rfl ho1 2 (.int .i64 2)
  obtain ⟨w15, o15, hu3, ho3, h15⟩ := upd_map mpEnds h14 0 rfl ho2 3 (.int .i64 0)
  obtain ⟨w16, o16, hu4, ho4, h16⟩ := upd_map mpEnds h15 0 rfl ho3 4 (.int .i64 0)
  have hbl := hb.len
  have hble := hb.le
  have hel := he.len
  have hele := he.le
  refine ⟨w13, hu1, w14, hu2, w15, hu3, w16, hu4, _, h16.cl 1 rfl rfl, (if e.kind = 1 then 1 else if e.kind = 2 then 2 else 0 : Int), (decide (1 ≤ e.kind) && decide (e.kind ≤ 4)), ?_, ?_⟩
  · rw [look_map2 mpEnds zI (p := some b11) (h16.rmap 0 rfl ho4) e.kind]
    by_cases k4 : e.kind = 4
    · simp [k4]
    by_cases k3 : e.kind = 3
    · simp [k3]
    by_cases k2 : e.kind = 2
    · simp [k2]
    by_cases k1 : e.kind = 1
    · simp [k1]
    · have : ¬ (1 ≤ e.kind ∧ e.kind ≤ 4) := by omega
      simp [k1, k2, k3, k4]
      omega
  intro K hK K0 hK0
  have hbad : endsOk f.blocks e = false → K0 w16 := fun hf => hK0 _ ⟨by rw [hf], h16.ext⟩
  have hgood : endsOk f.blocks e = e.ways.all (wayOk f.blocks) → K w16 := by
    intro hall
    refine hK _ ⟨_, _, _, h16.cl 1 rfl rfl, ?_⟩
    refine ⟨fun i w' c' => ∃ (j : Nat), i = j ∧ j ≤ ne ∧ c' = ne - j ∧ Hp w w' [(b11, o16), (b9, Cl 45 [.int .i64 e.kind, .int .i64 e.val, .slice ae ne ce, .int .i64 e.trap]), (b7, Cl 29 [.string f.name, .slice a n c])] ∧ ((e.ways.take j).all (wayOk f.blocks)) = true,
      ⟨ne, 0, rfl, by omega, by omega, h16, by simp⟩, ?_⟩
    rintro i w25 c' ⟨j, rfl, hj, rfl, h25, hw⟩
    refine sp_dec (fun hlt => ?_) (fun hge => ?_)
    · have hx : e.ways[j]? = some e.ways[j] := List.getElem?_eq_getElem (by omega)
      generalize e.ways[j] = x at hx
      obtain ⟨bb, ob, vs, ha, hrow, hvl, aa, na, ca, rfl, hargs⟩ := he.at_ _ _ hx
      refine ⟨by omega, by omega, ptAt_of ha ⟨_, _, _, _, h25.ext.row hrow, ?_⟩⟩
      refine alp h25 fun b32 w33 h33 => ?_
      refine stp h33 0 rfl (by simp) rfl fun w34 h34 => ?_
      intro K35 hK35
      have hd := h34.drew
      have key : ∀ q, q = !wayOk f.blocks x → K35 q w34.drew := by
        intro q hq
        refine hK35 q _ ?_
        subst hq
        refine sp_of (fun hbw => ⟨?_, hd.ext⟩) (fun hgw => ?_)
        · rw [hall]
          have : (e.ways.all (wayOk f.blocks)) = false := by
            rw [List.all_eq_false]
            exact ⟨x, List.mem_of_getElem? hx, by simpa using hbw⟩
          rw [this]
        · have hgw' : wayOk f.blocks x = true := by simpa using hgw
          refine ⟨ne - (j + 1), by omega, j + 1, wrap_succ (by omega), by omega, rfl, hd.drop 1, ?_⟩
          rw [List.take_add_one, hx, List.all_append, hw]; simp [hgw']
      have hal := hargs.len
      refine ⟨_, hd.cl 0 rfl rfl, sp_dec (fun h1 => key _ ?_) (fun h1 => ⟨_, hd.cl 0 rfl rfl, _, _, _, hd.cl 3 rfl rfl, sp_dec (fun h2 => key _ ?_) (fun h2 => ?_)⟩)⟩
      · have : ¬ 1 ≤ x.to := by omega
        simp [wayOk, this]
      · have : ¬ x.to < f.blocks.length := by omega
        simp [wayOk, this]
      · have htl : x.to.toNat < f.blocks.length := by omega
        have hbk := List.getElem?_eq_getElem htl
        generalize f.blocks[x.to.toNat] = bk at hbk
        obtain ⟨bt, ot, ap, np, cp, ai, ni, ci, ax, nx, cx, hat, hrowt, hp, hi, hex⟩ := blkOf hb hbk
        refine ⟨_, _, _, hd.cl 0 rfl rfl, _, _, _, hd.cl 3 rfl rfl, _, hd.cl 0 rfl rfl, by omega, by omega, ptAt_of hat ⟨ap, np, cp, hd.ext.cel ?_, key _ ?_⟩⟩
        · exact hrowt 0 _ rfl
        · have hpl := hp.len
          have h1' : 1 ≤ x.to := by omega
          have h2' : x.to < f.blocks.length := by omega
          simp only [wayOk, h1', h2', hbk, decide_true, Bool.true_and]
          rw [← hal, ← hpl]
          exact congrArg Bool.not (decide_eq_decide.2 ⟨fun h => by omega, fun h => by omega⟩)
    · have : j = ne := by omega
      rw [List.take_of_length_le (by omega)] at hw
      exact ⟨by rw [hall, hw], h25.ext⟩
  have hend : endsOk f.blocks e = ((decide (1 ≤ e.kind) && decide (e.kind ≤ 4)) && decide (((ne : Nat) : Int) = if e.kind = 1 then 1 else if e.kind = 2 then 2 else 0) && (decide (e.kind = 4) == (decide (e.trap = 1) || decide (e.trap = 2))) &&
      ((decide (e.kind = 2) || decide (e.kind = 3)) == decide (0 < e.val)) && !decide (e.val < 0) && e.ways.all (wayOk f.blocks)) := by rw [endsOk, hel]
  rw [hend] at hbad hgood
  clear hend hK hK0
  obtain ⟨C, hC⟩ : ∃ x, x = (decide (1 ≤ e.kind) && decide (e.kind ≤ 4)) := ⟨_, rfl⟩
  obtain ⟨W, hW⟩ : ∃ x, x = decide (((ne : Nat) : Int) = if e.kind = 1 then 1 else if e.kind = 2 then 2 else 0) := ⟨_, rfl⟩
  obtain ⟨k4, hk4⟩ : ∃ x, x = decide (e.kind = 4) := ⟨_, rfl⟩
  obtain ⟨t1, ht1⟩ : ∃ x, x = decide (e.trap = 1) := ⟨_, rfl⟩
  obtain ⟨t2, ht2⟩ : ∃ x, x = decide (e.trap = 2) := ⟨_, rfl⟩
  obtain ⟨k2, hk2⟩ : ∃ x, x = decide (e.kind = 2) := ⟨_, rfl⟩
  obtain ⟨k3, hk3⟩ : ∃ x, x = decide (e.kind = 3) := ⟨_, rfl⟩
  obtain ⟨P, hP⟩ : ∃ x, x = decide (0 < e.val) := ⟨_, rfl⟩
  obtain ⟨N, hN⟩ : ∃ x, x = decide (e.val < 0) := ⟨_, rfl⟩
  obtain ⟨A, hA⟩ : ∃ x, x = e.ways.all (wayOk f.blocks) := ⟨_, rfl⟩
  rw [← hC, ← hW, ← hk4, ← ht1, ← ht2, ← hk2, ← hk3, ← hP, ← hN, ← hA] at hbad hgood
  refine sp_of (fun g1 => hbad (by simp only [← hC, ← hW, ← hk4, ← ht1, ← ht2, ← hk2, ← hk3, ← hP, ← hN] at *; revert g1; cases C <;> simp)) (fun g1 => ⟨_, _, _, h16.cl 1 rfl rfl, sp_of (fun g2 => hbad (by simp only [← hC, ← hW, ← hk4, ← ht1, ← ht2, ← hk2, ← hk3, ← hP, ← hN] at *; revert g2; cases W <;> simp)) (fun g2 => ⟨_, h16.cl 1 rfl rfl, _, h16.cl 1 rfl rfl, ?_⟩)⟩)
  simp only [← hC, ← hW] at g1 g2
  have e1 : C = true := by simpa using g1
  have e2 : W = true := by simpa using g2
  rw [e1, e2] at hbad hgood
  refine sp_of (fun g3 => sp_of (fun g4 => hbad (by simp only [← hC, ← hW, ← hk4, ← ht1, ← ht2, ← hk2, ← hk3, ← hP, ← hN] at *; subst g3; revert g4; cases k4 <;> simp)) (fun g4 => ?_)) (fun g3 => ⟨_, h16.cl 1 rfl rfl, sp_of (fun g4 => hbad (by simp only [← hC, ← hW, ← hk4, ← ht1, ← ht2, ← hk2, ← hk3, ← hP, ← hN] at *; subst g3; revert g4; cases k4 <;> cases t2 <;> simp)) (fun g4 => ?_)⟩)
  · have e3 : (k4 == (t1 || t2)) = true := by
      simp only [← hk4, ← ht1, ← ht2] at g3 g4
      subst g3; revert g4; cases k4 <;> simp
    rw [e3] at hbad hgood
    refine ⟨_, h16.cl 1 rfl rfl, sp_of (fun g5 => ⟨_, h16.cl 1 rfl rfl, sp_of (fun g6 => hbad (by simp only [← hC, ← hW, ← hk4, ← ht1, ← ht2, ← hk2, ← hk3, ← hP, ← hN] at *; subst g5; revert g6; cases P <;> simp)) (fun g6 => ⟨_, h16.cl 1 rfl rfl, sp_of (fun g7 => hbad (by simp only [← hC, ← hW, ← hk4, ← ht1, ← ht2, ← hk2, ← hk3, ← hP, ← hN] at *; subst g7; simp)) (fun g7 => hgood (by simp only [← hC, ← hW, ← hk4, ← ht1, ← ht2, ← hk2, ← hk3, ← hP, ← hN] at *; subst g7 g5; revert g6; cases P <;> simp))⟩)⟩)
      (fun g5 => ⟨_, h16.cl 1 rfl rfl, _, h16.cl 1 rfl rfl, sp_of (fun g6 => hbad (by simp only [← hC, ← hW, ← hk4, ← ht1, ← ht2, ← hk2, ← hk3, ← hP, ← hN] at *; subst g5; revert g6; cases P <;> cases k3 <;> simp)) (fun g6 => ⟨_, h16.cl 1 rfl rfl, sp_of (fun g7 => hbad (by simp only [← hC, ← hW, ← hk4, ← ht1, ← ht2, ← hk2, ← hk3, ← hP, ← hN] at *; subst g7; simp)) (fun g7 => hgood (by simp only [← hC, ← hW, ← hk4, ← ht1, ← ht2, ← hk2, ← hk3, ← hP, ← hN] at *; subst g7 g5; revert g6; cases P <;> cases k3 <;> simp))⟩)⟩)⟩
  · have e3 : (k4 == (t1 || t2)) = true := by
      simp only [← hk4, ← ht1, ← ht2] at g3 g4
      subst g3; revert g4; cases k4 <;> cases t2 <;> simp
    rw [e3] at hbad hgood
    refine ⟨_, h16.cl 1 rfl rfl, sp_of (fun g5 => ⟨_, h16.cl 1 rfl rfl, sp_of (fun g6 => hbad (by simp only [← hC, ← hW, ← hk4, ← ht1, ← ht2, ← hk2, ← hk3, ← hP, ← hN] at *; subst g5; revert g6; cases P <;> simp)) (fun g6 => ⟨_, h16.cl 1 rfl rfl, sp_of (fun g7 => hbad (by simp only [← hC, ← hW, ← hk4, ← ht1, ← ht2, ← hk2, ← hk3, ← hP, ← hN] at *; subst g7; simp)) (fun g7 => hgood (by simp only [← hC, ← hW, ← hk4, ← ht1, ← ht2, ← hk2, ← hk3, ← hP, ← hN] at *; subst g7 g5; revert g6; cases P <;> simp))⟩)⟩)
      (fun g5 => ⟨_, h16.cl 1 rfl rfl, _, h16.cl 1 rfl rfl, sp_of (fun g6 => hbad (by simp only [← hC, ← hW, ← hk4, ← ht1, ← ht2, ← hk2, ← hk3, ← hP, ← hN] at *; subst g5; revert g6; cases P <;> cases k3 <;> simp)) (fun g6 => ⟨_, h16.cl 1 rfl rfl, sp_of (fun g7 => hbad (by simp only [← hC, ← hW, ← hk4, ← ht1, ← ht2, ← hk2, ← hk3, ← hP, ← hN] at *; subst g7; simp)) (fun g7 => hgood (by simp only [← hC, ← hW, ← hk4, ← ht1, ← ht2, ← hk2, ← hk3, ← hP, ← hN] at *; subst g7 g5; revert g6; cases P <;> cases k3 <;> simp))⟩)⟩)⟩
theorem right_w {w : World} {p : Prg} {vs : List Value} (h : RProg w vs p) {i : Ins} {us : List Value} (hi : RIns w us i) :
    CallP Pg 30 [.agg ⟨vs⟩, .agg ⟨us⟩] w fun v w' => v = .bool (rightOk p i) ∧ Ext w w' := by
  obtain ⟨aa, na, ca, af, nf, cf, rfl, harr, hfun⟩ := h
  obtain ⟨ai, ni, ci, rfl, hargs⟩ := hi
  refine F30_ok _ _ _ _ _ _ _ _ _ _ _ _ _ _ _ _ ?_
  unfold F30
  refine alp (Hp.refl w) fun b11 w12 h12 => ?_
  refine alp h12 fun b13 w14 h14 => ⟨_, h14.cl 0 rfl rfl, (shape_w i.op w14).mono ?_⟩
  rintro v w17 ⟨rfl, rfl⟩
  refine ⟨_, _, rfl, ?_⟩
  have hal := hargs.len
  have harl := harr.len
  have hfl := hfun.len
  intro K20 hK20 K66 hK66
  obtain ⟨tail, htail⟩ : ∃ t : Bool, t = (if i.op = 2 then opKnown i.bin
   else if i.op = 3 ∨ i.op = 4 then decide (0 ≤ i.arr) && (match p.arrs[i.arr.toNat]? with | some a => decide (a.size = 0) | none => false)
   else if i.op = 5 ∨ i.op = 6 then decide (0 ≤ i.arr) && (match p.arrs[i.arr.toNat]? with | some a => decide (0 < a.size) | none => false)
   else if i.op = 7 then decide (0 ≤ i.fn) && (match p.funcs[i.fn.toNat]? with | some f => (match f.blocks with | b :: _ => decide (i.args.length = b.params.length) | [] => false) | none => false)
   else true) := ⟨_, rfl⟩
  have hE : rightOk p i = (!decide ((shapeOf i.op).1 = -2) && !(decide (0 ≤ (shapeOf i.op).1) && !decide (((ni : Nat) : Int) = (shapeOf i.op).1)) && ((shapeOf i.op).2 == decide (0 < i.dst)) && !decide (i.dst < 0) && tail) := by
    rw [htail, rightOk, hal]; rfl
  have hbad : rightOk p i = false → K66 w17 := fun hf => hK66 _ ⟨by rw [hf], h14.ext⟩
  have hgood : rightOk p i = tail → K20 w17 := by
    intro he
    refine hK20 _ ⟨_, h14.cl 0 rfl rfl, sp_dec (fun h2 => ?_) (fun h2 => ?_)⟩
    · refine ⟨_, h14.cl 0 rfl rfl, (known_op i.bin w17).mono ?_⟩
      rintro v w' ⟨rfl, rfl⟩
      exact ⟨_, rfl, by rw [he, htail, if_pos h2], h14.ext⟩
    rw [if_neg h2] at htail
    intro K27 hK27
    have k27 : ∀ x, x = decide (i.op = 3 ∨ i.op = 4) → K27 x w17 := by
      intro x hx
      refine hK27 x _ ?_
      subst hx
      refine sp_dec (fun h3 => ?_) (fun h3 => ?_)
      · rw [if_pos h3] at htail
        refine ⟨_, h14.cl 0 rfl rfl, sp_dec (fun h0 => ⟨_, h14.cl 0 rfl rfl, _, _, _, h14.cl 1 rfl rfl, sp_dec (fun hl => ?_) (fun hl => ?_)⟩) (fun h0 => ⟨?_, h14.ext⟩)⟩
        · have hx : p.arrs[i.arr.toNat]? = some p.arrs[i.arr.toNat] := List.getElem?_eq_getElem (by omega)
          generalize p.arrs[i.arr.toNat] = x at hx
          obtain ⟨bb, ob, vs, ha, hrow, hvl, rfl⟩ := harr.at_ _ _ hx
          refine ⟨_, _, _, h14.cl 1 rfl rfl, _, h14.cl 0 rfl rfl, h0, hl, ptAt_of ha ⟨x.size, h14.ext.cel (hrow 2 _ rfl), ?_, h14.ext⟩⟩
          rw [he, htail, hx]; simp [h0]
        · have : p.arrs[i.arr.toNat]? = none := List.getElem?_eq_none (by omega)
          refine ⟨?_, h14.ext⟩
          rw [he, htail, this]; simp
        · rw [he, htail]; simp [h0]
      · rw [if_neg h3] at htail
        intro K38 hK38
        have k38 : ∀ x, x = decide (i.op = 5 ∨ i.op = 6) → K38 x w17 := by
          intro x hx
          refine hK38 x _ ?_
          subst hx
          refine sp_dec (fun h5 => ?_) (fun h5 => ?_)
          · rw [if_pos h5] at htail
            refine ⟨_, h14.cl 0 rfl rfl, sp_dec (fun h0 => ⟨_, h14.cl 0 rfl rfl, _, _, _, h14.cl 1 rfl rfl, sp_dec (fun hl => ?_) (fun hl => ?_)⟩) (fun h0 => ⟨?_, h14.ext⟩)⟩
            · have hx : p.arrs[i.arr.toNat]? = some p.arrs[i.arr.toNat] := List.getElem?_eq_getElem (by omega)
              generalize p.arrs[i.arr.toNat] = x at hx
              obtain ⟨bb, ob, vs, ha, hrow, hvl, rfl⟩ := harr.at_ _ _ hx
              refine ⟨_, _, _, h14.cl 1 rfl rfl, _, h14.cl 0 rfl rfl, h0, hl, ptAt_of ha ⟨x.size, h14.ext.cel (hrow 2 _ rfl), ?_, h14.ext⟩⟩
              rw [he, htail, hx]; simp [h0]
            · have : p.arrs[i.arr.toNat]? = none := List.getElem?_eq_none (by omega)
              refine ⟨?_, h14.ext⟩
              rw [he, htail, this]; simp
            · rw [he, htail]; simp [h0]
          · rw [if_neg h5] at htail
            have hd := h14.drew
            refine sp_dec (fun h7 => ?_) (fun h7 => ?_)
            · rw [if_pos h7] at htail
              refine ⟨_, hd.cl 0 rfl rfl, sp_dec (fun h0 => ⟨_, hd.cl 0 rfl rfl, _, _, _, hd.cl 1 rfl rfl, sp_dec (fun hl => ?_) (fun hl => ?_)⟩) (fun h0 => ⟨?_, hd.ext⟩)⟩
              · have hx : p.funcs[i.fn.toNat]? = some p.funcs[i.fn.toNat] := List.getElem?_eq_getElem (by omega)
                generalize p.funcs[i.fn.toNat] = x at hx
                obtain ⟨bb, ob, vs, ha, hrow, hvl, ab, nb, cb, rfl, hbs⟩ := hfun.at_ _ _ hx
                have hbl := hbs.len
                refine ⟨_, _, _, hd.cl 1 rfl rfl, _, hd.cl 0 rfl rfl, h0, hl, ptAt_of ha ⟨ab, nb, cb, hd.ext.cel (hrow 1 _ rfl), sp_dec (fun hpos => ?_) (fun hpos => ?_)⟩⟩
                · obtain ⟨k, ks, hk⟩ : ∃ k ks, x.blocks = k :: ks := by
                    cases hq : x.blocks with
                    | nil => rw [hq] at hbl; simp at hbl; omega
                    | cons k ks => exact ⟨k, ks, rfl⟩
                  obtain ⟨bt, ot, ap, np, cp, ai2, ni2, ci2, ax, nx, cx, hat, hrowt, hp, hi, hex⟩ := blkOf hbs (i := 0) (b := k) (by rw [hk]; rfl)
                  have hpl := hp.len
                  refine ⟨_, _, _, hd.cl 0 rfl rfl, _, _, _, hd.cl 1 rfl rfl, _, hd.cl 0 rfl rfl, h0, hl, ptAt_of ha ⟨ab, nb, cb, hd.ext.cel (hrow 1 _ rfl), by omega, by omega, ptAt_of hat ⟨ap, np, cp, hd.ext.cel ?_, ?_, hd.ext⟩⟩⟩
                  · have := hrowt 0 _ rfl; simp only [Nat.zero_mul, Nat.add_zero] at this; exact this
                  · rw [he, htail, hx]
                    simp only [hk, h0, decide_true, Bool.true_and]
                    congr 1
                    exact decide_eq_decide.2 ⟨fun h => by omega, fun h => by omega⟩
                · have hq : x.blocks = [] := List.eq_nil_of_length_eq_zero (by omega)
                  refine ⟨?_, hd.ext⟩
                  rw [he, htail, hx]; simp [hq]
              · have : p.funcs[i.fn.toNat]? = none := List.getElem?_eq_none (by omega)
                refine ⟨?_, hd.ext⟩
                rw [he, htail, this]; simp
              · rw [he, htail]; simp [h0]
            · rw [if_neg h7] at htail
              exact ⟨by rw [he, htail], h14.ext⟩
        exact sp_dec (fun h5 => k38 _ (by simp [h5])) (fun h5 => k38 _ (by simp [h5]))
    exact sp_dec (fun h5 => k27 _ (by simp [h5])) (fun h5 => k27 _ (by simp [h5]))
  rw [hE] at hbad hgood
  clear hE htail hK20 hK66
  generalize (shapeOf i.op).1 = n at *
  generalize (shapeOf i.op).2 = has at *
  refine sp_dec (fun g1 => hbad (by simp [g1])) (fun g1 => ?_)
  refine sp_dec (fun g2 => ⟨_, _, _, h14.cl 0 rfl rfl, sp_of (fun g3 => hbad ?_) (fun g3 => ⟨_, h14.cl 0 rfl rfl, sp_of (fun g4 => hbad ?_) (fun g4 => ⟨_, h14.cl 0 rfl rfl, sp_dec (fun g5 => hbad ?_) (fun g5 => hgood ?_)⟩)⟩)⟩)
    (fun g2 => ⟨_, h14.cl 0 rfl rfl, sp_of (fun g4 => hbad ?_) (fun g4 => ⟨_, h14.cl 0 rfl rfl, sp_dec (fun g5 => hbad ?_) (fun g5 => hgood ?_)⟩)⟩)
  · simp only [g3, g2]; simp
  · have g4' : (has == decide (0 < i.dst)) = false := by simpa using g4
    rw [g4']; simp
  · simp [g5]
  · have g3' : decide (((ni : Nat) : Int) = n) = true := by simpa using g3
    have g4' : (has == decide (0 < i.dst)) = true := by simpa using g4
    rw [g3', g4']; simp [g1, g5]
  · have g4' : (has == decide (0 < i.dst)) = false := by simpa using g4
    rw [g4']; simp
  · simp [g5]
  · have g4' : (has == decide (0 < i.dst)) = true := by simpa using g4
    rw [g4']; simp [g1, g2, g5]
theorem check1_w {w : World} {p : Prg} {vs : List Value} (h : RProg w vs p) {i : Ins} {us : List Value} (hi : RIns w us i) {b o : Nat} (hb : Row w b o vs) :
    CallP Pg 29 [.agg ⟨us⟩, .pointer (some ⟨b, o, none⟩)] w fun v w' => v = .bool (!rightOk p i) ∧ Ext w w' := by
  have h' := h
  obtain ⟨aa, na, ca, af, nf, cf, rfl, harr, hfun⟩ := h
  have hi' := hi
  obtain ⟨ai, ni, ci, rfl, hargs⟩ := hi
  refine F29_ok _ _ _ _ _ _ _ _ _ _ _ ?_
  unfold F29
  refine alp (Hp.refl w) fun b10 w11 h11 => ?_
  refine ⟨_, _, _, _, _, _, _, h11.ext.row hb, _, _, _, _, _, _, _, _, _, h11.row 0 rfl, ?_⟩
  refine (right_w (h'.ext h11.ext) (hi'.ext' h11.ext)).mono ?_
  rintro v w23 ⟨rfl, hx⟩
  exact ⟨_, rfl, rfl, h11.ext.trans hx⟩
end Go.Pl.Try

/- What 'palings/taint.Writes' does, read off its translation by gen.py. -/
namespace Go.Pl.Try
set_option linter.unusedVariables false
set_option maxRecDepth 100000
def F15 (ax1 : Option Addr) (nx1 cx1 : Nat) (ax2 : Option Addr) (nx2 cx2 : Nat) (x3 : Int) (w : World) (R : Value → World → Prop) : Prop :=
  AlP 32 [.slice ax1 nx1 cx1, .slice ax2 nx2 cx2, .int .i64 x3] w fun b4 w5 =>
  ∃ (ax6 : Option Addr) (nx6 cx6 : Nat), cel w5 b4 0 = some (.slice ax6 nx6 cx6) ∧
  ∃ (ax7 : Option Addr) (nx7 cx7 : Nat), ∃ w8 : World, Sem.run Pg (Instr.makeSlice 75 (.int .i64 (nx6 : Nat)) (.int .i64 (nx6 : Nat))) w5 = .ok (.slice ax7 nx7 cx7) w8 ∧
  ∃ (ax9 : Option Addr) (nx9 cx9 : Nat), cel w8 b4 1 = some (.slice ax9 nx9 cx9) ∧
  ∃ J10 : Bool → Int → World → Nat → Prop, (∃ m14, J10 false 0 w8 m14) ∧
  ∀ (x11 : Bool) (x12 : Int), ∀ w13 m14, J10 x11 x12 w13 m14 →
  sp (decide ((x12 : Int) < (nx9 : Nat)))
  (0 ≤ (x12 : Int) ∧ (x12 : Int) < (nx9 : Nat) ∧
  ptAt ax9 fun b16 o17 =>
  ∃ (x18 : ByteArray) (ax19 : Option Addr) (nx19 cx19 : Nat), Row w13 b16 (o17 + x12.toNat * 2) [.string x18, .slice ax19 nx19 cx19] ∧
  AlP 29 [.string ⟨#[]⟩, .slice none 0 0] w13 fun b20 w21 =>
  StP b20 0 [.string x18, .slice ax19 nx19 cx19] w21 fun w22 =>
  ∃ (ax23 : Option Addr) (nx23 cx23 : Nat), cel w22 b20 1 = some (.slice ax23 nx23 cx23) ∧
  ∃ J24 : Bool → Int → World → Nat → Prop, (∃ m28, J24 x11 0 w22 m28) ∧
  ∀ (x25 : Bool) (x26 : Int), ∀ w27 m28, J24 x25 x26 w27 m28 →
  sp (decide ((x26 : Int) < (nx23 : Nat)))
  (0 ≤ (x26 : Int) ∧ (x26 : Int) < (nx23 : Nat) ∧
  ptAt ax23 fun b30 o31 =>
  ∃ (ax32 : Option Addr) (nx32 cx32 : Nat) (ax33 : Option Addr) (nx33 cx33 : Nat) (x34 : Int) (x35 : Int) (ax36 : Option Addr) (nx36 cx36 : Nat) (x37 : Int), Row w27 b30 (o31 + x26.toNat * 6) [.slice ax32 nx32 cx32, .slice ax33 nx33 cx33, .int .i64 x34, .int .i64 x35, .slice ax36 nx36 cx36, .int .i64 x37] ∧
  AlP 47 [.slice none 0 0, .slice none 0 0, .int .i64 0, .int .i64 0, .slice none 0 0, .int .i64 0] w27 fun b38 w39 =>
  StP b38 0 [.slice ax32 nx32 cx32, .slice ax33 nx33 cx33, .int .i64 x34, .int .i64 x35, .slice ax36 nx36 cx36, .int .i64 x37] w39 fun w40 =>
  ∃ (ax41 : Option Addr) (nx41 cx41 : Nat), cel w40 b38 1 = some (.slice ax41 nx41 cx41) ∧
  ∃ J42 : Bool → Int → World → Nat → Prop, (∃ m46, J42 x25 0 w40 m46) ∧
  ∀ (x43 : Bool) (x44 : Int), ∀ w45 m46, J42 x43 x44 w45 m46 →
  sp (decide ((x44 : Int) < (nx41 : Nat)))
  (∀ K48 : Bool → World → Prop, (∀ (x49 : Bool), ∀ w50, (
  ∃ m47, m47 < m46 ∧ J42 x49 (IntKind.wrap .i64 (x44 + 1)) w50 m47) → K48 x49 w50) →
  0 ≤ (x44 : Int) ∧ (x44 : Int) < (nx41 : Nat) ∧
  ptAt ax41 fun b51 o52 =>
  ∃ (x53 : Int) (x54 : Int) (ax55 : Option Addr) (nx55 cx55 : Nat) (x56 : Int) (x57 : Int) (x58 : Int) (x59 : Int), Row w45 b51 (o52 + x44.toNat * 7) [.int .i64 x53, .int .i64 x54, .slice ax55 nx55 cx55, .int .i64 x56, .int .i64 x57, .int .i64 x58, .int .i64 x59] ∧
  AlP 37 [.int .i64 0, .int .i64 0, .slice none 0 0, .int .i64 0, .int .i64 0, .int .i64 0, .int .i64 0] w45 fun b60 w61 =>
  StP b60 0 [.int .i64 x53, .int .i64 x54, .slice ax55 nx55 cx55, .int .i64 x56, .int .i64 x57, .int .i64 x58, .int .i64 x59] w61 fun w62 =>
  ∀ K63 : Bool → World → Prop, (∀ (x64 : Bool), ∀ w65, (
  ∃ (x66 : Int), cel w65 b60 0 = some (.int .i64 x66) ∧
  sp (decide ((x66 : Int) = 4))
  (∃ (x67 : Int), cel w65 b60 5 = some (.int .i64 x67) ∧
  sp (decide ((0 : Int) ≤ x67))
  (∃ (x68 : Int), cel w65 b60 5 = some (.int .i64 x68) ∧
  sp (decide ((x68 : Int) < (nx7 : Nat)))
  (∃ (x69 : Int), cel w65 b60 5 = some (.int .i64 x69) ∧
  0 ≤ (x69 : Int) ∧ (x69 : Int) < (nx7 : Nat) ∧
  ptAt ax7 fun b70 o71 =>
  StP b70 (o71 + x69.toNat * 1) [.bool true] w65 fun w72 =>
  K48 x64 w72)
  (K48 x64 w65))
  (K48 x64 w65))
  (K48 x64 w65)) → K63 x64 w65) →
  sp x43
  (K63 true w62)
  (∃ (x73 : Int), cel w62 b60 0 = some (.int .i64 x73) ∧
  K63 (decide ((x73 : Int) = 6)) w62))
  (∃ m29, m29 < m28 ∧ J24 x43 (IntKind.wrap .i64 (x26 + 1)) w45 m29))
  (∃ m15, m15 < m14 ∧ J10 x25 (IntKind.wrap .i64 (x12 + 1)) w27 m15))
  (∃ J74 : Int → World → Nat → Prop, (∃ m77, J74 0 w13 m77) ∧
  ∀ (x75 : Int), ∀ w76 m77, J74 x75 w76 m77 →
  sp (decide ((x75 : Int) < (nx7 : Nat)))
  (∀ K79 : World → Prop, (∀ w80, (
  ∃ m78, m78 < m77 ∧ J74 (IntKind.wrap .i64 (x75 + 1)) w80 m78) → K79 w80) →
  0 ≤ (x75 : Int) ∧ (x75 : Int) < (nx7 : Nat) ∧
  ptAt ax7 fun b81 o82 =>
  ∃ (x83 : Bool), cel w76 b81 (o82 + x75.toNat * 1) = some (.bool x83) ∧
  sp x83
  (0 ≤ (x75 : Int) ∧ (x75 : Int) < (nx7 : Nat) ∧
  ptAt ax7 fun b84 o85 =>
  StP b84 (o85 + x75.toNat * 1) [.bool true] w76 fun w86 =>
  K79 w86)
  (0 ≤ (x75 : Int) ∧ (x75 : Int) < (nx7 : Nat) ∧
  ptAt ax7 fun b87 o88 =>
  StP b87 (o88 + x75.toNat * 1) [.bool x11] w76 fun w89 =>
  K79 w89))
  (R (.slice ax7 nx7 cx7) w76))
def T15 : List Sh := [.v (.agg [.sl, .sl, (.int .i64)]), .v (.one .ptr), .v (.one .sl), .v (.one .sl), .v (.one .bool), .v (.one .any), .v (.one .ptr), .v (.one .any), .v (.one .ptr), .v (.one .any), .v (.one .ptr), .v (.one (.int .i64)), .v (.one .ptr), .v (.one .sl), .v (.one (.int .i64)), .v (.one .sl), .v (.one .ptr), .v (.one .sl), .v (.one (.int .i64)), .v (.one (.int .i64)), .v (.one .bool), .v (.one .ptr), .v (.agg [.str, .sl]), .v (.one .ptr), .v (.one .sl), .v (.one (.int .i64)), .v (.one (.int .i64)), .v (.one .bool), .v (.one .ptr), .v (.agg [.sl, .sl, (.int .i64), (.int .i64), .sl, (.int .i64)]), .v (.one .ptr), .v (.one .sl), .v (.one (.int .i64)), .v (.one (.int .i64)), .v (.one .bool), .v (.one .ptr), .v (.agg [(.int .i64), (.int .i64), .sl, (.int .i64), (.int .i64), (.int .i64), (.int .i64)]), .v (.one .bool), .v (.one .bool), .v (.one .ptr), .v (.one (.int .i64)), .v (.one .bool), .v (.one .bool), .v (.one .ptr), .v (.one (.int .i64)), .v (.one .bool), .v (.one .bool), .v (.one .ptr), .v (.one (.int .i64)), .v (.one .bool), .v (.one .bool), .v (.one .bool), .v (.one .ptr), .v (.one (.int .i64)), .v (.one .sl), .v (.one (.int .i64)), .v (.one .bool), .v (.one .bool), .v (.one .sl), .v (.one .ptr), .v (.one (.int .i64)), .v (.one .ptr), .v (.one (.int .i64)), .v (.one (.int .i64)), .v (.one (.int .i64)), .v (.one .sl), .v (.one (.int .i64)), .v (.one (.int .i64)), .v (.one .bool), .v (.one (.int .i64)), .v (.one .sl), .v (.one (.int .i64)), .v (.one .sl), .v (.one (.int .i64)), .v (.one .ptr), .v (.one .bool), .v (.one .bool), .v (.one .bool), .v (.one .bool), .v (.one .ptr), .v (.one (.int .i64)), .v (.one .sl)]
def A15 : Ann := (.seq none .z (.seq none .z (.seq none .z (.seq none (.seq none .z (.block none (.loop [4, 19] (.seq none .z (.seq none (.cond .z .z) (.seq none (.block none (.seq none .z (.seq none .z (.block none (.loop [4, 26] (.seq none .z (.seq none (.cond .z .z) (.seq none (.block none (.seq none .z (.seq none .z (.block none (.loop [4, 33] (.seq none .z (.seq none (.cond .z .z) (.seq none (.block (some [4]) (.seq none .z (.seq (some [4]) .z (.ifs none none .z .z)))) .z)))))))) .z)))))))) .z)))))) (.seq none (.seq none .z (.block none (.loop [67] (.seq none .z (.seq none (.cond .z .z) (.seq none (.block (some []) (.seq none .z .z)) .z)))))) (.seq none .z .z))))))
theorem F15_eq (ax1 : Option Addr) (nx1 cx1 : Nat) (ax2 : Option Addr) (nx2 cx2 : Nat) (x3 : Int) (w : World) (R : Value → World → Prop) : F15 ax1 nx1 cx1 ax2 nx2 cx2 x3 w R = denF Go.Proofs.Try.prog T15 Go.Proofs.Try.f15 A15 [.agg ⟨[.slice ax1 nx1 cx1, .slice ax2 nx2 cx2, .int .i64 x3]⟩] w R := by kernel_rfl
theorem F15_ok (ax1 : Option Addr) (nx1 cx1 : Nat) (ax2 : Option Addr) (nx2 cx2 : Nat) (x3 : Int) {w : World} {R : Value → World → Prop} (h : F15 ax1 nx1 cx1 ax2 nx2 cx2 x3 w R) : CallP Go.Proofs.Try.prog 15 [.agg ⟨[.slice ax1 nx1 cx1, .slice ax2 nx2 cx2, .int .i64 x3]⟩] w R :=
  calls_den (fun _ => drawn (by kernel_rfl)) Go.Proofs.Try.func15 (Nat.le_of_ble_eq_true (by kernel_rfl)) ((F15_eq ax1 nx1 cx1 ax2 nx2 cx2 x3 w R).mp h)
end Go.Pl.Try

/- Which arrays may ever be turned: walked. -/
namespace Go.Pl.Try
open M
set_option linter.unusedVariables false
theorem drop_flat {α β : Type} (g : α → List β) {l : List α} {j : Nat} {x : α} (h : l[j]? = some x) : (l.drop j).flatMap g = g x ++ (l.drop (j + 1)).flatMap g := by
  have hj := (List.getElem?_eq_some_iff.1 h).1
  rw [List.drop_eq_getElem_cons hj, List.flatMap_cons, (List.getElem?_eq_some_iff.1 h).2]
theorem drop_cons {α : Type} {l : List α} {j : Nat} {x : α} (h : l[j]? = some x) : l.drop j = x :: l.drop (j + 1) := by
  have hj := (List.getElem?_eq_some_iff.1 h).1
  rw [List.drop_eq_getElem_cons hj, (List.getElem?_eq_some_iff.1 h).2]
theorem at_some {α : Type} {l : List α} {j : Nat} (h : j < l.length) : ∃ x, l[j]? = some x := ⟨_, List.getElem?_eq_getElem h⟩
theorem setB {xs : List Bool} {i : Nat} (b : Bool) (h : i < xs.length) : splice (xs.map Value.bool) (0 + i * 1) [.bool b] = (xs.set i b).map Value.bool := by
  have := set_splice Value.bool xs i b h
  simpa using this
theorem writes_w {w : World} {p : Prg} {vs : List Value} (h : RProg w vs p) (hl : p.Lim) :
    CallP Pg 15 [.agg ⟨vs⟩] w fun v w' => ∃ b, v = .slice (some ⟨b, 0, none⟩) p.arrs.length p.arrs.length ∧ Hp w w' [(b, Cl 4 (p.writes.map .bool))] := by
  obtain ⟨aa, na, ca, af, nf, cf, rfl, harr, hfun⟩ := h
  have harl := harr.len
  have hfl := hfun.len
  have hfle := hfun.le
  have hal := hl.arrs
  simp only [lim] at hal
  refine F15_ok _ _ _ _ _ _ _ ?_
  unfold F15
  refine alp (Hp.refl w) fun b4 w5 h5 => ⟨_, _, _, h5.cl 0 rfl rfl, ?_⟩
  obtain ⟨bo, w8, hm, h8⟩ := make_run slBools zBool h5 na (by omega) (by simp only [maxLen]; omega)
  refine ⟨_, _, _, w8, hm, _, _, _, h8.cl 1 rfl rfl, ?_⟩
  generalize hbx : Cl 32 [.slice aa na ca, .slice af nf cf, .int .i64 p.main] = box at *
  obtain ⟨total, htot⟩ : ∃ t, t = p.allIns.foldl wStep (List.replicate p.arrs.length false, false) := ⟨_, rfl⟩
  have hwr : p.writes = total.1.map (· || total.2) := by rw [htot]; rfl
  refine ⟨fun any i w' c => ∃ (j : Nat) (out : List Bool), i = j ∧ j ≤ nf ∧ c = nf - j ∧ Hp w w' [(bo, Cl 4 (out.map .bool)), (b4, box)] ∧ out.length = na ∧ ((p.funcs.drop j).flatMap Fnc.allIns).foldl wStep (out, any) = total,
    ⟨nf, 0, List.replicate na false, rfl, by omega, by omega, by rw [List.map_replicate]; exact h8, by simp, by rw [htot, harl]; rfl⟩, ?_⟩
  rintro any i w13 c ⟨j, out, rfl, hj, rfl, h13, hol, hf⟩
  refine sp_dec (fun hlt => ?_) (fun hge => ?_)
  · obtain ⟨f, hx⟩ := at_some (l := p.funcs) (j := j) (by omega)
    obtain ⟨bb, ob, vs, ha, hrow, hvl, ab, nb, cb, rfl, hbs⟩ := hfun.at_ _ _ hx
    have hbl := hbs.len
    have hble := hbs.le
    rw [drop_flat Fnc.allIns hx, Fnc.allIns] at hf
    refine ⟨by omega, by omega, ptAt_of ha ⟨_, _, _, _, h13.ext.row hrow, ?_⟩⟩
    refine alp h13 fun b20 w21 h21 => ?_
    refine stp h21 0 rfl (by simp) rfl fun w22 h22 => ⟨_, _, _, h22.cl 0 rfl rfl, ?_⟩
    refine ⟨fun any i w' c => ∃ (q : Nat) (out : List Bool), i = q ∧ q ≤ nb ∧ c = nb - q ∧ Hp w w' [(b20, Cl 29 [.string f.name, .slice ab nb cb]), (bo, Cl 4 (out.map .bool)), (b4, box)] ∧ out.length = na ∧
        ((f.blocks.drop q).flatMap (·.ins) ++ (p.funcs.drop (j + 1)).flatMap Fnc.allIns).foldl wStep (out, any) = total,
      ⟨nb, 0, out, rfl, by omega, by omega, h22, hol, hf⟩, ?_⟩
    clear hf hol h13 h21 h22
    rintro any i w27 c ⟨q, out, rfl, hq, rfl, h27, hol, hf⟩
    refine sp_dec (fun hlt2 => ?_) (fun hge2 => ?_)
    · obtain ⟨b, hy⟩ := at_some (l := f.blocks) (j := q) (by omega)
      rw [drop_flat (·.ins) hy, List.append_assoc] at hf
      obtain ⟨bt, ot, ap, np, cp, ai, ni, ci, ae, ne, ce, hat, hrowt, hp, hi, he⟩ := blkOf hbs hy
      have hil := hi.len
      have hile := hi.le
      refine ⟨by omega, by omega, ptAt_of hat ⟨_, _, _, _, _, _, _, _, _, _, _, _, h27.ext.row hrowt, ?_⟩⟩
      refine alp h27 fun b38 w39 h39 => ?_
      refine stp h39 0 rfl (by simp) rfl fun w40 h40 => ⟨_, _, _, h40.cl 0 rfl rfl, ?_⟩
      generalize hB : (b38, Cl 47 (splice [.slice none 0 0, .slice none 0 0, .int .i64 0, .int .i64 0, .slice none 0 0, .int .i64 0] 0 [.slice ap np cp, .slice ai ni ci, .int .i64 b.fin.kind, .int .i64 b.fin.val, .slice ae ne ce, .int .i64 b.fin.trap])) = B at *
      refine ⟨fun any i w' c => ∃ (s : Nat) (out : List Bool), i = s ∧ s ≤ ni ∧ c = ni - s ∧ Hp w w' [B, (b20, Cl 29 [.string f.name, .slice ab nb cb]), (bo, Cl 4 (out.map .bool)), (b4, box)] ∧ out.length = na ∧
          (b.ins.drop s ++ ((f.blocks.drop (q + 1)).flatMap (·.ins) ++ (p.funcs.drop (j + 1)).flatMap Fnc.allIns)).foldl wStep (out, any) = total,
        ⟨ni, 0, out, rfl, by omega, by omega, h40, hol, hf⟩, ?_⟩
      clear hf hol h27 h39 h40
      rintro any i w45 c ⟨s, out, rfl, hs, rfl, h45, hol, hf⟩
      refine sp_dec (fun hlt3 => ?_) (fun hge3 => ?_)
      · intro K48 hK48
        obtain ⟨x, hz⟩ := at_some (l := b.ins) (j := s) (by omega)
        rw [drop_cons hz, List.cons_append, List.foldl_cons] at hf
        obtain ⟨bi, oi, vs, hai, hrowi, hvli, aa', na', ca', rfl, hargs⟩ := hi.at_ _ _ hz
        refine ⟨by omega, by omega, ptAt_of hai ⟨_, _, _, _, _, _, _, _, _, h45.ext.row hrowi, ?_⟩⟩
        refine alp h45 fun b60 w61 h61 => ?_
        refine stp h61 0 rfl (by simp) rfl fun w62 h62 => ?_
        intro K63 hK63
        have key : ∀ a, a = (any || decide (x.op = 6)) → K63 a w62 := by
          intro a ha
          refine hK63 a _ ?_
          have fin : ∀ w' out', Hp w w' [(b60, Cl 37 [.int .i64 x.op, .int .i64 x.dst, .slice aa' na' ca', .int .i64 x.num, .int .i64 x.bin, .int .i64 x.arr, .int .i64 x.fn]), B, (b20, Cl 29 [.string f.name, .slice ab nb cb]), (bo, Cl 4 (out'.map .bool)), (b4, box)] → out' = (wStep (out, any) x).1 → K48 a w' := by
            intro w' out' h' ho'
            refine hK48 _ _ ⟨ni - (s + 1), by omega, s + 1, out', wrap_succ (by omega), by omega, rfl, h'.drop 1, by rw [ho', wStep_len]; exact hol, ?_⟩
            have : (out', a) = wStep (out, any) x := by rw [ho', ha]; rfl
            rw [this]; exact hf
          refine ⟨_, h62.cl 0 rfl rfl, sp_dec (fun h4 => ⟨_, h62.cl 0 rfl rfl, sp_dec (fun h0 => ⟨_, h62.cl 0 rfl rfl, sp_dec (fun hlt => ⟨_, h62.cl 0 rfl rfl, h0, hlt, ptAt_of rfl ?_⟩) (fun hlt => fin _ out h62 ?_)⟩) (fun h0 => fin _ out h62 ?_)⟩) (fun h4 => fin _ out h62 ?_)⟩
          · refine stp h62 3 rfl (by simp; omega) rfl fun w72 h72 => ?_
            refine fin _ (out.set x.arr.toNat true) ?_ ?_
            · rw [setB true (by omega)] at h72; exact h72
            · simp only [wStep]; rw [if_pos ⟨h4, h0, by rw [hol]; exact hlt⟩]
          · simp only [wStep]; rw [if_neg (by rintro ⟨-, -, h⟩; rw [hol] at h; exact hlt h)]
          · simp only [wStep]; rw [if_neg (by rintro ⟨-, h, -⟩; exact h0 h)]
          · simp only [wStep]; rw [if_neg (by rintro ⟨h, -, -⟩; exact h4 h)]
        refine sp_of (fun ht => key _ (by rw [ht]; rfl)) (fun ht => ⟨_, h62.cl 0 rfl rfl, key _ (by rw [ht]; rfl)⟩)
      · rw [List.drop_of_length_le (by omega), List.nil_append] at hf
        exact ⟨nb - (q + 1), by omega, q + 1, out, wrap_succ (by omega), by omega, rfl, h45.drop 1, hol, hf⟩
    · rw [List.drop_of_length_le (by omega), List.flatMap_nil, List.nil_append] at hf
      exact ⟨nf - (j + 1), by omega, j + 1, out, wrap_succ (by omega), by omega, rfl, h27.drop 1, hol, hf⟩
  · have hjn : p.funcs.drop j = [] := List.drop_of_length_le (by omega)
    rw [hjn, List.flatMap_nil, List.foldl_nil] at hf
    refine ⟨fun i w' c => ∃ (k : Nat), i = k ∧ k ≤ na ∧ c = na - k ∧ Hp w w' [(bo, Cl 4 (((out.take k).map (· || any) ++ out.drop k).map .bool)), (b4, box)], ⟨na, 0, rfl, by omega, by omega, by simpa using h13⟩, ?_⟩
    rintro i w76 c ⟨k, rfl, hk, rfl, h76⟩
    refine sp_dec (fun hlt => ?_) (fun hge => ?_)
    · intro K hK
      obtain ⟨x, hx⟩ := at_some (l := out) (j := k) (by omega)
      have hlen : ((out.take k).map (· || any) ++ out.drop k).length = na := by simp; omega
      have hget : ((out.take k).map (· || any) ++ out.drop k)[k]? = some x := by
        rw [List.getElem?_append_right (by simp; omega)]
        simp only [List.length_map, List.length_take, Nat.min_eq_left (show k ≤ out.length by omega), Nat.sub_self]
        rw [drop_cons hx]; rfl
      have hnew : ((out.take k).map (· || any) ++ out.drop k).set k (x || any) = (out.take (k + 1)).map (· || any) ++ out.drop (k + 1) := by
        rw [List.set_append_right _ _ (by simp; omega)]
        simp only [List.length_map, List.length_take, Nat.min_eq_left (show k ≤ out.length by omega), Nat.sub_self]
        rw [drop_cons hx, List.set_cons_zero, List.take_add_one, hx]
        simp
      have fin : ∀ w', Hp w w' [(bo, Cl 4 ((((out.take k).map (· || any) ++ out.drop k).set k (x || any)).map .bool)), (b4, box)] → K w' := by
        intro w' h'
        rw [hnew] at h'
        exact hK _ ⟨na - (k + 1), by omega, k + 1, wrap_succ (by simp only [maxLen]; omega), by omega, rfl, h'⟩
      refine ⟨by omega, by omega, ptAt_of rfl ⟨x, h76.cl 0 rfl (by simp only [Nat.zero_add, Nat.mul_one, Int.toNat_natCast]; rw [List.getElem?_map, hget]; rfl), sp_of (fun hxt => ⟨by omega, by omega, ptAt_of rfl ?_⟩) (fun hxt => ⟨by omega, by omega, ptAt_of rfl ?_⟩)⟩⟩
      · refine stp h76 0 rfl (by simp; omega) rfl fun w86 h86 => fin _ ?_
        have := setB (xs := (out.take k).map (· || any) ++ out.drop k) (i := k) true (by omega)
        simp only [Int.toNat_natCast] at h86
        rw [this] at h86
        rw [hxt, Bool.true_or]; exact h86
      · refine stp h76 0 rfl (by simp; omega) rfl fun w86 h86 => fin _ ?_
        have := setB (xs := (out.take k).map (· || any) ++ out.drop k) (i := k) any (by omega)
        simp only [Int.toNat_natCast] at h86
        rw [this] at h86
        rw [hxt, Bool.false_or]; exact h86
    · have hkn : k = na := by omega
      rw [List.take_of_length_le (by omega), List.drop_of_length_le (by omega), List.append_nil] at h76
      refine ⟨bo, by rw [harl], ?_⟩
      rw [hwr, ← hf]
      exact h76.sub (by simp)
end Go.Pl.Try

/- What '(palings/ssa.Func).Reach' does, read off its translation by gen.py. -/
namespace Go.Pl.Try
set_option linter.unusedVariables false
set_option maxRecDepth 100000
def F16 (x1 : ByteArray) (ax2 : Option Addr) (nx2 cx2 : Nat) (w : World) (R : Value → World → Prop) : Prop :=
  AlP 29 [.string x1, .slice ax2 nx2 cx2] w fun b3 w4 =>
  ∃ (ax5 : Option Addr) (nx5 cx5 : Nat), cel w4 b3 1 = some (.slice ax5 nx5 cx5) ∧
  ∃ (ax6 : Option Addr) (nx6 cx6 : Nat), ∃ w7 : World, Sem.run Pg (Instr.makeSlice 75 (.int .i64 (nx5 : Nat)) (.int .i64 (nx5 : Nat))) w4 = .ok (.slice ax6 nx6 cx6) w7 ∧
  sp (decide (((nx6 : Nat) : Int) = 0))
  (R (.slice ax6 nx6 cx6) w7)
  (0 ≤ (0 : Int) ∧ (0 : Int) < (nx6 : Nat) ∧
  ptAt ax6 fun b8 o9 =>
  StP b8 o9 [.bool true] w7 fun w10 =>
  AlP 3 [.int .i64 0] w10 fun b11 w12 =>
  ∃ J13 : Option Addr → Nat → Nat → World → Nat → Prop, (∃ m16, J13 (some ⟨b11, 0, none⟩) 1 1 w12 m16) ∧
  ∀ (ax14 : Option Addr) (nx14 cx14 : Nat), ∀ w15 m16, J13 ax14 nx14 cx14 w15 m16 →
  sp (decide ((0 : Int) < (nx14 : Nat)))
  (∃ (ax18 : Option Addr) (nx18 cx18 : Nat), cel w15.drew b3 1 = some (.slice ax18 nx18 cx18) ∧
  0 ≤ (0 : Int) ∧ (0 : Int) < (nx14 : Nat) ∧
  ptAt ax14 fun b19 o20 =>
  ∃ (x21 : Int), cel w15.drew b19 o20 = some (.int .i64 x21) ∧
  0 ≤ (x21 : Int) ∧ (x21 : Int) < (nx18 : Nat) ∧
  ptAt ax18 fun b22 o23 =>
  ∃ (ax24 : Option Addr) (nx24 cx24 : Nat) (ax25 : Option Addr) (nx25 cx25 : Nat) (x26 : Int) (x27 : Int) (ax28 : Option Addr) (nx28 cx28 : Nat) (x29 : Int), Row w15.drew b22 (o23 + x21.toNat * 6) [.slice ax24 nx24 cx24, .slice ax25 nx25 cx25, .int .i64 x26, .int .i64 x27, .slice ax28 nx28 cx28, .int .i64 x29] ∧
  AlP 47 [.slice none 0 0, .slice none 0 0, .int .i64 0, .int .i64 0, .slice none 0 0, .int .i64 0] w15.drew fun b30 w31 =>
  Ext w15.drew w31 ∧
  StP b30 0 [.slice ax24 nx24 cx24, .slice ax25 nx25 cx25, .int .i64 x26, .int .i64 x27, .slice ax28 nx28 cx28, .int .i64 x29] w31 fun w32 =>
  ∃ (ax33 : Option Addr) (nx33 cx33 : Nat), Sem.run Pg (Instr.sliceAt 34 (.slice ax14 nx14 cx14) (some (.int .i64 1)) none none) w32 = .ok (.slice ax33 nx33 cx33) w32 ∧
  ∃ (ax34 : Option Addr) (nx34 cx34 : Nat), cel w32 b30 4 = some (.slice ax34 nx34 cx34) ∧
  ∃ J35 : Option Addr → Nat → Nat → Int → World → Nat → Prop, (∃ m39, J35 ax33 nx33 cx33 0 w32 m39) ∧
  ∀ (ax36 : Option Addr) (nx36 cx36 : Nat) (x37 : Int), ∀ w38 m39, J35 ax36 nx36 cx36 x37 w38 m39 →
  sp (decide ((x37 : Int) < (nx34 : Nat)))
  (∀ K41 : Option Addr → Nat → Nat → World → Prop, (∀ (ax42 : Option Addr) (nx42 cx42 : Nat), ∀ w43, (
  ∃ m40, m40 < m39 ∧ J35 ax42 nx42 cx42 (IntKind.wrap .i64 (x37 + 1)) w43 m40) → K41 ax42 nx42 cx42 w43) →
  0 ≤ (x37 : Int) ∧ (x37 : Int) < (nx34 : Nat) ∧
  ptAt ax34 fun b44 o45 =>
  ∃ (x46 : Int) (ax47 : Option Addr) (nx47 cx47 : Nat), Row w38 b44 (o45 + x37.toNat * 2) [.int .i64 x46, .slice ax47 nx47 cx47] ∧
  AlP 41 [.int .i64 0, .slice none 0 0] w38 fun b48 w49 =>
  StP b48 0 [.int .i64 x46, .slice ax47 nx47 cx47] w49 fun w50 =>
  ∃ (x51 : Int), cel w50 b48 0 = some (.int .i64 x51) ∧
  sp (decide ((0 : Int) ≤ x51))
  (∃ (x52 : Int), cel w50 b48 0 = some (.int .i64 x52) ∧
  sp (decide ((x52 : Int) < (nx6 : Nat)))
  (∃ (x53 : Int), cel w50 b48 0 = some (.int .i64 x53) ∧
  0 ≤ (x53 : Int) ∧ (x53 : Int) < (nx6 : Nat) ∧
  ptAt ax6 fun b54 o55 =>
  ∃ (x56 : Bool), cel w50 b54 (o55 + x53.toNat * 1) = some (.bool x56) ∧
  sp (!x56)
  (∃ (x57 : Int), cel w50 b48 0 = some (.int .i64 x57) ∧
  0 ≤ (x57 : Int) ∧ (x57 : Int) < (nx6 : Nat) ∧
  ptAt ax6 fun b58 o59 =>
  StP b58 (o59 + x57.toNat * 1) [.bool true] w50 fun w60 =>
  ∃ (x61 : Int), cel w60 b48 0 = some (.int .i64 x61) ∧
  AlP 3 [.int .i64 x61] w60 fun b62 w63 =>
  ∃ (ax64 : Option Addr) (nx64 cx64 : Nat), ∃ w65 : World, Sem.run Pg (Builtin.append_ #[34, 34] 34 ⟨[.slice ax36 nx36 cx36, .slice (some ⟨b62, 0, none⟩) 1 1]⟩) w63 = .ok (.slice ax64 nx64 cx64) w65 ∧
  K41 ax64 nx64 cx64 w65)
  (K41 ax36 nx36 cx36 w50))
  (K41 ax36 nx36 cx36 w50))
  (K41 ax36 nx36 cx36 w50))
  (∃ m17, m17 < m16 ∧ J13 ax36 nx36 cx36 w38 m17))
  (R (.slice ax6 nx6 cx6) w15))
def T16 : List Sh := [.v (.agg [.str, .sl]), .v (.one .ptr), .v (.one .sl), .v (.one .sl), .v (.one .sl), .v (.one .ptr), .v (.one .any), .v (.one .ptr), .v (.one .ptr), .v (.one .sl), .v (.one (.int .i64)), .v (.one .sl), .v (.one .sl), .v (.one (.int .i64)), .v (.one .bool), .v (.one .sl), .v (.one .sl), .v (.one .ptr), .v (.one .sl), .v (.one .sl), .v (.one (.int .i64)), .v (.one .bool), .v (.one .ptr), .v (.one .sl), .v (.one .sl), .v (.one .ptr), .v (.one (.int .i64)), .v (.one .ptr), .v (.agg [.sl, .sl, (.int .i64), (.int .i64), .sl, (.int .i64)]), .v (.one .sl), .v (.one .sl), .v (.one .ptr), .v (.one .ptr), .v (.one .sl), .v (.one (.int .i64)), .v (.one (.int .i64)), .v (.one .bool), .v (.one .ptr), .v (.agg [(.int .i64), .sl]), .v (.one .ptr), .v (.one (.int .i64)), .v (.one .bool), .v (.one .bool), .v (.one .ptr), .v (.one (.int .i64)), .v (.one .sl), .v (.one (.int .i64)), .v (.one .bool), .v (.one .bool), .v (.one .bool), .v (.one .sl), .v (.one .ptr), .v (.one (.int .i64)), .v (.one .ptr), .v (.one .bool), .v (.one .bool), .v (.one .bool), .v (.one .sl), .v (.one .ptr), .v (.one (.int .i64)), .v (.one .ptr), .v (.one .sl), .v (.one .ptr), .v (.one (.int .i64)), .v (.one .sl), .v (.one .sl), .v (.one (.int .i64)), .v (.one .sl)]
def A16 : Ann := (.seq none .z (.seq none .z (.seq none (.seq none .z (.cond (.seq none .z .z) .z)) (.seq none .z (.seq none .z (.seq none (.block none (.loop [4] (.seq none (.seq none .z (.cond .z .z)) (.block none (.seq none (.dr [0, 1, 0, 0, 1, 0, 1, 2, 3] [0, 1, 2, 3, 4, 5, 6, 7, 8]) (.seq none .z (.seq none .z (.block none (.loop [4, 35] (.seq none .z (.seq none (.cond .z .z) (.seq none (.block (some [4]) (.seq none .z (.ifs none none (.seq none .z .z) .z))) .z)))))))))))) (.seq none .z .z)))))))
theorem F16_eq (x1 : ByteArray) (ax2 : Option Addr) (nx2 cx2 : Nat) (w : World) (R : Value → World → Prop) : F16 x1 ax2 nx2 cx2 w R = denF Go.Proofs.Try.prog T16 Go.Proofs.Try.f16 A16 [.agg ⟨[.string x1, .slice ax2 nx2 cx2]⟩] w R := by kernel_rfl
theorem F16_ok (x1 : ByteArray) (ax2 : Option Addr) (nx2 cx2 : Nat) {w : World} {R : Value → World → Prop} (h : F16 x1 ax2 nx2 cx2 w R) : CallP Go.Proofs.Try.prog 16 [.agg ⟨[.string x1, .slice ax2 nx2 cx2]⟩] w R :=
  calls_den (fun _ => drawn (by kernel_rfl)) Go.Proofs.Try.func16 (Nat.le_of_ble_eq_true (by kernel_rfl)) ((F16_eq x1 ax2 nx2 cx2 w R).mp h)
end Go.Pl.Try

/- Reach, walked. -/
namespace Go.Pl.Try
open M
set_option linter.unusedVariables false
theorem count_set_false {out : List Bool} {i : Nat} (h : out[i]? = some false) : (out.set i true).count false + 1 = out.count false := by
  have hi := (List.getElem?_eq_some_iff.1 h).1
  have hv := (List.getElem?_eq_some_iff.1 h).2
  rw [List.count_set hi]
  have : 0 < out.count false := by
    rw [List.count_pos_iff]
    exact hv ▸ List.getElem_mem hi
  simp [hv]
  omega
theorem reach_w (nm : ByteArray) {a : Option Addr} {n c : Nat} {bs : List Blk} {w : World} (h : RdBlocks w a n bs) (hn : n ≤ 4294967296) (rfin : List Bool) (h0 : n = 0 → rfin = [])
    (hr : n ≠ 0 → ∃ k, reachGo bs k ((List.replicate n false).set 0 true) [0] = some rfin) :
    CallP Pg 16 [.agg ⟨[.string nm, .slice a n c]⟩] w fun v w' => ∃ b, v = .slice (some ⟨b, 0, none⟩) n n ∧ Hp w w' [(b, Cl 4 (rfin.map .bool))] := by
  refine F16_ok nm a n c ?_
  unfold F16
  refine alp (Hp.refl w) fun b3 w4 h4 => ?_
  refine ⟨_, _, _, h4.cl 0 rfl rfl, ?_⟩
  obtain ⟨b6, w7, hm, h7⟩ := make_run slBools zBool h4 n (by omega) (by simp only [maxLen]; omega)
  refine ⟨_, _, _, w7, hm, ?_⟩
  refine sp_dec (fun hz => ?_) (fun hz => ?_)
  · have hz' : n = 0 := by omega
    subst hz'
    refine ⟨b6, rfl, ?_⟩
    rw [h0 rfl]
    exact h7.sub (by simp)
  · have hn0 : 0 < n := by omega
    obtain ⟨k, hk⟩ := hr (by omega)
    refine ⟨by omega, by omega, ptAt_of rfl ?_⟩
    refine stp h7 0 rfl (by simp; omega) rfl fun w10 h10 => ?_
    refine alp h10 fun b11 w12 h12 => ?_
    refine ⟨fun a' n' c' w' m => ∃ out todo r, Sls 1 a' n' c' (todo.map (Value.int .i64)) r ∧ Hp w w' ([(b6, Cl 4 (out.map Value.bool)), (b3, Cl 29 [.string nm, .slice a n c])] ++ (r.L 3 (todo.map (Value.int .i64)) ++ [])) ∧
      out.length = n ∧ todo.length + out.count false ≤ n ∧ reachGo bs m out todo = some rfin, ?_, ?_⟩
    · refine ⟨k, _, [0], .at b11 [] [], ⟨rfl, rfl, rfl, by simp only [maxLen]; omega, Nat.le_refl _⟩, ?_, ?_, ?_, hk⟩
      · have e : splice (List.replicate n (Value.bool false)) 0 [.bool true] = ((List.replicate n false).set 0 true).map Value.bool := by
          have := set_splice Value.bool (List.replicate n false) 0 true (by simpa using hn0)
          rw [List.map_replicate] at this
          exact this
        simp only [List.set, e] at h12
        exact h12.perm (by exact List.Perm.trans (List.Perm.swap _ _ _) (List.Perm.cons _ (List.Perm.swap _ _ _)))
      · simp
      · have := count_set_false (out := List.replicate n false) (i := 0) (by simp [hn0])
        simp at this ⊢
        omega
    · rintro a' n' c' w' m ⟨out, todo, r, hs, hh, ho, hcnt, hgo⟩
      have hn' : n' = todo.length := by have := hs.1; simp at this; omega
      refine sp_dec (fun hlt => ?_) (fun hge => ?_)
      · obtain ⟨t, todo, rfl⟩ : ∃ t td, todo = t :: td := by
          cases todo with
          | nil => simp at hn'; omega
          | cons t td => exact ⟨t, td, rfl⟩
        obtain ⟨m, rfl⟩ : ∃ k, m = k + 1 := by
          cases m with
          | zero => simp [reachGo] at hgo
          | succ k => exact ⟨k, rfl⟩
        simp only [reachGo] at hgo
        split at hgo
        case h_2 => cases hgo
        rename_i blk hblk
        split at hgo
        case isFalse => cases hgo
        rename_i ht0
        have htn : t.toNat < n := by rw [← h.len]; exact (List.getElem?_eq_some_iff.1 hblk).1
        have hd := hh.drew
        obtain ⟨bt, ot, rfl, hct⟩ := hs.cel_at [_, _] hd (j := 0) (v := .int .i64 t) (by simp)
        obtain ⟨bb, ob, vb, ha, hrow, hvl, ap, np, cp, ai, ni, ci, ae, ne, ce, rfl, hp, hi, he⟩ := h.at_ _ _ hblk
        refine ⟨_, _, _, hd.cl 1 rfl rfl, by omega, by omega, ptAt_of rfl ⟨t, hct, ht0, by omega, ptAt_of ha ⟨_, _, _, _, _, _, _, _, _, _, _, _, hd.ext.row hrow, ?_⟩⟩⟩
        refine alpx hd fun b30 w31 hx31 h31 => ⟨hx31, ?_⟩
        refine stp h31 0 rfl (by simp) rfl fun w32 h32 => ?_
        obtain ⟨a33, c33, r33, hcut, hs33, h33⟩ := cut_run (k := 1) slInts hs [_, _, _] h32 (by omega) hs.c_le
        refine ⟨_, _, _, hcut, _, _, _, h33.cl 0 rfl rfl, ?_⟩
        simp only [List.map_cons, Nat.one_mul, List.drop_succ_cons, List.drop_zero] at hs33 h33
        refine ⟨fun a'' n'' c'' i w'' m'' => ∃ j out' todo' r', i = (j : Nat) ∧ j ≤ ne ∧ m'' = ne - j ∧ Sls 1 a'' n'' c'' (todo'.map (Value.int .i64)) r' ∧
          Hp w w'' ([(b30, Cl 47 [.slice ap np cp, .slice ai ni ci, .int .i64 blk.fin.kind, .int .i64 blk.fin.val, .slice ae ne ce, .int .i64 blk.fin.trap]), (b6, Cl 4 (out'.map Value.bool)), (b3, Cl 29 [.string nm, .slice a n c])] ++ (r'.L 3 (todo'.map (Value.int .i64)) ++ [])) ∧
          out'.length = n ∧ todo'.length + out'.count false ≤ n ∧ reachIn bs.length (blk.fin.ways.drop j) out' todo' = reachIn bs.length blk.fin.ways out todo, ?_, ?_⟩
        · refine ⟨ne, 0, out, todo, r33, rfl, Nat.zero_le _, rfl, hs33, h33, ho, ?_, rfl⟩
          simp at hcnt
          omega
        · rintro a'' n'' c'' i w'' m'' ⟨j, out', todo', r', rfl, hj, rfl, hs', hh', ho', hcnt', heq⟩
          refine sp_dec (fun hlt' => ?_) (fun hge' => ?_)
          · have hjn : j < ne := by omega
            obtain ⟨e, hej⟩ : ∃ e, blk.fin.ways[j]? = some e := ⟨_, List.getElem?_eq_getElem (by rw [he.len]; exact hjn)⟩
            have hdrop : blk.fin.ways.drop j = e :: blk.fin.ways.drop (j + 1) := by
              rw [List.drop_eq_getElem_cons (by rw [he.len]; exact hjn)]
              rw [(List.getElem?_eq_some_iff.1 hej).2]
            rw [hdrop] at heq
            simp only [reachIn] at heq
            intro K41 hK
            obtain ⟨bw, ow, vw, hae, hroww, hvlw, wa, wn, wc, rfl, hwargs⟩ := he.at_ _ _ hej
            refine ⟨by omega, by omega, ptAt_of hae ⟨_, _, _, _, hh'.ext.row hroww, ?_⟩⟩
            refine alp hh' fun b48 w49 h49 => ?_
            refine stp h49 0 rfl (by simp) rfl fun w50 h50 => ?_
            have hstep : ∀ {j'}, j' = j + 1 → IntKind.wrap .i64 ((j : Int) + 1) = (j' : Nat) := fun e => by subst e; exact wrap_succ (by have := he.le; omega)
            have hskip : reachIn bs.length (blk.fin.ways.drop (j + 1)) out' todo' = reachIn bs.length blk.fin.ways out todo → ∃ m40, m40 < ne - j ∧ ∃ j1 out1 todo1 r1, IntKind.wrap .i64 ((j : Int) + 1) = (j1 : Nat) ∧ j1 ≤ ne ∧ m40 = ne - j1 ∧ Sls 1 a'' n'' c'' (todo1.map (Value.int .i64)) r1 ∧
                Hp w w50 ([(b30, Cl 47 [.slice ap np cp, .slice ai ni ci, .int .i64 blk.fin.kind, .int .i64 blk.fin.val, .slice ae ne ce, .int .i64 blk.fin.trap]), (b6, Cl 4 (out1.map Value.bool)), (b3, Cl 29 [.string nm, .slice a n c])] ++ (r1.L 3 (todo1.map (Value.int .i64)) ++ [])) ∧
                out1.length = n ∧ todo1.length + out1.count false ≤ n ∧ reachIn bs.length (blk.fin.ways.drop j1) out1 todo1 = reachIn bs.length blk.fin.ways out todo := fun heq =>
              ⟨ne - (j + 1), by omega, j + 1, out', todo', r', hstep rfl, by omega, rfl, hs', h50.drop 1, ho', hcnt', heq⟩
            refine ⟨_, h50.cl 0 rfl rfl, sp_dec (fun he0 => ?_) (fun he0 => ?_)⟩
            · refine ⟨_, h50.cl 0 rfl rfl, sp_dec (fun hen => ?_) (fun hen => ?_)⟩
              · have hen' : e.to.toNat < n := by omega
                obtain ⟨x, hx⟩ : ∃ x, out'[e.to.toNat]? = some x := ⟨_, List.getElem?_eq_getElem (by omega)⟩
                refine ⟨_, h50.cl 0 rfl rfl, he0, hen, ptAt_of rfl ⟨x, ?_, ?_⟩⟩
                · exact h50.cl 2 rfl (by simp [hx])
                · cases x with
                  | true =>
                    refine hK _ _ _ _ (hskip ?_)
                    rw [← heq, if_neg]
                    simp [hx]
                  | false =>
                    refine ⟨_, h50.cl 0 rfl rfl, he0, hen, ptAt_of rfl ?_⟩
                    refine stp h50 2 rfl (by simp; omega) rfl fun w60 h60 => ?_
                    refine ⟨_, h60.cl 0 rfl rfl, ?_⟩
                    refine alp h60 fun b62 w63 h63 => ?_
                    have hn'' := hs'.n_eq
                    simp at hn''
                    have hcf := count_set_false hx
                    obtain ⟨a64, c64, w65, r64, happ, hs64, h65⟩ := app1 (ty := 34) slInts (by omega) hs' [_, _, _, _, _] h63 0 rfl rfl rfl (by simp only [maxLen]; omega) (by omega)
                    refine ⟨_, _, _, w65, happ, ?_⟩
                    have hsp : splice (out'.map Value.bool) (0 + e.to.toNat * 1) [.bool true] = (out'.set e.to.toNat true).map Value.bool := by
                      simpa using set_splice Value.bool out' e.to.toNat true (by omega)
                    have h66 := h65.drop 2
                    simp only [hsp] at h66
                    refine hK _ _ _ _ ⟨ne - (j + 1), by omega, j + 1, out'.set e.to.toNat true, todo' ++ [e.to], r64, hstep rfl, by omega, rfl, by simpa using hs64, by simpa using h66, by simpa using ho', by simp; omega, ?_⟩
                    rw [← heq, if_pos ⟨he0, by rw [h.len]; exact hen, hx⟩]
              · refine hK _ _ _ _ (hskip ?_)
                rw [← heq, if_neg]
                rw [h.len]; omega
            · refine hK _ _ _ _ (hskip ?_)
              rw [← heq, if_neg]
              omega
          · have hjn : j = ne := by omega
            rw [List.drop_eq_nil_of_le (by rw [he.len]; omega)] at heq
            simp only [reachIn] at heq
            rw [← heq] at hgo
            exact ⟨m, Nat.lt_succ_self m, out', todo', r', hs', hh'.drop 1, ho', hcnt', hgo⟩
      · have : todo = [] := List.eq_nil_of_length_eq_zero (by omega)
        subst this
        cases m with
        | zero => simp [reachGo] at hgo
        | succ m =>
          simp [reachGo] at hgo
          subst hgo
          exact ⟨b6, rfl, hh.sub (by simp)⟩
end Go.Pl.Try

/- What '(palings/ssa.Func).known' does, read off its translation by gen.py. -/
namespace Go.Pl.Try
set_option linter.unusedVariables false
set_option maxRecDepth 100000
def F31 (x1 : ByteArray) (ax2 : Option Addr) (nx2 cx2 : Nat) (w : World) (R : Value → World → Prop) : Prop :=
  AlP 29 [.string x1, .slice ax2 nx2 cx2] w fun b3 w4 =>
  ∃ (ax5 : Option Addr) (nx5 cx5 : Nat), cel w4 b3 1 = some (.slice ax5 nx5 cx5) ∧
  ∃ (ax6 : Option Addr) (nx6 cx6 : Nat), ∃ w7 : World, Sem.run Pg (Instr.makeSlice 48 (.int .i64 (nx5 : Nat)) (.int .i64 (nx5 : Nat))) w4 = .ok (.slice ax6 nx6 cx6) w7 ∧
  ∃ (x8 : ByteArray) (ax9 : Option Addr) (nx9 cx9 : Nat), Row w7 b3 0 [.string x8, .slice ax9 nx9 cx9] ∧
  CallP Pg 16 [.agg ⟨[.string x8, .slice ax9 nx9 cx9]⟩] w7 fun v10 w11 => ∃ (ax12 : Option Addr) (nx12 cx12 : Nat), v10 = .slice ax12 nx12 cx12 ∧
  ∃ J13 : Bool → World → Nat → Prop, (∃ m16, J13 true w11 m16) ∧
  ∀ (x14 : Bool), ∀ w15 m16, J13 x14 w15 m16 →
  sp x14
  (∃ (ax18 : Option Addr) (nx18 cx18 : Nat), cel w15 b3 1 = some (.slice ax18 nx18 cx18) ∧
  ∃ J19 : Bool → Int → World → Nat → Prop, (∃ m23, J19 false 0 w15 m23) ∧
  ∀ (x20 : Bool) (x21 : Int), ∀ w22 m23, J19 x20 x21 w22 m23 →
  sp (decide ((x21 : Int) < (nx18 : Nat)))
  (∀ K25 : Bool → World → Prop, (∀ (x26 : Bool), ∀ w27, (
  ∃ m24, m24 < m23 ∧ J19 x26 (IntKind.wrap .i64 (x21 + 1)) w27 m24) → K25 x26 w27) →
  0 ≤ (x21 : Int) ∧ (x21 : Int) < (nx18 : Nat) ∧
  ptAt ax18 fun b28 o29 =>
  ∃ (ax30 : Option Addr) (nx30 cx30 : Nat) (ax31 : Option Addr) (nx31 cx31 : Nat) (x32 : Int) (x33 : Int) (ax34 : Option Addr) (nx34 cx34 : Nat) (x35 : Int), Row w22 b28 (o29 + x21.toNat * 6) [.slice ax30 nx30 cx30, .slice ax31 nx31 cx31, .int .i64 x32, .int .i64 x33, .slice ax34 nx34 cx34, .int .i64 x35] ∧
  AlP 47 [.slice none 0 0, .slice none 0 0, .int .i64 0, .int .i64 0, .slice none 0 0, .int .i64 0] w22 fun b36 w37 =>
  StP b36 0 [.slice ax30 nx30 cx30, .slice ax31 nx31 cx31, .int .i64 x32, .int .i64 x33, .slice ax34 nx34 cx34, .int .i64 x35] w37 fun w38 =>
  ∀ K39 : World → Prop, (∀ w40, (
  ∀ K41 : Bool → World → Prop, (∀ (x42 : Bool), ∀ w43, (
  0 ≤ (x21 : Int) ∧ (x21 : Int) < (nx6 : Nat) ∧
  ptAt ax6 fun b44 o45 =>
  ∃ (x46 : Option Nat), cel w43.drew b44 (o45 + x21.toNat * 1) = some (.map x46) ∧
  ∃ (ax47 : Option Addr) (nx47 cx47 : Nat) (ax48 : Option Addr) (nx48 cx48 : Nat) (x49 : Int) (x50 : Int) (ax51 : Option Addr) (nx51 cx51 : Nat) (x52 : Int), Row w43.drew b36 0 [.slice ax47 nx47 cx47, .slice ax48 nx48 cx48, .int .i64 x49, .int .i64 x50, .slice ax51 nx51 cx51, .int .i64 x52] ∧
  CallP Pg 56 [.map x46, .agg ⟨[.slice ax47 nx47 cx47, .slice ax48 nx48 cx48, .int .i64 x49, .int .i64 x50, .slice ax51 nx51 cx51, .int .i64 x52]⟩] w43.drew fun v53 w54 => ∃ (x55 : Option Nat), v53 = .map x55 ∧
  ∃ (ax56 : Option Addr) (nx56 cx56 : Nat), cel w54 b36 4 = some (.slice ax56 nx56 cx56) ∧
  ∃ J57 : Bool → Int → World → Nat → Prop, (∃ m61, J57 x42 0 w54 m61) ∧
  ∀ (x58 : Bool) (x59 : Int), ∀ w60 m61, J57 x58 x59 w60 m61 →
  sp (decide ((x59 : Int) < (nx56 : Nat)))
  (∀ K63 : Bool → World → Prop, (∀ (x64 : Bool), ∀ w65, (
  ∃ m62, m62 < m61 ∧ J57 x64 (IntKind.wrap .i64 (x59 + 1)) w65 m62) → K63 x64 w65) →
  0 ≤ (x59 : Int) ∧ (x59 : Int) < (nx56 : Nat) ∧
  ptAt ax56 fun b66 o67 =>
  ∃ (x68 : Int) (ax69 : Option Addr) (nx69 cx69 : Nat), Row w60 b66 (o67 + x59.toNat * 2) [.int .i64 x68, .slice ax69 nx69 cx69] ∧
  AlP 41 [.int .i64 0, .slice none 0 0] w60 fun b70 w71 =>
  StP b70 0 [.int .i64 x68, .slice ax69 nx69 cx69] w71 fun w72 =>
  ∃ (x73 : Int), cel w72 b70 0 = some (.int .i64 x73) ∧
  CallP Pg 57 [.slice ax6 nx6 cx6, .int .i64 x73, .map x55] w72 fun v74 w75 => ∃ (x76 : Bool), v74 = .bool x76 ∧
  sp x76
  (K63 true w75)
  (K63 x58 w75))
  (K25 x58 w60)) → K41 x42 w43) →
  0 ≤ (x21 : Int) ∧ (x21 : Int) < (nx6 : Nat) ∧
  ptAt ax6 fun b77 o78 =>
  ∃ (x79 : Option Nat), cel w40 b77 (o78 + x21.toNat * 1) = some (.map x79) ∧
  ∃ (x80 : Bool), Sem.run Pg (do eqGuard .eql 56 (.tmp 45) (.const (.map none)) (.map x79) (.map none); binOp .eql 56 (.map x79) (.map none)) w40 = .ok (.bool x80) w40 ∧
  sp x80
  (AlM w40 fun b81 w82 =>
  0 ≤ (x21 : Int) ∧ (x21 : Int) < (nx6 : Nat) ∧
  ptAt ax6 fun b83 o84 =>
  StP b83 (o84 + x21.toNat * 1) [.map (some b81)] w82 fun w85 =>
  K41 true w85)
  (K41 x20 w40)) → K39 w40) →
  0 ≤ (x21 : Int) ∧ (x21 : Int) < (nx12 : Nat) ∧
  ptAt ax12 fun b86 o87 =>
  ∃ (x88 : Bool), cel w38 b86 (o87 + x21.toNat * 1) = some (.bool x88) ∧
  sp (!x88)
  (K25 x20 w38)
  (sp (decide ((0 : Int) < x21))
  (0 ≤ (x21 : Int) ∧ (x21 : Int) < (nx6 : Nat) ∧
  ptAt ax6 fun b89 o90 =>
  ∃ (x91 : Option Nat), cel w38 b89 (o90 + x21.toNat * 1) = some (.map x91) ∧
  ∃ (x92 : Bool), Sem.run Pg (do eqGuard .eql 56 (.tmp 38) (.const (.map none)) (.map x91) (.map none); binOp .eql 56 (.map x91) (.map none)) w38 = .ok (.bool x92) w38 ∧
  sp x92
  (K25 x20 w38)
  (K39 w38))
  (K39 w38)))
  (∃ m17, m17 < m16 ∧ J13 x20 w22 m17))
  (R (.slice ax6 nx6 cx6) w15)
def T31 : List Sh := [.v (.agg [.str, .sl]), .v (.one .ptr), .v (.one .sl), .v (.one .sl), .v (.one .sl), .v (.one .bool), .v (.one (.int .i64)), .v (.one .ptr), .v (.one .map), .v (.one .any), .v (.one .ptr), .v (.one .ptr), .v (.one .sl), .v (.one (.int .i64)), .v (.one .sl), .v (.agg [.str, .sl]), .v (.one .sl), .v (.one .bool), .v (.one .ptr), .v (.one .sl), .v (.one (.int .i64)), .v (.one (.int .i64)), .v (.one .bool), .v (.one (.int .i64)), .v (.one .ptr), .v (.agg [.sl, .sl, (.int .i64), (.int .i64), .sl, (.int .i64)]), .v (.one .sl), .v (.one (.int .i64)), .v (.one .ptr), .v (.one .bool), .v (.one .bool), .v (.one .bool), .v (.one (.int .i64)), .v (.one .bool), .v (.one .bool), .v (.one .sl), .v (.one (.int .i64)), .v (.one .ptr), .v (.one .map), .v (.one .bool), .v (.one .bool), .v (.one .bool), .v (.one .sl), .v (.one (.int .i64)), .v (.one .ptr), .v (.one .map), .v (.one .bool), .v (.one .sl), .v (.one (.int .i64)), .v (.one .map), .v (.one .ptr), .v (.one .sl), .v (.one (.int .i64)), .v (.one .ptr), .v (.one .map), .v (.agg [.sl, .sl, (.int .i64), (.int .i64), .sl, (.int .i64)]), .v (.one .map), .v (.one .ptr), .v (.one .ptr), .v (.one .sl), .v (.one (.int .i64)), .v (.one (.int .i64)), .v (.one .bool), .v (.one .ptr), .v (.agg [(.int .i64), .sl]), .v (.one .sl), .v (.one .ptr), .v (.one (.int .i64)), .v (.one .map), .v (.one .bool), .v (.one .bool), .v (.one .bool), .v (.one .bool), .v (.one (.int .i64)), .v (.one (.int .i64)), .v (.one .sl)]
def A31 : Ann := (.seq none .z (.seq none .z (.seq none .z (.seq none (.seq none .z (.block none (.loop [5] (.seq none (.seq none .z (.cond .z .z)) (.block none (.seq none .z (.seq none .z (.block none (.loop [5, 21] (.seq none .z (.seq none (.cond .z .z) (.seq none (.block (some [5]) (.seq none .z (.seq (some []) (.ifs none none .z .z) (.seq (some [5]) (.seq none .z (.cond (.seq none .z .z) .z)) (.seq none (.dr [0, 0, 0, 1, 1, 3, 0] [0, 1, 2, 3, 4, 5, 6]) (.seq none .z (.block none (.loop [5, 61] (.seq none .z (.seq none (.cond .z .z) (.seq none (.block (some [5]) (.seq none .z .z)) .z))))))))))) .z)))))))))))) (.seq none .z .z)))))
theorem F31_eq (x1 : ByteArray) (ax2 : Option Addr) (nx2 cx2 : Nat) (w : World) (R : Value → World → Prop) : F31 x1 ax2 nx2 cx2 w R = denF Go.Proofs.Try.prog T31 Go.Proofs.Try.f31 A31 [.agg ⟨[.string x1, .slice ax2 nx2 cx2]⟩] w R := by kernel_rfl
theorem F31_ok (x1 : ByteArray) (ax2 : Option Addr) (nx2 cx2 : Nat) {w : World} {R : Value → World → Prop} (h : F31 x1 ax2 nx2 cx2 w R) : CallP Go.Proofs.Try.prog 31 [.agg ⟨[.string x1, .slice ax2 nx2 cx2]⟩] w R :=
  calls_den (fun _ => drawn (by kernel_rfl)) Go.Proofs.Try.func31 (Nat.le_of_ble_eq_true (by kernel_rfl)) ((F31_eq x1 ax2 nx2 cx2 w R).mp h)
end Go.Pl.Try

/- What 'palings/ssa.meet' does, read off its translation by gen.py. -/
namespace Go.Pl.Try
set_option linter.unusedVariables false
set_option maxRecDepth 100000
def F57 (ain1 : Option Addr) (nin1 cin1 : Nat) (n2 : Int) (out3 : Option Nat) (w : World) (R : Value → World → Prop) : Prop :=
  0 ≤ (n2 : Int) ∧ (n2 : Int) < (nin1 : Nat) ∧
  ptAt ain1 fun b4 o5 =>
  ∃ (x6 : Option Nat), cel w b4 (o5 + n2.toNat * 1) = some (.map x6) ∧
  ∃ (x7 : Bool), Sem.run Pg (do eqGuard .eql 56 (.tmp 12) (.const (.map none)) (.map x6) (.map none); binOp .eql 56 (.map x6) (.map none)) w = .ok (.bool x7) w ∧
  sp x7
  (0 ≤ (n2 : Int) ∧ (n2 : Int) < (nin1 : Nat) ∧
  ptAt ain1 fun b8 o9 =>
  StP b8 (o9 + n2.toNat * 1) [.map out3] w fun w10 =>
  R (.bool true) w10)
  (0 ≤ (n2 : Int) ∧ (n2 : Int) < (nin1 : Nat) ∧
  ptAt ain1 fun b11 o12 =>
  ∃ (x13 : Option Nat), cel w b11 (o12 + n2.toNat * 1) = some (.map x13) ∧
  ∃ (x14 : Option Addr), ∃ w15 : World, Sem.run Pg (Instr.range 56 (.map x13)) w = .ok (.pointer x14) w15 ∧
  ∃ J16 : Bool → World → Nat → Prop, (∃ m19, J16 false w15 m19) ∧
  ∀ (turned17 : Bool), ∀ w18 m19, J16 turned17 w18 m19 →
  (∃ w21 : World, Sem.run Pg (Instr.next (.pointer x14) false 0) w18 = .ok (.tuple ⟨[.bool false]⟩) w21 ∧
  R (.bool turned17) w21) ∨
  (∃ (k23 v24 : Value) (w22 : World), Sem.run Pg (Instr.next (.pointer x14) false 0) w18 = .ok (.tuple ⟨[.bool true, k23, v24]⟩) w22 ∧
  ∀ K36 : Bool → World → Prop, (∀ (turned37 : Bool), ∀ w38, (
  ∃ m20, m20 < m19 ∧ J16 turned37 w38 m20) → K36 turned37 w38) →
  ∃ (x39 : Int) (x40 : Bool), Sem.run Pg (Instr.entry (.pointer x14)) w22 = .ok (.tuple ⟨[.int .i64 x39, .bool x40]⟩) w22 ∧
  ∃ (x41 : Bool), Sem.run Pg (Instr.lookup 56 (.map out3) (.int .i64 x39) false) w22 = .ok (.bool x41) w22 ∧
  sp (!x41)
  (0 ≤ (n2 : Int) ∧ (n2 : Int) < (nin1 : Nat) ∧
  ptAt ain1 fun b42 o43 =>
  ∃ (x44 : Option Nat), cel w22 b42 (o43 + n2.toNat * 1) = some (.map x44) ∧
  ∃ (x45 : Value), ∃ w46 : World, Sem.run Pg (Builtin.delete_ #[56, 3] 0 ⟨[.map x44, .int .i64 x39]⟩) w22 = .ok (x45) w46 ∧
  K36 true w46)
  (K36 turned17 w22)))
def T57 : List Sh := [.v (.one .sl), .v (.one (.int .i64)), .v (.one .map), .v (.one .any), .v (.one .any), .v (.one .any), .v (.one .bool), .v (.one .bool), .v (.one (.int .i64)), .v (.one .sl), .v (.one (.int .i64)), .v (.one .ptr), .v (.one .map), .v (.one .bool), .v (.one .sl), .v (.one (.int .i64)), .v (.one .map), .v (.one .ptr), .v (.one .sl), .v (.one (.int .i64)), .v (.one .ptr), .v (.one .map), .v (.one .ptr), .v (.one .any), .v (.one .bool), .t [(.one (.int .i64)), (.one .bool)], .v (.one (.int .i64)), .v (.one .map), .v (.one (.int .i64)), .v (.one .bool), .v (.one .bool), .v (.one .sl), .v (.one (.int .i64)), .v (.one .ptr), .v (.one .map), .v (.one (.int .i64)), .v (.one .bool)]
def A57 : Ann := (.seq none .z (.seq none (.seq none .z (.cond (.seq none .z (.seq none .z .z)) .z)) (.seq none .z (.seq none (.seq none .z (.block none (.loop [7] (.seq none .z (.seq none (.cond .z .z) (.block (some [7]) (.seq none .z (.seq none .z (.cond (.seq none .z .z) .z))))))))) (.seq none .z .z)))))
theorem F57_eq (ain1 : Option Addr) (nin1 cin1 : Nat) (n2 : Int) (out3 : Option Nat) (w : World) (R : Value → World → Prop) : F57 ain1 nin1 cin1 n2 out3 w R = denF Go.Proofs.Try.prog T57 Go.Proofs.Try.f57 A57 [.slice ain1 nin1 cin1, .int .i64 n2, .map out3] w R := by kernel_rfl
theorem F57_ok (ain1 : Option Addr) (nin1 cin1 : Nat) (n2 : Int) (out3 : Option Nat) {w : World} {R : Value → World → Prop} (h : F57 ain1 nin1 cin1 n2 out3 w R) : CallP Go.Proofs.Try.prog 57 [.slice ain1 nin1 cin1, .int .i64 n2, .map out3] w R :=
  calls_den (fun _ => drawn (by kernel_rfl)) Go.Proofs.Try.func57 (Nat.le_of_ble_eq_true (by kernel_rfl)) ((F57_eq ain1 nin1 cin1 n2 out3 w R).mp h)
end Go.Pl.Try

/- 'known', walked. -/
namespace Go.Pl
theorem Rg.nodup {b : Nat} {m left : List (Int × Value)} {om oi : Obj} (h : Rg b m left om oi) : (left.map Prod.fst).Nodup := by
  obtain ⟨es, c, seen, rfl, hm, rfl, hperm⟩ := h
  obtain ⟨_, _, e1, he, hnd, _, _⟩ := hm
  cases e1
  have h1 := (hperm.map Prod.fst)
  rw [List.map_map, List.map_map] at h1
  have h2 : (es.toList.map MapEntry.key).Nodup := by
    have : es.toList.map MapEntry.key = m.map (fun p => Value.int .i64 p.1) := by
      have := congrArg (List.map Prod.fst) he
      rw [List.map_map, List.map_map] at this
      exact this
    rw [this]
    have h3 : m.map (fun p => Value.int .i64 p.1) = (m.map Prod.fst).map (Value.int .i64) := by rw [List.map_map]; rfl
    rw [h3]
    exact hnd.map (Value.int .i64) (fun a b hne e => hne (by injection e))
  have h3 : (((es.toList.filter fun e => !seen.contains e.born).map ((fun p : Value × Value => p.1) ∘ fun e => (e.key, e.val)))).Nodup := h2.sublist (List.Sublist.map _ List.filter_sublist)
  have h4 := (h1.nodup_iff).1 h3
  have h5 : left.map ((fun p : Value × Value => p.1) ∘ fun p : Int × Value => (Value.int .i64 p.1, p.2)) = (left.map Prod.fst).map (Value.int .i64) := by rw [List.map_map]; rfl
  rw [h5] at h4
  exact (List.pairwise_map.1 h4).imp fun hne e => hne (by rw [e])
end Go.Pl
namespace Go.Pl.Try
open M
set_option linter.unusedVariables false
theorem meet_nil {w0 w : World} {L : List (Nat × Obj)} (h : Hp w0 w L) (i : Nat) {bin : Nat} {e : TypeId} {vals : List Value} (hi : L[i]? = some (bin, Cl e vals)) (n : Nat) (hn : vals[n]? = some (.map none)) (out : Option Nat) {N c : Nat} (hN : vals.length = N) :
    CallP Pg 57 [.slice (some ⟨bin, 0, none⟩) N c, .int .i64 n, .map out] w fun v w' => v = .bool true ∧ Hp w0 w' (L.set i (bin, Cl e (vals.set n (.map out)))) := by
  refine F57_ok _ _ _ _ _ ?_
  unfold F57
  have hlt := (List.getElem?_eq_some_iff.1 hn).1
  refine ⟨by omega, by omega, ptAt_of rfl ⟨none, h.cl i hi (by simpa using hn), true, ?_, sp_true rfl ⟨by omega, by omega, ptAt_of rfl ?_⟩⟩⟩
  · exact eql_map_nil (k := 3) (e := 4) (by kernel_rfl) _ _ _ _
  · refine stp h i hi (by simp; omega) rfl fun w10 h10 => ⟨rfl, ?_⟩
    have : splice vals (0 + (n : Int).toNat * 1) [.map out] = vals.set n (.map out) := by
      have := set_splice (fun v : Value => v) vals n (.map out) hlt
      simpa using this
    rw [this] at h10
    exact h10
theorem meet_map {w0 w : World} {L : List (Nat × Obj)} (h : Hp w0 w L) (i : Nat) {bin : Nat} {e : TypeId} {vals : List Value} (hi : L[i]? = some (bin, Cl e vals)) (n : Nat) {b ob : Nat} (hn : vals[n]? = some (.map (some b))) {N c : Nat} (hN : vals.length = N)
    (k : Nat) {o : Obj} (hk : L[k]? = some (b, o)) (hki : k ≠ i) {s t : List Int} (ho : MapO (setF s) o) (hob : (ob = b ∧ t = s) ∨ ∃ k2 oo, k2 ≠ k ∧ L[k2]? = some (ob, oo) ∧ MapO (setF t) oo) :
    CallP Pg 57 [.slice (some ⟨bin, 0, none⟩) N c, .int .i64 n, .map (some ob)] w fun v w' => ∃ o', v = .bool (!(s.all fun x => decide (x ∈ t))) ∧ MapO (setF (s.filter fun x => decide (x ∈ t))) o' ∧ Hp w0 w' (L.set k (b, o')) := by
  refine F57_ok _ _ _ _ _ ?_
  unfold F57
  have hlt := (List.getElem?_eq_some_iff.1 hn).1
  refine ⟨by omega, by omega, ptAt_of rfl ⟨some b, h.cl i hi (by simpa using hn), false, ?_, sp_false rfl ⟨by omega, by omega, ptAt_of rfl ⟨some b, h.cl i hi (by simpa using hn), ?_⟩⟩⟩⟩
  · exact eql_map_nil (k := 3) (e := 4) (by kernel_rfl) _ _ _ _
  obtain ⟨m0, hm0, hget0⟩ := ho
  obtain ⟨r, w15, oi, hrun, h15, hrg, hx15⟩ := range_run mpBool h (h.at k hk) hm0
  have hLk : L.set k (b, o) = L := by
    apply List.ext_getElem?
    intro j
    rw [List.getElem?_set]
    split
    · rename_i e1; subst e1; rw [if_pos (List.getElem?_eq_some_iff.1 hk).1, hk]
    · rfl
  have hkl := (List.getElem?_eq_some_iff.1 hk).1
  refine ⟨_, w15, hrun, ?_⟩
  refine ⟨fun turned w' c => ∃ om oi m left, Hp w0 w' ((r, oi) :: L.set k (b, om)) ∧ Rg b m left om oi ∧ (∀ x, mget m x = if x ∈ s ∧ (x ∈ t ∨ x ∈ left.map Prod.fst) then some (.bool true) else none) ∧ (turned = true ↔ ∃ x ∈ s, x ∉ t ∧ x ∉ left.map Prod.fst) ∧ c = left.length,
    ⟨m0.length, o, oi, m0, m0, by rw [hLk]; exact h15, hrg, ?_, ?_, rfl⟩, ?_⟩
  · intro x
    rw [hget0, setF]
    have := mem_keys hget0 x
    by_cases hx : x ∈ s
    · rw [if_pos hx, if_pos ⟨hx, .inr (this.2 hx)⟩]
    · rw [if_neg hx, if_neg (fun hh => hx hh.1)]
  · constructor
    · intro h; cases h
    · rintro ⟨x, hx, -, h2⟩
      exact absurd ((mem_keys hget0 x).2 hx) h2
  rintro turned w18 c ⟨om, oi, m, left, h18, hrg18, hget, hturn, rfl⟩
  have hbk : (((r, oi) :: L.set k (b, om)) : List (Nat × Obj))[k + 1]? = some (b, om) := by
    rw [List.getElem?_cons_succ, List.getElem?_set_self hkl]
  have hrb : r ≠ b := by
    intro e1
    have hnd := h18.nd
    simp only [List.map_cons, List.nodup_cons] at hnd
    refine hnd.1 (List.mem_map.2 ⟨(b, om), ?_, e1.symm⟩)
    exact List.mem_of_getElem? (i := k) (by rw [List.getElem?_set_self hkl])
  rcases next_run (P := Pg) (ty := 0) h18 0 rfl (h18.at (k + 1) hbk) hrb hrg18 with ⟨rfl, hn'⟩ | ⟨x, v, left', w22, oi2, hperm, hn', h22, hrg22, hxm, hent, -, -⟩
  · left
    refine ⟨w18, hn', om, ?_, ⟨m, hrg18.mp, fun x => ?_⟩, h18.drop 1⟩
    · congr 1
      rw [Bool.eq_iff_iff, hturn]
      simp
    · rw [hget x, setF]
      simp [List.mem_filter]
  · right
    have hndm : (m.map Prod.fst).Nodup := by obtain ⟨_, _, _, _, e2, _⟩ := hrg18.mp; exact e2
    have hgx := mget_mem hndm hxm
    rw [hget x] at hgx
    have hxs : x ∈ s ∧ v = .bool true := by
      split at hgx
      · rename_i hh; cases hgx; exact ⟨hh.1, rfl⟩
      · cases hgx
    obtain ⟨hxs, rfl⟩ := hxs
    have hndl := hrg18.nodup
    rw [(hperm.map Prod.fst).nodup_iff] at hndl
    simp only [List.map_cons, List.nodup_cons] at hndl
    have hleft : ∀ y, y ∈ left.map Prod.fst ↔ y = x ∨ y ∈ left'.map Prod.fst := fun y => by rw [(hperm.map Prod.fst).mem_iff]; simp
    refine ⟨_, _, w22, hn', ?_⟩
    intro K36 hK36
    have h22' : Hp w0 w22 ((r, oi2) :: L.set k (b, om)) := h22
    have hout : RMap w22 (some ob) (setF t) := by
      rcases hob with ⟨rfl, rfl⟩ | ⟨k2, oo, hk2, hL2, hoo⟩
      · refine ⟨om, h22'.at (k + 1) hbk, m, hrg18.mp, fun y => ?_⟩
        rw [hget y, setF]
        by_cases hy : y ∈ t <;> simp [hy]
      · refine ⟨oo, h22'.at (k2 + 1) ?_, hoo⟩
        rw [List.getElem?_cons_succ, List.getElem?_set_ne (Ne.symm hk2)]; exact hL2
    refine ⟨x, true, hent, decide (x ∈ t), ?_, ?_⟩
    · rw [look_map mpBool zB hout, getD_setF]
    · refine sp_of (fun hxt => ?_) (fun hxt => ?_)
      · have hxt' : x ∉ t := by simpa using hxt
        obtain ⟨w46, om2, hdel, hrg46, h46⟩ := del_rg (P := Pg) (kt2 := 3) (ty := 0) mpBool h22' (k + 1) hbk hrg22 x (fun p hp e1 => hndl.1 (e1 ▸ List.mem_map_of_mem hp))
        have h46' : Hp w0 w46 ((r, oi2) :: L.set k (b, om2)) := by
          have e1 : ((r, oi2) :: L.set k (b, om)).set (k + 1) (b, om2) = (r, oi2) :: L.set k (b, om2) := by simp [List.set_set]
          rw [e1] at h46; exact h46
        refine ⟨by omega, by omega, ptAt_of rfl ⟨some b, ?_, _, w46, hdel, hK36 _ _ ⟨left'.length, by rw [hperm.length_eq]; simp, om2, oi2, mdel m x, left', h46', hrg46, ?_, ?_, rfl⟩⟩⟩
        · refine h22'.cl (i + 1) (e := e) (vs := vals) ?_ (by simpa using hn)
          rw [List.getElem?_cons_succ, List.getElem?_set_ne hki]; exact hi
        · intro y
          rw [mget_mdel, hget y]
          by_cases hy : y = x
          · subst hy
            rw [if_pos rfl, if_neg]
            rintro ⟨-, h1 | h1⟩
            · exact hxt' h1
            · exact hndl.1 h1
          · rw [if_neg hy]
            simp only [hleft y, hy, false_or]
        · refine ⟨fun _ => ⟨x, hxs, hxt', hndl.1⟩, fun _ => rfl⟩
      · have hxt' : x ∈ t := by simpa using hxt
        refine hK36 _ _ ⟨left'.length, by rw [hperm.length_eq]; simp, om, oi2, m, left', h22', hrg22, ?_, ?_, rfl⟩
        · intro y
          rw [hget y]
          by_cases hy : y = x
          · subst hy; simp [hxt']
          · simp only [hleft y, hy, false_or]
        · rw [hturn]
          constructor
          · rintro ⟨y, h1, h2, h3⟩
            exact ⟨y, h1, h2, fun h4 => h3 ((hleft y).2 (.inr h4))⟩
          · rintro ⟨y, h1, h2, h3⟩
            refine ⟨y, h1, h2, fun h4 => ?_⟩
            rcases (hleft y).1 h4 with rfl | h5
            · exact h2 hxt'
            · exact h3 h5
end Go.Pl.Try
