/- Joined texts of the proof, part 13: WHard2, F47, WHard3, F23, WHard4, F83, F70, F39, F65, F67, F69, F71. -/
import Derived.Test.YtbacmadoenicnaaS12
set_option maxRecDepth 2000
set_option linter.unusedVariables false
set_option linter.unusedSimpArgs false
set_option linter.unusedSectionVars false
/- Hazards: the values: walked. -/
namespace Go.Pl.M
theorem hzVals_len (lab : Int → Int) (wt : Int) : ∀ (l : List Int) (z : Hz), (hzVals lab wt l z).vals.length ≤ z.vals.length + l.length
  | [], z => by simp [hzVals]
  | v :: vs, z => by
    rw [hzVals]
    have := hzVals_len lab wt vs (z.value lab wt v)
    have h2 : (z.value lab wt v).vals.length ≤ z.vals.length + 1 := by unfold Hz.value; split <;> simp
    simp only [List.length_cons]; omega
end Go.Pl.M
namespace Go.Pl.Try
open M
set_option linter.unusedVariables false
section
variable {w0 w : World} {F : List (Nat × Obj)} {m : HzM} {z : Hz}
theorem hvalues_w (h : Hp w0 w (F ++ HzL m z)) (hok : HzOk m z) {f : Fnc} {a : Option Addr} {n c : Nat} (nm : ByteArray) (hf : RdBlocks w0 a n f.blocks) (hl : f.Lim) (hg : GEnd n f.gr) {pm : Option Nat} {g : Int → Option Value} (hm : RMap w0 pm g) {lab : Int → Int}
    (hlab : ∀ k, (g k).getD (.int .i64 0) = .int .i64 (lab k)) (hzn : z.vals.length = 0) (hzw : z.weights.length = 0) :
    CallP Pg 46 [.pointer (some ⟨m.bh, 0, none⟩), .agg ⟨[.string nm, .slice a n c]⟩, .map pm] w fun u w' => u = .tuple ⟨[]⟩ ∧ ∃ m', m'.bh = m.bh ∧ Hp w0 w' (F ++ HzL m' (hzBlks lab f.gr.depths f.reach 0 f.blocks z)) ∧ HzOk m' (hzBlks lab f.gr.depths f.reach 0 f.blocks z) := by
  have hfx := RdBlocks.ext h.ext hf
  have hn := hf.len
  have hnl := hl.blocks
  rw [hn] at hnl
  simp only [lim] at hnl
  have hgf := f.gr_facts hl
  have hgo : GOk n f.gr := ⟨by rw [hgf.1, hn], by rw [hgf.2.1, hn], by rw [hgf.2.2.1, hn]⟩
  obtain ⟨D, hD⟩ : ∃ D, D = f.gr.depths := ⟨_, rfl⟩
  have hDle : ∀ d ∈ D, d ≤ n := fun d hd => by rw [hD] at hd; have := f.gr.depths_le d hd; rw [hgo.ol] at this; exact this
  rw [← hD]
  clear hgf
  refine F46_ok _ _ _ _ _ _ ?_
  unfold F46
  refine alp h fun b5 w6 h6 => ⟨_, _, _, _, h6.row 0 rfl, ?_⟩
  refine (new_w nm (hf.ext h6.ext) hl).mono ?_
  rintro v w10 ⟨p, Lg, rfl, h10', hrg⟩
  have h10 := h6.call h10'
  refine ⟨_, rfl, ?_⟩
  refine (depths_w hgo (hrg w10 fun q hq => (h10'.own q hq).2) (by simp only [lim]; omega) hg.ok hg.sz hg.doms hg.loops).mono ?_
  rintro v w13 ⟨bd, rfl, h13', hdl⟩
  rw [← hD] at h13' hdl
  clear hD
  have h13 := (h10.call h13').drop 1 |> fun _ => h10.call h13'
  refine ⟨_, _, _, rfl, ?_⟩
  have h13a : Hp w0 w13 ((bd, Cl 3 (intsD D)) :: (b5, Cl 29 [.string nm, .slice a n c]) :: (F ++ HzL m z)) := by
    refine h13.sub ?_
    exact List.Sublist.cons_cons _ (List.sublist_append_right _ _)
  refine ⟨_, _, _, _, h13a.row 1 rfl, ?_⟩
  refine (reach_w nm (hf.ext h13a.ext) (by omega) f.reach (fun h0 => Fnc.reach_nil (by omega)) (fun h0 => by rw [← hn]; exact Fnc.reach_go (by omega))).mono ?_
  rintro v w18 ⟨br, rfl, h18'⟩
  have h18 := h13a.call h18'
  refine ⟨_, _, _, rfl, _, _, _, h18.cl 2 rfl rfl, ?_⟩
  obtain ⟨G, hG⟩ : ∃ G : List (Nat × Obj), G = [(br, Cl 4 (f.reach.map .bool)), (bd, Cl 3 (intsD D)), (b5, Cl 29 [.string nm, .slice a n c])] := ⟨_, rfl⟩
  have h18 : Hp w0 w18 ((G ++ F) ++ HzL m z) := by subst hG; simpa using h18
  obtain ⟨fin, hfin⟩ : ∃ r, r = hzBlks lab D f.reach 0 f.blocks z := ⟨_, rfl⟩
  rw [← hfin]
  refine ⟨fun i w' k => ∃ (j : Nat) (m' : HzM) (z' : Hz), i = j ∧ j ≤ n ∧ k = n - j ∧ m'.bh = m.bh ∧ Hp w0 w' ((G ++ F) ++ HzL m' z') ∧ HzOk m' z' ∧ z'.vals.length ≤ 2048 * j ∧ z'.weights.length = z'.vals.length ∧ hzBlks lab D f.reach j (f.blocks.drop j) z' = fin,
    ⟨n, 0, m, z, rfl, by omega, by omega, rfl, h18, hok, by omega, by omega, hfin.symm⟩, ?_⟩
  clear hok h18 h13 h13a h10 h6 h10'
  rintro i w23 k ⟨j, m', z', rfl, hj, rfl, hmb, h23, hok, hvl, hwl, hgo2⟩
  refine sp_dec (fun hlt => ?_) (fun hge => ?_)
  · intro K26 hK26
    obtain ⟨b, hy⟩ := at_some (l := f.blocks) (j := j) (by omega)
    rw [drop_cons hy, hzBlks] at hgo2
    have hblim := hl.each b (List.mem_of_getElem? hy)
    obtain ⟨bt, ot, ap, np, cp, ai, ni, ci, ae, ne, ce, hat, hrowt, hp, hi, he⟩ := blkOf hf hy
    have hpl := hp.len
    have hil := hi.len
    have hile := hi.le
    have hpm := hblim.params
    have him := hblim.ins
    simp only [lim] at hpm him
    obtain ⟨rx, hrx⟩ := at_some (l := f.reach) (j := j) (by rw [Fnc.reach_length]; omega)
    obtain ⟨dx, hdx⟩ := at_some (l := D) (j := j) (by omega)
    have hrd : f.reach.getD j false = rx := by rw [List.getD_eq_getElem?_getD, hrx]; rfl
    have hdd : D.getD j 0 = dx := by rw [List.getD_eq_getElem?_getD, hdx]; rfl
    have hdle : dx ≤ n := by have := hDle dx (List.mem_of_getElem? hdx); exact this
    rw [hrd, hdd] at hgo2
    refine ⟨by omega, by omega, ptAt_of hat ⟨_, _, _, _, _, _, _, _, _, _, _, _, h23.ext.row hrowt, ?_⟩⟩
    refine alp h23 fun b36 w37 h37 => ?_
    refine stp h37 0 rfl (by simp) rfl fun w38 h38 => ⟨by omega, by omega, ptAt_of rfl ⟨rx, by subst hG; exact h38.cl 1 rfl (by simp [hrx]), sp_of (fun hno => ?_) (fun hyes => ?_)⟩⟩
    · have hno : rx = false := by simpa using hno
      rw [if_neg (by rw [hno]; simp)] at hgo2
      have hv2 : z'.vals.length ≤ 2048 * (j + 1) := by omega
      exact hK26 _ ⟨n - (j + 1), by omega, j + 1, m', z', wrap_succ (by simp only [maxLen]; omega), by omega, rfl, hmb, h38.drop 1, hok, hv2, hwl, hgo2⟩
    have hyes : rx = true := by simpa using hyes
    rw [if_pos hyes] at hgo2
    refine ⟨_, _, _, h38.cl 0 rfl rfl, ?_⟩
    refine (cloneI_w (hp.ext h38.ext) (by omega)).mono ?_
    rintro v w44 ⟨aq, cq, rq, rfl, hsq, h44'⟩
    have h44 := h38.call h44'
    have hc36 : cel w44 b36 1 = some (.slice ai ni ci) := h44.cl (rq.L 3 (b.params.map (Value.int .i64))).length (b := b36) (by rw [List.getElem?_append_right (Nat.le_refl _), Nat.sub_self]; rfl) rfl
    refine ⟨_, _, _, rfl, ai, ni, ci, hc36, ?_⟩
    generalize hb36 : (b36, Cl 47 (splice [.slice none 0 0, .slice none 0 0, .int .i64 0, .int .i64 0, .slice none 0 0, .int .i64 0] 0 [.slice ap np cp, .slice ai ni ci, .int .i64 b.fin.kind, .int .i64 b.fin.val, .slice ae ne ce, .int .i64 b.fin.trap])) = B36 at *
    have h44 : Hp w0 w44 ([B36] ++ (rq.L 3 (ints b.params) ++ ((G ++ F) ++ HzL m' z'))) := by
      refine h44.perm ?_
      exact List.perm_middle
    have hdst : ∀ u, dsts (b.ins.drop u) = if u < b.ins.length then (match b.ins[u]? with | some i => (if i.dst = 0 then dsts (b.ins.drop (u + 1)) else i.dst :: dsts (b.ins.drop (u + 1))) | none => []) else [] := by
      intro u
      by_cases hu : u < b.ins.length
      · obtain ⟨x, hx⟩ := at_some hu
        rw [if_pos hu, drop_cons hx, hx]
        unfold dsts
        simp only [List.map_cons, List.filter_cons]
        by_cases h0 : x.dst = 0
        · simp [h0]
        · simp [h0]
      · rw [if_neg hu, List.drop_of_length_le (by omega)]; rfl
    refine ⟨fun aq nq cq i w' k => ∃ (u : Nat) (l : List Int) (rq : Rw), i = u ∧ u ≤ ni ∧ k = ni - u ∧ nq = l.length ∧ nq ≤ np + u ∧ Sls 1 aq nq cq (ints l) rq ∧ Hp w0 w' ([B36] ++ (rq.L 3 (ints l) ++ ((G ++ F) ++ HzL m' z'))) ∧ l ++ dsts (b.ins.drop u) = b.made,
      ⟨ni, 0, b.params, rq, rfl, by omega, by omega, hpl.symm, by omega, hsq, h44, rfl⟩, ?_⟩
    clear hsq h44 h37 h38
    rintro aq nq cq i w50 k ⟨u, l, rq, rfl, hu, rfl, rfl, hlu, hsq, h50, hmade⟩
    refine sp_dec (fun hlt2 => ?_) (fun hge2 => ?_)
    · intro K53 hK53
      obtain ⟨x, hx⟩ := at_some (l := b.ins) (j := u) (by omega)
      rw [hdst u, if_pos (by omega), hx] at hmade
      simp only at hmade
      obtain ⟨bi, oi, vs, hai, hrowi, hvli, aa', na', ca', rfl, hargs⟩ := hi.at_ _ _ hx
      refine ⟨by omega, by omega, ptAt_of hai ⟨_, _, _, _, _, _, _, _, _, h50.ext.row hrowi, ?_⟩⟩
      refine alp h50 fun b65 w66 h66 => ?_
      refine stp h66 0 rfl (by simp) rfl fun w67 h67 => ⟨_, h67.cl 0 rfl rfl, sp_of (fun hd => ?_) (fun hd => ?_)⟩
      · have hd : x.dst ≠ 0 := by simpa using hd
        rw [if_neg hd] at hmade
        refine ⟨_, h67.cl 0 rfl rfl, ?_⟩
        refine alp h67 fun b70 w71 h71 => ?_
        obtain ⟨a', c', w73, r', hrun, hs, h73⟩ := app1 (ty := 34) slInts (by omega) hsq ((b70, Cl 3 [.int .i64 x.dst]) :: (b65, Cl 37 (splice [.int .i64 0, .int .i64 0, .slice none 0 0, .int .i64 0, .int .i64 0, .int .i64 0, .int .i64 0] 0 [.int .i64 x.op, .int .i64 x.dst, .slice aa' na' ca', .int .i64 x.num, .int .i64 x.bin, .int .i64 x.arr, .int .i64 x.fn])) :: [B36])
          (L := (G ++ F) ++ HzL m' z') h71 0 rfl rfl rfl (by simp only [maxLen]; omega) (by omega)
        have he1 : ints l ++ [.int .i64 x.dst] = ints (l ++ [x.dst]) := by simp
        rw [he1] at hs h73
        refine ⟨_, _, _, w73, hrun, hK53 _ _ _ _ ⟨ni - (u + 1), by omega, u + 1, l ++ [x.dst], r', wrap_succ (by omega), by omega, rfl, by simp, by omega, hs, h73.drop 2, by rw [← hmade]; simp⟩⟩
      · have hd : x.dst = 0 := by simpa using hd
        rw [if_pos hd] at hmade
        exact hK53 _ _ _ _ ⟨ni - (u + 1), by omega, u + 1, l, rq, wrap_succ (by omega), by omega, rfl, rfl, by omega, hsq, h67.drop 1, hmade⟩
    · rw [hdst u, if_neg (by omega), List.append_nil] at hmade
      subst hmade
      have hml : b.made.length ≤ 2048 := by omega
      have hz0 := hvl
      refine ⟨fun i w' k => ∃ (t : Nat) (m2 : HzM) (z2 : Hz), i = t ∧ t ≤ b.made.length ∧ k = b.made.length - t ∧ m2.bh = m.bh ∧ Hp w0 w' (([B36] ++ (rq.L 3 (ints b.made) ++ (G ++ F))) ++ HzL m2 z2) ∧ HzOk m2 z2 ∧ z2.vals.length ≤ 2048 * j + t ∧ z2.weights.length = z2.vals.length ∧
          hzVals lab (weigh dx) (b.made.drop t) z2 = hzVals lab (weigh dx) b.made z',
        ⟨b.made.length, 0, m', z', rfl, by omega, by omega, hmb, by simpa using h50, hok, by omega, hwl, rfl⟩, ?_⟩
      clear hok h50 hwl hvl
      rintro i w76 k ⟨t, m2, z2, rfl, ht, rfl, hmb2, h76, hok, hvl, hwl, hgo3⟩
      refine sp_dec (fun hlt3 => ?_) (fun hge3 => ?_)
      · intro K79 hK79
        obtain ⟨x, hx⟩ := at_some (l := b.made) (j := t) (by omega)
        rw [drop_cons hx, hzVals] at hgo3
        have h76s : Hp w0 w76 ([B36] ++ (rq.L 3 (ints b.made) ++ ((G ++ F) ++ HzL m2 z2))) := by simpa using h76
        obtain ⟨bx, ox, hax, hcx⟩ := hsq.cel_at [B36] h76s (j := t) (v := .int .i64 x) (by simp [hx])
        refine ⟨by omega, by omega, ptAt_of hax ⟨x, by simpa using hcx, lab x, ?_, sp_dec (fun h1 => ?_) (fun h1 => ?_)⟩⟩
        · rw [look_map mpLab zLab (hm.ext h76.ext), hlab]
        · obtain ⟨F2, hF2⟩ : ∃ F2, F2 = [B36] ++ (rq.L 3 (ints b.made) ++ (G ++ F)) := ⟨_, rfl⟩
          rw [← hF2] at h76
          have hval : z2.value lab (weigh dx) x = { z2 with weights := z2.weights ++ [weigh dx], vals := z2.vals ++ [x], at_ := fun y => if y = x then some z2.vals.length else z2.at_ y } := by unfold Hz.value; rw [if_pos h1]
          rw [hval] at hgo3
          have hnv := okN hok.v
          have hnw := okN hok.w
          have hd76 := h76.drew
          rw [← hmb2]
          refine ptAt_of rfl ⟨_, HzL.cell hd76 (i := 5) rfl, ptAt_of rfl ⟨_, _, _, HzL.cell hd76 (i := 4) rfl, ?_⟩⟩
          obtain ⟨w91, o', hrun1, hmo, h91⟩ := upd_map mpAt hd76 (F2.length + 1) (b := m2.bm) (o := m2.om) (by rw [List.getElem?_append_right (by omega), show F2.length + 1 - F2.length = 1 by omega]; rfl) hok.m x (.int .i64 ((m2.sv.n : Nat) : Int))
          have h91 : Hp w0 w91 (F2 ++ HzL { m2 with om := o' } z2) := by
            rw [List.set_append_right _ _ (by omega), show F2.length + 1 - F2.length = 1 by omega] at h91
            exact h91
          refine ⟨w91, hrun1, ptAt_of rfl ⟨_, _, _, HzL.cell h91 (i := 4) rfl, ?_⟩⟩
          refine alp h91 fun b95 w96 h96 => ?_
          obtain ⟨a', c', w98, r', hrun, hs, h98⟩ := app1 (ty := 34) slInts (by omega) hok.v ((b95, Cl 3 [.int .i64 x]) :: (F2 ++ (m2.bh, Cl 98 m2.cells) :: (m2.bm, o') :: (m2.sw.r.L 2 (ints z2.weights) ++ (m2.sy.r.L 84 (twos z2.ways) ++ (m2.sf.r.L 3 (ints z2.frm) ++ m2.st.r.L 3 (ints z2.to))))))
            (L := []) (by simpa [HzL, HzM.cells] using h96) 0 rfl rfl rfl (by simp only [maxLen]; omega) (by omega)
          have he1 : ints z2.vals ++ [.int .i64 x] = ints (z2.vals ++ [x]) := by simp
          rw [he1] at hs h98
          refine ⟨_, _, _, w98, hrun, ptAt_of rfl ?_⟩
          refine HzL.put (m := m2) (m' := { m2 with om := o', sv := ⟨a', m2.sv.n + 1, c', r'⟩ }) (z' := { z2 with vals := z2.vals ++ [x], at_ := fun y => if y = x then some z2.vals.length else z2.at_ y }) rfl
            (L := (m2.bm, o') :: (m2.sw.r.L 2 (ints z2.weights) ++ (m2.sy.r.L 84 (twos z2.ways) ++ (m2.sf.r.L 3 (ints z2.frm) ++ (m2.st.r.L 3 (ints z2.to) ++ r'.L 3 (ints (z2.vals ++ [x])))))))
            (F := (b95, Cl 3 [.int .i64 x]) :: F2) (by simpa using h98) (i := 4) rfl (by omega) rfl rfl fun w101 h101 => ?_
          obtain ⟨m3, hm3⟩ : ∃ m3 : HzM, m3 = { m2 with om := o', sv := ⟨a', m2.sv.n + 1, c', r'⟩ } := ⟨_, rfl⟩
          rw [← hm3] at h101
          have hb3 : m2.bh = m3.bh := by rw [hm3]
          have hd := (h101.drop 1).drew
          have hd : Hp w0 w101.drew (F2 ++ HzL m3 { z2 with vals := z2.vals ++ [x], at_ := fun y => if y = x then some z2.vals.length else z2.at_ y }) := hd
          have hcd : cel w101.drew bd (0 + (j : Int).toNat * 1) = some (.int .i64 (dx : Int)) := by
            have hmem : (bd, Cl 3 (intsD D)) ∈ F2 := by subst hF2 hG; simp
            refine cel_of (hd.own _ (List.mem_append_left _ hmem)).2 ?_
            simp only [Int.toNat_natCast, Nat.zero_add, Nat.mul_one, intsD]
            rw [List.getElem?_map, hdx]; rfl
          rw [hb3]
          refine ptAt_of rfl ⟨_, _, _, HzL.cell hd (i := 0) rfl, by omega, by omega, ptAt_of rfl ⟨_, hcd, ?_⟩⟩
          refine (weigh_w dx (by simp only [maxLen]; omega) _).mono ?_
          rintro v w109 ⟨rfl, rfl⟩
          refine ⟨_, rfl, Ext.refl _, ?_⟩
          refine alpx hd fun b111 w112 hx112 h112 => ⟨hx112, ?_⟩
          have hokw : Sls 1 m3.sw.a m3.sw.n m3.sw.c (ints z2.weights) m3.sw.r := by rw [hm3]; exact hok.w
          obtain ⟨a4, c4, w114, r4, hrun4, hs4, h114⟩ := app1 (ty := 59) slI64 (by omega) hokw ((b111, Cl 2 [.int .i64 (weigh dx)]) :: (F2 ++ (m3.bh, Cl 98 m3.cells) :: [(m3.bm, m3.om)]))
            (L := m3.sy.r.L 84 (twos z2.ways) ++ (m3.sf.r.L 3 (ints z2.frm) ++ (m3.st.r.L 3 (ints z2.to) ++ m3.sv.r.L 3 (ints (z2.vals ++ [x]))))) (by simpa [HzL] using h112) 0 rfl rfl rfl
            (by rw [hm3]; show m2.sw.n + 1 ≤ maxLen; simp only [maxLen]; omega) (by rw [hm3]; show (m2.sw.n + 1) * 8 ≤ _; omega)
          have he4 : ints z2.weights ++ [.int .i64 (weigh dx)] = ints (z2.weights ++ [weigh dx]) := by simp
          rw [he4] at hs4 h114
          refine ⟨_, _, _, w114, hrun4, ptAt_of rfl ?_⟩
          refine HzL.put (m := m3) (m' := { m3 with sw := ⟨a4, m3.sw.n + 1, c4, r4⟩ }) (z' := { z2 with weights := z2.weights ++ [weigh dx], vals := z2.vals ++ [x], at_ := fun y => if y = x then some z2.vals.length else z2.at_ y }) rfl
            (L := (m3.bm, m3.om) :: (r4.L 2 (ints (z2.weights ++ [weigh dx])) ++ (m3.sy.r.L 84 (twos z2.ways) ++ (m3.sf.r.L 3 (ints z2.frm) ++ (m3.st.r.L 3 (ints z2.to) ++ m3.sv.r.L 3 (ints (z2.vals ++ [x])))))))
            (F := (b111, Cl 2 [.int .i64 (weigh dx)]) :: F2) (by simpa using h114) (i := 0) rfl (by omega) rfl rfl fun w117 h117 => ?_
          refine hK79 _ ⟨b.made.length - (t + 1), by omega, t + 1, { m3 with sw := ⟨a4, m3.sw.n + 1, c4, r4⟩ }, _, wrap_succ (by simp only [maxLen]; omega), by omega, rfl, by rw [hm3]; exact hmb2, by rw [← hF2]; exact h117.drop 1, ?_, by simp; omega, by simp [hwl], hgo3⟩
          rw [hm3]
          rw [hm3] at hs4
          refine ⟨hs4, hok.y, hok.f, hok.t, hs, hmo.congr fun k => ?_⟩
          by_cases hk : k = x
          · simp [hk, hnv]
          · simp [hk]
        · have hval : z2.value lab (weigh dx) x = z2 := by unfold Hz.value; rw [if_neg h1]
          rw [hval] at hgo3
          exact hK79 _ ⟨b.made.length - (t + 1), by omega, t + 1, m2, z2, wrap_succ (by simp only [maxLen]; omega), by omega, rfl, hmb2, h76, hok, by omega, hwl, hgo3⟩
      · rw [List.drop_of_length_le (by omega), hzVals] at hgo3
        rw [← hgo3] at hgo2
        refine hK26 _ ⟨n - (j + 1), by omega, j + 1, m2, z2, wrap_succ (by simp only [maxLen]; omega), by omega, rfl, hmb2, ?_, hok, by omega, hwl, hgo2⟩
        have := h76.sub (L' := (G ++ F) ++ HzL m2 z2) (by
          refine List.Sublist.append_right ?_ _
          exact (List.sublist_append_right _ _).trans (List.sublist_append_right _ _))
        exact this
  · have hjn : j = n := by omega
    subst hjn
    have hd : f.blocks.drop j = [] := List.drop_of_length_le (by omega)
    rw [hd, hzBlks] at hgo2
    subst hgo2
    refine ⟨rfl, m', hmb, h23.sub ?_, hok⟩
    rw [List.append_assoc]
    exact List.sublist_append_right _ _
end
end Go.Pl.Try

/- What '(*palings/harden.hazard).ways' does, read off its translation by gen.py. -/
namespace Go.Pl.Try
set_option linter.unusedVariables false
set_option maxRecDepth 100000
def F47 (x1 : Option Addr) (x2 : ByteArray) (ax3 : Option Addr) (nx3 cx3 : Nat) (ax4 : Option Addr) (nx4 cx4 : Nat) (w : World) (R : Value → World → Prop) : Prop :=
  AlP 29 [.string x2, .slice ax3 nx3 cx3] w fun b5 w6 =>
  ∃ (ax7 : Option Addr) (nx7 cx7 : Nat), cel w6 b5 1 = some (.slice ax7 nx7 cx7) ∧
  ∃ J8 : Int → World → Nat → Prop, (∃ m11, J8 0 w6 m11) ∧
  ∀ (x9 : Int), ∀ w10 m11, J8 x9 w10 m11 →
  sp (decide ((x9 : Int) < (nx7 : Nat)))
  (0 ≤ (x9 : Int) ∧ (x9 : Int) < (nx7 : Nat) ∧
  ptAt ax7 fun b13 o14 =>
  ∃ (ax15 : Option Addr) (nx15 cx15 : Nat) (ax16 : Option Addr) (nx16 cx16 : Nat) (x17 : Int) (x18 : Int) (ax19 : Option Addr) (nx19 cx19 : Nat) (x20 : Int), Row w10 b13 (o14 + x9.toNat * 6) [.slice ax15 nx15 cx15, .slice ax16 nx16 cx16, .int .i64 x17, .int .i64 x18, .slice ax19 nx19 cx19, .int .i64 x20] ∧
  AlP 47 [.slice none 0 0, .slice none 0 0, .int .i64 0, .int .i64 0, .slice none 0 0, .int .i64 0] w10 fun b21 w22 =>
  StP b21 0 [.slice ax15 nx15 cx15, .slice ax16 nx16 cx16, .int .i64 x17, .int .i64 x18, .slice ax19 nx19 cx19, .int .i64 x20] w22 fun w23 =>
  ∃ (ax24 : Option Addr) (nx24 cx24 : Nat), cel w23 b21 1 = some (.slice ax24 nx24 cx24) ∧
  ∃ J25 : Int → World → Nat → Prop, (∃ m28, J25 0 w23 m28) ∧
  ∀ (x26 : Int), ∀ w27 m28, J25 x26 w27 m28 →
  sp (decide ((x26 : Int) < (nx24 : Nat)))
  (∀ K30 : World → Prop, (∀ w31, (
  ∃ m29, m29 < m28 ∧ J25 (IntKind.wrap .i64 (x26 + 1)) w31 m29) → K30 w31) →
  0 ≤ (x26 : Int) ∧ (x26 : Int) < (nx24 : Nat) ∧
  ptAt ax24 fun b32 o33 =>
  ∃ (x34 : Int) (x35 : Int) (ax36 : Option Addr) (nx36 cx36 : Nat) (x37 : Int) (x38 : Int) (x39 : Int) (x40 : Int), Row w27 b32 (o33 + x26.toNat * 7) [.int .i64 x34, .int .i64 x35, .slice ax36 nx36 cx36, .int .i64 x37, .int .i64 x38, .int .i64 x39, .int .i64 x40] ∧
  AlP 37 [.int .i64 0, .int .i64 0, .slice none 0 0, .int .i64 0, .int .i64 0, .int .i64 0, .int .i64 0] w27 fun b41 w42 =>
  StP b41 0 [.int .i64 x34, .int .i64 x35, .slice ax36 nx36 cx36, .int .i64 x37, .int .i64 x38, .int .i64 x39, .int .i64 x40] w42 fun w43 =>
  ∃ (ax44 : Option Addr) (nx44 cx44 : Nat), cel w43 b41 2 = some (.slice ax44 nx44 cx44) ∧
  ∃ J45 : Int → World → Nat → Prop, (∃ m48, J45 0 w43 m48) ∧
  ∀ (x46 : Int), ∀ w47 m48, J45 x46 w47 m48 →
  sp (decide ((x46 : Int) < (nx44 : Nat)))
  (0 ≤ (x46 : Int) ∧ (x46 : Int) < (nx44 : Nat) ∧
  ptAt ax44 fun b50 o51 =>
  ∃ (x52 : Int), cel w47 b50 (o51 + x46.toNat * 1) = some (.int .i64 x52) ∧
  ∃ (x53 : Int), cel w47 b41 1 = some (.int .i64 x53) ∧
  CallP Pg 78 [.pointer x1, .int .i64 x52, .int .i64 x53] w47 fun v54 w55 => v54 = .tuple ⟨[]⟩ ∧
  ∃ m49, m49 < m48 ∧ J45 (IntKind.wrap .i64 (x46 + 1)) w55 m49)
  (∃ (x56 : Int), cel w47 b41 1 = some (.int .i64 x56) ∧
  CallP Pg 48 [.pointer x1, .int .i64 x56] w47 fun v57 w58 => ∃ (x59 : Int) (x60 : Bool), v57 = .tuple ⟨[.int .i64 x59, .bool x60]⟩ ∧
  sp x60
  (∃ (x61 : Int) (x62 : Int) (ax63 : Option Addr) (nx63 cx63 : Nat) (x64 : Int) (x65 : Int) (x66 : Int) (x67 : Int), Row w58 b41 0 [.int .i64 x61, .int .i64 x62, .slice ax63 nx63 cx63, .int .i64 x64, .int .i64 x65, .int .i64 x66, .int .i64 x67] ∧
  CallP Pg 17 [.slice ax4 nx4 cx4, .agg ⟨[.int .i64 x61, .int .i64 x62, .slice ax63 nx63 cx63, .int .i64 x64, .int .i64 x65, .int .i64 x66, .int .i64 x67]⟩] w58 fun v68 w69 => ∃ (x70 : Int), v68 = .int .i64 x70 ∧
  sp (decide ((x70 : Int) = 1))
  (ptAt x1 fun b71 o72 =>
  ∃ (ax73 : Option Addr) (nx73 cx73 : Nat), cel w69 b71 (o72 + 2) = some (.slice ax73 nx73 cx73) ∧
  AlP 3 [.int .i64 x59] w69 fun b74 w75 =>
  ∃ (ax76 : Option Addr) (nx76 cx76 : Nat), ∃ w77 : World, Sem.run Pg (Builtin.append_ #[34, 34] 34 ⟨[.slice ax73 nx73 cx73, .slice (some ⟨b74, 0, none⟩) 1 1]⟩) w75 = .ok (.slice ax76 nx76 cx76) w77 ∧
  ptAt x1 fun b78 o79 =>
  StP b78 (o79 + 2) [.slice ax76 nx76 cx76] w77 fun w80 =>
  K30 w80)
  (K30 w69))
  (K30 w58)))
  (∃ (ax81 : Option Addr) (nx81 cx81 : Nat), cel w27 b21 4 = some (.slice ax81 nx81 cx81) ∧
  ∃ J82 : Int → World → Nat → Prop, (∃ m85, J82 0 w27 m85) ∧
  ∀ (x83 : Int), ∀ w84 m85, J82 x83 w84 m85 →
  sp (decide ((x83 : Int) < (nx81 : Nat)))
  (0 ≤ (x83 : Int) ∧ (x83 : Int) < (nx81 : Nat) ∧
  ptAt ax81 fun b87 o88 =>
  ∃ (x89 : Int) (ax90 : Option Addr) (nx90 cx90 : Nat), Row w84 b87 (o88 + x83.toNat * 2) [.int .i64 x89, .slice ax90 nx90 cx90] ∧
  AlP 41 [.int .i64 0, .slice none 0 0] w84 fun b91 w92 =>
  StP b91 0 [.int .i64 x89, .slice ax90 nx90 cx90] w92 fun w93 =>
  ∃ (ax94 : Option Addr) (nx94 cx94 : Nat), cel w93 b5 1 = some (.slice ax94 nx94 cx94) ∧
  ∃ (x95 : Int), cel w93 b91 0 = some (.int .i64 x95) ∧
  0 ≤ (x95 : Int) ∧ (x95 : Int) < (nx94 : Nat) ∧
  ptAt ax94 fun b96 o97 =>
  ∃ (ax98 : Option Addr) (nx98 cx98 : Nat), cel w93 b96 (o97 + x95.toNat * 6) = some (.slice ax98 nx98 cx98) ∧
  ∃ J99 : Int → World → Nat → Prop, (∃ m102, J99 0 w93 m102) ∧
  ∀ (x100 : Int), ∀ w101 m102, J99 x100 w101 m102 →
  sp (decide ((x100 : Int) < (nx98 : Nat)))
  (0 ≤ (x100 : Int) ∧ (x100 : Int) < (nx98 : Nat) ∧
  ptAt ax98 fun b104 o105 =>
  ∃ (x106 : Int), cel w101 b104 (o105 + x100.toNat * 1) = some (.int .i64 x106) ∧
  ∃ (ax107 : Option Addr) (nx107 cx107 : Nat), cel w101 b91 1 = some (.slice ax107 nx107 cx107) ∧
  0 ≤ (x100 : Int) ∧ (x100 : Int) < (nx107 : Nat) ∧
  ptAt ax107 fun b108 o109 =>
  ∃ (x110 : Int), cel w101 b108 (o109 + x100.toNat * 1) = some (.int .i64 x110) ∧
  CallP Pg 78 [.pointer x1, .int .i64 x110, .int .i64 x106] w101 fun v111 w112 => v111 = .tuple ⟨[]⟩ ∧
  ∃ m103, m103 < m102 ∧ J99 (IntKind.wrap .i64 (x100 + 1)) w112 m103)
  (∃ m86, m86 < m85 ∧ J82 (IntKind.wrap .i64 (x83 + 1)) w101 m86))
  (∃ m12, m12 < m11 ∧ J8 (IntKind.wrap .i64 (x9 + 1)) w84 m12)))
  (R (.tuple ⟨[]⟩) w10)
def T47 : List Sh := [.v (.one .ptr), .v (.agg [.str, .sl]), .v (.one .sl), .v (.one .any), .v (.one .ptr), .v (.one .any), .v (.one .any), .v (.one .ptr), .v (.one .any), .v (.one .ptr), .v (.one .any), .v (.one (.int .i64)), .v (.one (.int .i64)), .v (.one .bool), .v (.one .any), .v (.one .ptr), .v (.one (.int .i64)), .v (.one (.int .i64)), .v (.one .ptr), .v (.one .sl), .v (.one (.int .i64)), .v (.one (.int .i64)), .v (.one .bool), .v (.one .ptr), .v (.agg [.sl, .sl, (.int .i64), (.int .i64), .sl, (.int .i64)]), .v (.one .ptr), .v (.one .sl), .v (.one (.int .i64)), .v (.one (.int .i64)), .v (.one .bool), .v (.one .ptr), .v (.agg [(.int .i64), (.int .i64), .sl, (.int .i64), (.int .i64), (.int .i64), (.int .i64)]), .v (.one .ptr), .v (.one .sl), .v (.one (.int .i64)), .v (.one (.int .i64)), .v (.one .bool), .v (.one .ptr), .v (.one (.int .i64)), .v (.one .ptr), .v (.one (.int .i64)), .v (.one .ptr), .v (.one (.int .i64)), .t [], .v (.one (.int .i64)), .t [(.one (.int .i64)), (.one .bool)], .v (.one .ptr), .v (.one .ptr), .v (.one (.int .i64)), .t [(.one (.int .i64)), (.one .bool)], .v (.one (.int .i64)), .v (.one .bool), .v (.one .bool), .v (.one .bool), .v (.one .sl), .v (.agg [(.int .i64), (.int .i64), .sl, (.int .i64), (.int .i64), (.int .i64), (.int .i64)]), .v (.one (.int .i64)), .v (.one .bool), .v (.one .bool), .v (.one .ptr), .v (.one .ptr), .v (.one .ptr), .v (.one .ptr), .v (.one .ptr), .v (.one .sl), .v (.one (.int .i64)), .v (.one .sl), .v (.one .sl), .v (.one .ptr), .v (.one .ptr), .v (.one .ptr), .v (.one (.int .i64)), .v (.one .ptr), .v (.one .ptr), .v (.one .sl), .v (.one (.int .i64)), .v (.one (.int .i64)), .v (.one .bool), .v (.one .ptr), .v (.agg [(.int .i64), .sl]), .v (.one .ptr), .v (.one .sl), .v (.one .ptr), .v (.one (.int .i64)), .v (.one .ptr), .v (.one .ptr), .v (.one .sl), .v (.one (.int .i64)), .v (.one (.int .i64)), .v (.one .bool), .v (.one (.int .i64)), .v (.one .ptr), .v (.one (.int .i64)), .v (.one .ptr), .v (.one .ptr), .v (.one .sl), .v (.one (.int .i64)), .v (.one .ptr), .v (.one (.int .i64)), .v (.one (.int .i64)), .t [], .v (.one (.int .i64)), .v (.one (.int .i64)), .v (.one (.int .i64))]
def A47 : Ann := (.seq none .z (.seq none .z (.block none (.loop [21] (.seq none .z (.seq none (.cond .z .z) (.seq none (.block none (.seq none .z (.seq none (.seq none .z (.block none (.loop [28] (.seq none .z (.seq none (.cond .z .z) (.seq none (.block (some []) (.seq none .z (.seq none (.seq none .z (.block none (.loop [35] (.seq none .z (.seq none (.cond .z .z) (.seq none (.block none (.seq none .z .z)) .z)))))) (.seq none .z (.ifs none none .z .z))))) .z)))))) (.seq none .z (.block none (.loop [76] (.seq none .z (.seq none (.cond .z .z) (.seq none (.block none (.seq none .z (.seq none .z (.block none (.loop [88] (.seq none .z (.seq none (.cond .z .z) (.seq none (.block none (.seq none .z .z)) .z)))))))) .z))))))))) .z)))))))
theorem F47_eq (x1 : Option Addr) (x2 : ByteArray) (ax3 : Option Addr) (nx3 cx3 : Nat) (ax4 : Option Addr) (nx4 cx4 : Nat) (w : World) (R : Value → World → Prop) : F47 x1 x2 ax3 nx3 cx3 ax4 nx4 cx4 w R = denF Go.Proofs.Try.prog T47 Go.Proofs.Try.f47 A47 [.pointer x1, .agg ⟨[.string x2, .slice ax3 nx3 cx3]⟩, .slice ax4 nx4 cx4] w R := by kernel_rfl
theorem F47_ok (x1 : Option Addr) (x2 : ByteArray) (ax3 : Option Addr) (nx3 cx3 : Nat) (ax4 : Option Addr) (nx4 cx4 : Nat) {w : World} {R : Value → World → Prop} (h : F47 x1 x2 ax3 nx3 cx3 ax4 nx4 cx4 w R) : CallP Go.Proofs.Try.prog 47 [.pointer x1, .agg ⟨[.string x2, .slice ax3 nx3 cx3]⟩, .slice ax4 nx4 cx4] w R :=
  calls_den (fun _ => drawn (by kernel_rfl)) Go.Proofs.Try.func47 (Nat.le_of_ble_eq_true (by kernel_rfl)) ((F47_eq x1 x2 ax3 nx3 cx3 ax4 nx4 cx4 w R).mp h)
end Go.Pl.Try

/- Hazards: the ways: walked. -/
namespace Go.Pl.M
theorem Hz.way_frm (z : Hz) (a b : Int) : (z.way a b).frm = z.frm := by unfold Hz.way; split <;> rfl
theorem Hz.way_len (z : Hz) (a b : Int) : (z.way a b).ways.length ≤ z.ways.length + 1 := by unfold Hz.way; split <;> simp
theorem hzArgs_facts (d : Int) : ∀ (l : List Int) (z : Hz), (hzArgs d l z).frm = z.frm ∧ (hzArgs d l z).ways.length ≤ z.ways.length + l.length
  | [], z => ⟨rfl, by simp [hzArgs]⟩
  | v :: vs, z => by
    rw [hzArgs]
    have := hzArgs_facts d vs (z.way v d)
    have h2 := z.way_len v d
    refine ⟨this.1.trans (z.way_frm v d), ?_⟩
    simp only [List.length_cons]; omega
end Go.Pl.M
namespace Go.Pl.Try
open M
set_option linter.unusedVariables false
section
variable {w0 w : World} {F : List (Nat × Obj)} {m : HzM} {z : Hz}
theorem hways_w (h : Hp w0 w (F ++ HzL m z)) (hok : HzOk m z) {f : Fnc} {a : Option Addr} {n c : Nat} (nm : ByteArray) (hf : RdBlocks w0 a n f.blocks) (hl : f.Lim) (hwo : ∀ b ∈ f.blocks, b.fin.ways.all (wayOk f.blocks) = true)
    {aw : Option Addr} {nw cw : Nat} {writes : List Bool} (hwr : ∀ w2, Owns w2 F → RdBs w2 aw nw writes) (hzy : z.ways.length = 0) (hzf : z.frm.length = 0) :
    CallP Pg 47 [.pointer (some ⟨m.bh, 0, none⟩), .agg ⟨[.string nm, .slice a n c]⟩, .slice aw nw cw] w fun u w' => u = .tuple ⟨[]⟩ ∧ ∃ m', m'.bh = m.bh ∧ Hp w0 w' (F ++ HzL m' (hzWays writes f.blocks f.blocks z)) ∧ HzOk m' (hzWays writes f.blocks f.blocks z) := by
  have hn := hf.len
  have hnl := hl.blocks
  rw [hn] at hnl
  simp only [lim] at hnl
  refine F47_ok _ _ _ _ _ _ _ _ ?_
  unfold F47
  refine alp h fun b5 w6 h6 => ⟨_, _, _, h6.cl 0 rfl rfl, ?_⟩
  obtain ⟨G, hG⟩ : ∃ G : Nat × Obj, G = (b5, Cl 29 [.string nm, .slice a n c]) := ⟨_, rfl⟩
  rw [← hG] at h6
  obtain ⟨fin, hfin⟩ : ∃ r, r = hzWays writes f.blocks f.blocks z := ⟨_, rfl⟩
  rw [← hfin]
  refine ⟨fun i w' k => ∃ (j : Nat) (m' : HzM) (z' : Hz), i = j ∧ j ≤ n ∧ k = n - j ∧ m'.bh = m.bh ∧ Hp w0 w' ((G :: F) ++ HzL m' z') ∧ HzOk m' z' ∧ z'.ways.length ≤ 2097152 * j ∧ z'.frm.length ≤ 1024 * j ∧ hzWays writes f.blocks (f.blocks.drop j) z' = fin,
    ⟨n, 0, m, z, rfl, by omega, by omega, rfl, h6, hok, by omega, by omega, hfin.symm⟩, ?_⟩
  clear hok h6 h
  rintro i w10 k ⟨j, m1, z1, rfl, hj, rfl, hmb, h10, hok, hyl, hfl, hgo⟩
  refine sp_dec (fun hlt => ?_) (fun hge => ?_)
  · obtain ⟨b, hy⟩ := at_some (l := f.blocks) (j := j) (by omega)
    rw [drop_cons hy, hzWays] at hgo
    have hbm := List.mem_of_getElem? hy
    have hblim := hl.each b hbm
    obtain ⟨bt, ot, ap, np, cp, ai, ni, ci, ae, ne, ce, hat, hrowt, hp, hi, he⟩ := blkOf hf hy
    have hil := hi.len
    have hile := hi.le
    have hel := he.len
    have hele := he.le
    have him := hblim.ins
    have hwm := hblim.ways
    simp only [lim] at him hwm
    refine ⟨by omega, by omega, ptAt_of hat ⟨_, _, _, _, _, _, _, _, _, _, _, _, h10.ext.row hrowt, ?_⟩⟩
    refine alp h10 fun b21 w22 h22 => ?_
    refine stp h22 0 rfl (by simp) rfl fun w23 h23 => ⟨_, _, _, h23.cl 0 rfl rfl, ?_⟩
    obtain ⟨B, hB⟩ : ∃ B : Nat × Obj, B = (b21, Cl 47 [.slice ap np cp, .slice ai ni ci, .int .i64 b.fin.kind, .int .i64 b.fin.val, .slice ae ne ce, .int .i64 b.fin.trap]) := ⟨_, rfl⟩
    have h23 : Hp w0 w23 ((B :: G :: F) ++ HzL m1 z1) := by subst hB; exact h23
    refine ⟨fun i w' k => ∃ (s : Nat) (m' : HzM) (z' : Hz), i = s ∧ s ≤ ni ∧ k = ni - s ∧ m'.bh = m.bh ∧ Hp w0 w' ((B :: G :: F) ++ HzL m' z') ∧ HzOk m' z' ∧ z'.ways.length ≤ 2097152 * j + 1024 * s ∧ z'.frm.length ≤ 1024 * j + s ∧
        hzWays writes f.blocks (f.blocks.drop (j + 1)) (hzEdges f.blocks b.fin.ways (hzIns writes (b.ins.drop s) z')) = fin,
      ⟨ni, 0, m1, z1, rfl, by omega, by omega, hmb, h23, hok, by omega, by omega, hgo⟩, ?_⟩
    clear hok h10 h22 h23 hmb hyl hfl hgo
    rintro i w27 k ⟨s, m2, z2, rfl, hs, rfl, hmb, h27, hok, hyl, hfl, hgo⟩
    refine sp_dec (fun hlt2 => ?_) (fun hge2 => ?_)
    · intro K30 hK30
      obtain ⟨x, hx⟩ := at_some (l := b.ins) (j := s) (by omega)
      rw [drop_cons hx, hzIns] at hgo
      obtain ⟨bi, oi, vs, hai, hrowi, hvli, hRx⟩ := hi.at_ _ _ hx
      have hRx0 := hRx
      obtain ⟨aa', na', ca', rfl, hargs⟩ := hRx
      have hal := hargs.len
      have ham := hblim.iargs x (List.mem_of_getElem? hx)
      simp only [lim] at ham
      refine ⟨by omega, by omega, ptAt_of hai ⟨_, _, _, _, _, _, _, _, _, h27.ext.row hrowi, ?_⟩⟩
      refine alp h27 fun b41 w42 h42 => ?_
      refine stp h42 0 rfl (by simp) rfl fun w43 h43 => ⟨_, _, _, h43.cl 0 rfl rfl, ?_⟩
      obtain ⟨I, hI⟩ : ∃ I : Nat × Obj, I = (b41, Cl 37 [.int .i64 x.op, .int .i64 x.dst, .slice aa' na' ca', .int .i64 x.num, .int .i64 x.bin, .int .i64 x.arr, .int .i64 x.fn]) := ⟨_, rfl⟩
      have h43 : Hp w0 w43 ((I :: B :: G :: F) ++ HzL m2 z2) := by subst hI; exact h43
      obtain ⟨mid, hmid⟩ : ∃ r, r = hzArgs x.dst x.args z2 := ⟨_, rfl⟩
      rw [← hmid] at hgo
      have hmf := hzArgs_facts x.dst x.args z2
      rw [← hmid] at hmf
      refine ⟨fun i w' k => ∃ (u : Nat) (m' : HzM) (z' : Hz), i = u ∧ u ≤ na' ∧ k = na' - u ∧ m'.bh = m.bh ∧ Hp w0 w' ((I :: B :: G :: F) ++ HzL m' z') ∧ HzOk m' z' ∧ z'.ways.length ≤ 2097152 * j + 1024 * s + u ∧ hzArgs x.dst (x.args.drop u) z' = mid,
        ⟨na', 0, m2, z2, rfl, by omega, by omega, hmb, h43, hok, by omega, hmid.symm⟩, ?_⟩
      clear hok h27 h42 h43 hmb hmid
      rintro i w47 k ⟨u, m3, z3, rfl, hu, rfl, hmb, h47, hok, hyl3, hmid⟩
      have hcI : ∀ {w1 : World} {L1}, Hp w0 w1 ((I :: B :: G :: F) ++ L1) → cel w1 b41 1 = some (.int .i64 x.dst) := by
        intro w1 L1 h1
        subst hI
        exact h1.cl 0 rfl rfl
      refine sp_dec (fun hlt3 => ?_) (fun hge3 => ?_)
      · obtain ⟨v, hv⟩ := at_some (l := x.args) (j := u) (by omega)
        rw [drop_cons hv, hzArgs] at hmid
        obtain ⟨bv, ov, hav, hcv⟩ := RdI.at (RdI.ext hargs.rd h47.ext) hv
        refine ⟨by omega, by omega, ptAt_of hav ⟨v, by simpa using hcv, _, hcI h47, ?_⟩⟩
        rw [← hmb]
        refine (way_w h47 hok v x.dst (by omega)).mono ?_
        rintro _ w55 ⟨rfl, m4, hb4, h55, hok4⟩
        have hl4 := z3.way_len v x.dst
        exact ⟨rfl, na' - (u + 1), by omega, u + 1, m4, _, wrap_succ (by simp only [maxLen]; omega), by omega, rfl, hb4, h55, hok4, by omega, hmid⟩
      · have hd : x.args.drop u = [] := List.drop_of_length_le (by omega)
        rw [hd, hzArgs] at hmid
        subst hmid
        refine ⟨_, hcI h47, ?_⟩
        rw [← hmb]
        refine (node_w h47 hok x.dst).mono ?_
        rintro _ w58 ⟨rfl, rfl⟩
        have hskip : z3.fromIns writes x = z3 → K30 w58 := by
          intro hno
          rw [hno] at hgo
          exact hK30 _ ⟨ni - (s + 1), by omega, s + 1, m3, z3, wrap_succ (by simp only [maxLen]; omega), by omega, rfl, hmb, h47.drop 1, hok, by omega, by rw [hmf.1]; omega, hgo⟩
        refine ⟨_, _, rfl, sp_of (fun his => ?_) (fun hno => hskip ?_)⟩
        · obtain ⟨y, hy2⟩ := Option.isSome_iff_exists.1 his
          have hrI : Row w58 b41 0 [.int .i64 x.op, .int .i64 x.dst, .slice aa' na' ca', .int .i64 x.num, .int .i64 x.bin, .int .i64 x.arr, .int .i64 x.fn] := by
            subst hI; exact h47.row 0 rfl
          refine ⟨_, _, _, _, _, _, _, _, _, hrI, ?_⟩
          refine (may_w x (hwr w58 (h47.owns fun p hp => by simp [hp]))).mono ?_
          rintro _ w69 ⟨rfl, hx69⟩
          have h69 := h47.step hx69
          have hskip : z3.fromIns writes x = z3 → K30 w69 := by
            intro hno
            rw [hno] at hgo
            exact hK30 _ ⟨ni - (s + 1), by omega, s + 1, m3, z3, wrap_succ (by simp only [maxLen]; omega), by omega, rfl, hmb, h69.drop 1, hok, by omega, by rw [hmf.1]; omega, hgo⟩
          refine ⟨_, rfl, sp_dec (fun h1 => ?_) (fun h1 => hskip ?_)⟩
          · have hfr : z3.fromIns writes x = { z3 with frm := z3.frm ++ [y] } := by unfold Hz.fromIns; rw [hy2]; simp only; rw [if_pos h1]
            rw [hfr] at hgo
            have hnf := okN hok.f
            have hfl3 : z3.frm.length ≤ 1024 * j + s := by rw [hmf.1]; exact hfl
            rw [hy2]
            simp only [Option.getD_some]
            refine ptAt_of rfl ⟨_, _, _, HzL.cell h69 (i := 2) rfl, ?_⟩
            obtain ⟨F2, hF2⟩ : ∃ F2, F2 = I :: B :: G :: F := ⟨_, rfl⟩
            rw [← hF2] at h69
            refine alp h69 fun b74 w75 h75 => ?_
            obtain ⟨a', c', w77, r', hrun, hs', h77⟩ := app1 (ty := 34) slInts (by omega) hok.f ((b74, Cl 3 [.int .i64 y]) :: (F2 ++ (m3.bh, Cl 98 m3.cells) :: (m3.bm, m3.om) :: (m3.sw.r.L 2 (ints z3.weights) ++ m3.sy.r.L 84 (twos z3.ways))))
              (L := m3.st.r.L 3 (ints z3.to) ++ m3.sv.r.L 3 (ints z3.vals)) (by simpa [HzL] using h75) 0 rfl rfl rfl (by simp only [maxLen]; omega) (by omega)
            have he1 : ints z3.frm ++ [.int .i64 y] = ints (z3.frm ++ [y]) := by simp
            rw [he1] at hs' h77
            refine ⟨_, _, _, w77, hrun, ptAt_of rfl ?_⟩
            refine HzL.put (m := m3) (m' := { m3 with sf := ⟨a', m3.sf.n + 1, c', r'⟩ }) (z' := { z3 with frm := z3.frm ++ [y] }) rfl
              (L := (m3.bm, m3.om) :: (m3.sw.r.L 2 (ints z3.weights) ++ (m3.sy.r.L 84 (twos z3.ways) ++ (r'.L 3 (ints (z3.frm ++ [y])) ++ (m3.st.r.L 3 (ints z3.to) ++ m3.sv.r.L 3 (ints z3.vals))))))
              (F := (b74, Cl 3 [.int .i64 y]) :: F2) (by simpa using h77) (i := 2) rfl (by omega) rfl rfl fun w80 h80 => ?_
            refine hK30 _ ⟨ni - (s + 1), by omega, s + 1, { m3 with sf := ⟨a', m3.sf.n + 1, c', r'⟩ }, { z3 with frm := z3.frm ++ [y] }, wrap_succ (by simp only [maxLen]; omega), by omega, rfl, hmb, ?_, ⟨hok.w, hok.y, hs', hok.t, hok.v, hok.m⟩, by simp only; omega, by simp; omega, hgo⟩
            have := h80.drop 2
            subst hF2
            exact this
          · unfold Hz.fromIns; rw [hy2]; simp only; rw [if_neg h1]
        · have : z3.at_ x.dst = none := by simpa using hno
          unfold Hz.fromIns; rw [this]
    · have hd : b.ins.drop s = [] := List.drop_of_length_le (by omega)
      rw [hd, hzIns] at hgo
      have hcB : ∀ {w1 : World} {L1}, Hp w0 w1 ((B :: G :: F) ++ L1) → cel w1 b21 4 = some (.slice ae ne ce) := by
        intro w1 L1 h1
        subst hB
        exact h1.cl 0 rfl rfl
      refine ⟨_, _, _, hcB h27, ?_⟩
      refine ⟨fun i w' k => ∃ (t : Nat) (m' : HzM) (z' : Hz), i = t ∧ t ≤ ne ∧ k = ne - t ∧ m'.bh = m.bh ∧ Hp w0 w' ((B :: G :: F) ++ HzL m' z') ∧ HzOk m' z' ∧ z'.ways.length ≤ 2097152 * j + 1048576 + 1024 * t ∧ z'.frm.length ≤ 1024 * (j + 1) ∧
          hzWays writes f.blocks (f.blocks.drop (j + 1)) (hzEdges f.blocks (b.fin.ways.drop t) z') = fin,
        ⟨ne, 0, m2, z2, rfl, by omega, by omega, hmb, h27, hok, by omega, by omega, hgo⟩, ?_⟩
      clear hok h27 hmb hyl hfl hgo
      rintro i w84 k ⟨t, m3, z3, rfl, ht, rfl, hmb, h84, hok, hyl, hfl, hgo⟩
      refine sp_dec (fun hlt3 => ?_) (fun hge3 => ?_)
      · obtain ⟨e, hz⟩ := at_some (l := b.fin.ways) (j := t) (by omega)
        rw [drop_cons hz, hzEdges] at hgo
        have hem := List.mem_of_getElem? hz
        obtain ⟨hto, b2, hb2, hlen2⟩ := wayOk_inv (List.all_eq_true.1 (hwo b hbm) e hem)
        rw [hb2] at hgo
        simp only at hgo
        obtain ⟨bw, ow, vs, haw, hroww, hvlw, aa, na, ca, rfl, hargs⟩ := he.at_ _ _ hz
        have hal := hargs.len
        have ham := hblim.wargs e hem
        simp only [lim] at ham
        obtain ⟨bt2, ot2, ap2, np2, cp2, ai2, ni2, ci2, ae2, ne2, ce2, hat2, hrowt2, hp2, hi2, he2⟩ := blkOf hf hb2
        have hpl2 := hp2.len
        refine ⟨by omega, by omega, ptAt_of haw ⟨_, _, _, _, h84.ext.row hroww, ?_⟩⟩
        refine alp h84 fun b91 w92 h92 => ?_
        refine stp h92 0 rfl (by simp) rfl fun w93 h93 => ?_
        obtain ⟨E, hE⟩ : ∃ E : Nat × Obj, E = (b91, Cl 41 [.int .i64 e.to, .slice aa na ca]) := ⟨_, rfl⟩
        have h93 : Hp w0 w93 ((E :: B :: G :: F) ++ HzL m3 z3) := by subst hE; exact h93
        have hcE : ∀ {w1 : World} {L1}, Hp w0 w1 ((E :: B :: G :: F) ++ L1) → cel w1 b91 0 = some (.int .i64 e.to) ∧ cel w1 b91 1 = some (.slice aa na ca) ∧ cel w1 b5 1 = some (.slice a n c) := by
          intro w1 L1 h1
          subst hE hG
          exact ⟨h1.cl 0 rfl rfl, h1.cl 0 rfl rfl, h1.cl 2 rfl rfl⟩
        have hton : e.to.toNat < n := by rw [← hn]; exact (List.getElem?_eq_some_iff.1 hb2).1
        refine ⟨_, _, _, (hcE h93).2.2, _, (hcE h93).1, by omega, by omega, ptAt_of hat2 ⟨ap2, np2, cp2, h93.ext.cel (hrowt2 0 _ rfl), ?_⟩⟩
        obtain ⟨mid, hmid⟩ : ∃ r, r = hzEdge b2.params e.args z3 := ⟨_, rfl⟩
        rw [← hmid] at hgo
        refine ⟨fun i w' k => ∃ (u : Nat) (m' : HzM) (z' : Hz), i = u ∧ u ≤ np2 ∧ k = np2 - u ∧ m'.bh = m.bh ∧ Hp w0 w' ((E :: B :: G :: F) ++ HzL m' z') ∧ HzOk m' z' ∧ z'.ways.length ≤ 2097152 * j + 1048576 + 1024 * t + u ∧ z'.frm.length ≤ 1024 * (j + 1) ∧ hzEdge (b2.params.drop u) (e.args.drop u) z' = mid,
          ⟨np2, 0, m3, z3, rfl, by omega, by omega, hmb, h93, hok, by omega, hfl, hmid.symm⟩, ?_⟩
        clear hok h84 h92 h93 hmb hmid hyl hfl
        rintro i w101 k ⟨u, m4, z4, rfl, hu, rfl, hmb, h101, hok, hyl, hfl, hmid⟩
        refine sp_dec (fun hlt4 => ?_) (fun hge4 => ?_)
        · obtain ⟨q, hq⟩ := at_some (l := b2.params) (j := u) (by omega)
          obtain ⟨v, hv⟩ := at_some (l := e.args) (j := u) (by omega)
          rw [drop_cons hq, drop_cons hv, hzEdge] at hmid
          obtain ⟨bq, oq, haq, hcq⟩ := RdI.at (RdI.ext hp2 h101.ext) hq
          obtain ⟨bv, ov, hav, hcv⟩ := RdI.at (RdI.ext hargs h101.ext) hv
          refine ⟨by omega, by omega, ptAt_of haq ⟨q, by simpa using hcq, _, _, _, (hcE h101).2.1, by omega, by omega, ptAt_of hav ⟨v, by simpa using hcv, ?_⟩⟩⟩
          rw [← hmb]
          refine (way_w h101 hok v q (by omega)).mono ?_
          rintro _ w112 ⟨rfl, m5, hb5, h112, hok5⟩
          have hl5 := z4.way_len v q
          exact ⟨rfl, np2 - (u + 1), by omega, u + 1, m5, _, wrap_succ (by simp only [maxLen]; omega), by omega, rfl, hb5, h112, hok5, by omega, by rw [Hz.way_frm]; exact hfl, hmid⟩
        · have hd2 : b2.params.drop u = [] := List.drop_of_length_le (by omega)
          have hmid : z4 = mid := by rw [hd2] at hmid; simpa [hzEdge] using hmid
          subst hmid
          exact ⟨ne - (t + 1), by omega, t + 1, m4, z4, wrap_succ (by simp only [maxLen]; omega), by omega, rfl, hmb, h101.drop 1, hok, by omega, hfl, hgo⟩
      · have hd3 : b.fin.ways.drop t = [] := List.drop_of_length_le (by omega)
        rw [hd3, hzEdges] at hgo
        exact ⟨n - (j + 1), by omega, j + 1, m3, z3, wrap_succ (by simp only [maxLen]; omega), by omega, rfl, hmb, h84.drop 1, hok, by omega, hfl, hgo⟩
  · have hjn : j = n := by omega
    subst hjn
    have hd : f.blocks.drop j = [] := List.drop_of_length_le (by omega)
    rw [hd, hzWays] at hgo
    subst hgo
    exact ⟨rfl, m1, hmb, h10.drop 1, hok⟩
end
end Go.Pl.Try

/- What 'palings/harden.graph' does, read off its translation by gen.py. -/
namespace Go.Pl.Try
set_option linter.unusedVariables false
set_option maxRecDepth 100000
def F23 (ax1 : Option Addr) (nx1 cx1 : Nat) (ax2 : Option Addr) (nx2 cx2 : Nat) (x3 : Int) (x4 : Int) (ax5 : Option Addr) (nx5 cx5 : Nat) (ax6 : Option Addr) (nx6 cx6 : Nat) (ax7 : Option Addr) (nx7 cx7 : Nat) (ax8 : Option Addr) (nx8 cx8 : Nat) (ax9 : Option Addr) (nx9 cx9 : Nat) (w : World) (R : Value → World → Prop) : Prop :=
  AlP 32 [.slice ax1 nx1 cx1, .slice ax2 nx2 cx2, .int .i64 x3] w fun b10 w11 =>
  AlP 69 [.slice ax5 nx5 cx5, .slice ax6 nx6 cx6, .slice ax7 nx7 cx7, .slice ax8 nx8 cx8] w11 fun b12 w13 =>
  AlM w13 fun b14 w15 =>
  AlP 98 [.slice none 0 0, .slice none 0 0, .slice none 0 0, .slice none 0 0, .slice none 0 0, .map (some b14)] w15 fun b16 w17 =>
  ∃ (ax18 : Option Addr) (nx18 cx18 : Nat), cel w17.drew b10 1 = some (.slice ax18 nx18 cx18) ∧
  0 ≤ (x4 : Int) ∧ (x4 : Int) < (nx18 : Nat) ∧
  ptAt ax18 fun b19 o20 =>
  ∃ (x21 : ByteArray) (ax22 : Option Addr) (nx22 cx22 : Nat), Row w17.drew b19 (o20 + x4.toNat * 2) [.string x21, .slice ax22 nx22 cx22] ∧
  ∃ (ax23 : Option Addr) (nx23 cx23 : Nat), cel w17.drew b12 0 = some (.slice ax23 nx23 cx23) ∧
  0 ≤ (x4 : Int) ∧ (x4 : Int) < (nx23 : Nat) ∧
  ptAt ax23 fun b24 o25 =>
  ∃ (x26 : Option Nat), cel w17.drew b24 (o25 + x4.toNat * 1) = some (.map x26) ∧
  CallP Pg 46 [.pointer (some ⟨b16, 0, none⟩), .agg ⟨[.string x21, .slice ax22 nx22 cx22]⟩, .map x26] w17.drew fun v27 w28 => v27 = .tuple ⟨[]⟩ ∧
  ∃ (ax29 : Option Addr) (nx29 cx29 : Nat), cel w28.drew b10 1 = some (.slice ax29 nx29 cx29) ∧
  0 ≤ (x4 : Int) ∧ (x4 : Int) < (nx29 : Nat) ∧
  ptAt ax29 fun b30 o31 =>
  ∃ (x32 : ByteArray) (ax33 : Option Addr) (nx33 cx33 : Nat), Row w28.drew b30 (o31 + x4.toNat * 2) [.string x32, .slice ax33 nx33 cx33] ∧
  ∃ (ax34 : Option Addr) (nx34 cx34 : Nat) (ax35 : Option Addr) (nx35 cx35 : Nat) (x36 : Int), Row w28.drew b10 0 [.slice ax34 nx34 cx34, .slice ax35 nx35 cx35, .int .i64 x36] ∧
  CallP Pg 15 [.agg ⟨[.slice ax34 nx34 cx34, .slice ax35 nx35 cx35, .int .i64 x36]⟩] w28.drew fun v37 w38 => ∃ (ax39 : Option Addr) (nx39 cx39 : Nat), v37 = .slice ax39 nx39 cx39 ∧
  Ext w28.drew w38 ∧
  CallP Pg 47 [.pointer (some ⟨b16, 0, none⟩), .agg ⟨[.string x32, .slice ax33 nx33 cx33]⟩, .slice ax39 nx39 cx39] w38 fun v40 w41 => v40 = .tuple ⟨[]⟩ ∧
  ∃ J42 : Int → World → Nat → Prop, (∃ m45, J42 0 w41 m45) ∧
  ∀ (x43 : Int), ∀ w44 m45, J42 x43 w44 m45 →
  sp (decide ((x43 : Int) < (nx9 : Nat)))
  (∀ K47 : World → Prop, (∀ w48, (
  ∃ m46, m46 < m45 ∧ J42 (IntKind.wrap .i64 (x43 + 1)) w48 m46) → K47 w48) →
  0 ≤ (x43 : Int) ∧ (x43 : Int) < (nx9 : Nat) ∧
  ptAt ax9 fun b49 o50 =>
  ∃ (x51 : Int) (x52 : Int) (x53 : Int) (x54 : Int) (x55 : Int), Row w44 b49 (o50 + x43.toNat * 5) [.int .i64 x51, .int .i64 x52, .int .i64 x53, .int .i64 x54, .int .i64 x55] ∧
  AlP 100 [.int .i64 0, .int .i64 0, .int .i64 0, .int .i64 0, .int .i64 0] w44 fun b56 w57 =>
  StP b56 0 [.int .i64 x51, .int .i64 x52, .int .i64 x53, .int .i64 x54, .int .i64 x55] w57 fun w58 =>
  ∃ (x59 : Int), cel w58 b56 3 = some (.int .i64 x59) ∧
  CallP Pg 48 [.pointer (some ⟨b16, 0, none⟩), .int .i64 x59] w58 fun v60 w61 => ∃ (x62 : Int) (x63 : Bool), v60 = .tuple ⟨[.int .i64 x62, .bool x63]⟩ ∧
  sp x63
  (∃ (x64 : Int), cel w61 b56 0 = some (.int .i64 x64) ∧
  sp (decide ((x64 : Int) = x4))
  (∃ (ax65 : Option Addr) (nx65 cx65 : Nat), cel w61 b16 3 = some (.slice ax65 nx65 cx65) ∧
  AlP 3 [.int .i64 x62] w61 fun b66 w67 =>
  ∃ (ax68 : Option Addr) (nx68 cx68 : Nat), ∃ w69 : World, Sem.run Pg (Builtin.append_ #[34, 34] 34 ⟨[.slice ax65 nx65 cx65, .slice (some ⟨b66, 0, none⟩) 1 1]⟩) w67 = .ok (.slice ax68 nx68 cx68) w69 ∧
  StP b16 3 [.slice ax68 nx68 cx68] w69 fun w70 =>
  K47 w70)
  (K47 w61))
  (K47 w61))
  (R (.pointer (some ⟨b16, 0, none⟩)) w44)
def T23 : List Sh := [.v (.agg [.sl, .sl, (.int .i64)]), .v (.one (.int .i64)), .v (.agg [.sl, .sl, .sl, .sl]), .v (.one .sl), .v (.one .ptr), .v (.one .any), .v (.one .ptr), .v (.one .any), .v (.one .ptr), .v (.one .ptr), .v (.one .any), .v (.one .ptr), .v (.one (.int .i64)), .v (.one .bool), .v (.one .map), .v (.agg [.sl, .sl, .sl, .sl, .sl, .map]), .v (.one .ptr), .v (.one .ptr), .v (.one .ptr), .v (.one .sl), .v (.one (.int .i64)), .v (.one .ptr), .v (.agg [.str, .sl]), .v (.one .ptr), .v (.one .sl), .v (.one (.int .i64)), .v (.one .ptr), .v (.one .map), .t [], .v (.one .ptr), .v (.one .ptr), .v (.one .sl), .v (.one (.int .i64)), .v (.one .ptr), .v (.agg [.str, .sl]), .v (.agg [.sl, .sl, (.int .i64)]), .v (.one .sl), .t [], .v (.one .sl), .v (.one (.int .i64)), .v (.one (.int .i64)), .v (.one .bool), .v (.one .ptr), .v (.agg [(.int .i64), (.int .i64), (.int .i64), (.int .i64), (.int .i64)]), .t [(.one (.int .i64)), (.one .bool)], .v (.one .ptr), .v (.one .ptr), .v (.one (.int .i64)), .t [(.one (.int .i64)), (.one .bool)], .v (.one (.int .i64)), .v (.one .bool), .v (.one .bool), .v (.one .bool), .v (.one .ptr), .v (.one (.int .i64)), .v (.one (.int .i64)), .v (.one .bool), .v (.one .bool), .v (.one .ptr), .v (.one .ptr), .v (.one .ptr), .v (.one .ptr), .v (.one .ptr), .v (.one .sl), .v (.one (.int .i64)), .v (.one .sl), .v (.one .sl), .v (.one .ptr), .v (.one .ptr), .v (.one .ptr), .v (.one (.int .i64)), .v (.one .ptr)]
def A23 : Ann := (.seq none .z (.seq none .z (.seq none (.dr [0, 0, 1, 0, 0, 1, 0, 1, 0, 0, 1, 3] [0, 1, 2, 3, 4, 5, 6, 7, 8, 9, 10, 11]) (.seq none (.dr [0, 0, 1, 0, 0, 1, 1, 2, 3] [0, 1, 2, 3, 4, 5, 6, 7, 8]) (.seq none (.seq none .z (.block none (.loop [40] (.seq none .z (.seq none (.cond .z .z) (.seq none (.block (some []) (.seq none .z (.seq none .z (.ifs none none .z .z)))) .z)))))) (.seq none .z .z))))))
theorem F23_eq (ax1 : Option Addr) (nx1 cx1 : Nat) (ax2 : Option Addr) (nx2 cx2 : Nat) (x3 : Int) (x4 : Int) (ax5 : Option Addr) (nx5 cx5 : Nat) (ax6 : Option Addr) (nx6 cx6 : Nat) (ax7 : Option Addr) (nx7 cx7 : Nat) (ax8 : Option Addr) (nx8 cx8 : Nat) (ax9 : Option Addr) (nx9 cx9 : Nat) (w : World) (R : Value → World → Prop) : F23 ax1 nx1 cx1 ax2 nx2 cx2 x3 x4 ax5 nx5 cx5 ax6 nx6 cx6 ax7 nx7 cx7 ax8 nx8 cx8 ax9 nx9 cx9 w R = denF Go.Proofs.Try.prog T23 Go.Proofs.Try.f23 A23 [.agg ⟨[.slice ax1 nx1 cx1, .slice ax2 nx2 cx2, .int .i64 x3]⟩, .int .i64 x4, .agg ⟨[.slice ax5 nx5 cx5, .slice ax6 nx6 cx6, .slice ax7 nx7 cx7, .slice ax8 nx8 cx8]⟩, .slice ax9 nx9 cx9] w R := by kernel_rfl
theorem F23_ok (ax1 : Option Addr) (nx1 cx1 : Nat) (ax2 : Option Addr) (nx2 cx2 : Nat) (x3 : Int) (x4 : Int) (ax5 : Option Addr) (nx5 cx5 : Nat) (ax6 : Option Addr) (nx6 cx6 : Nat) (ax7 : Option Addr) (nx7 cx7 : Nat) (ax8 : Option Addr) (nx8 cx8 : Nat) (ax9 : Option Addr) (nx9 cx9 : Nat) {w : World} {R : Value → World → Prop} (h : F23 ax1 nx1 cx1 ax2 nx2 cx2 x3 x4 ax5 nx5 cx5 ax6 nx6 cx6 ax7 nx7 cx7 ax8 nx8 cx8 ax9 nx9 cx9 w R) : CallP Go.Proofs.Try.prog 23 [.agg ⟨[.slice ax1 nx1 cx1, .slice ax2 nx2 cx2, .int .i64 x3]⟩, .int .i64 x4, .agg ⟨[.slice ax5 nx5 cx5, .slice ax6 nx6 cx6, .slice ax7 nx7 cx7, .slice ax8 nx8 cx8]⟩, .slice ax9 nx9 cx9] w R :=
  calls_den (fun _ => drawn (by kernel_rfl)) Go.Proofs.Try.func23 (Nat.le_of_ble_eq_true (by kernel_rfl)) ((F23_eq ax1 nx1 cx1 ax2 nx2 cx2 x3 x4 ax5 nx5 cx5 ax6 nx6 cx6 ax7 nx7 cx7 ax8 nx8 cx8 ax9 nx9 cx9 w R).mp h)
end Go.Pl.Try

/- The hazards of a function: walked. -/
namespace Go.Pl.Try
open M
set_option linter.unusedVariables false
def RSnk (_ : World) (vs : List Value) (s : Snk) : Prop := vs = snkCells s
theorem RdSnk.ext {w w' : World} {a : Option Addr} {n : Nat} {xs : List Snk} (h : RdS 5 RSnk w a n xs) (hx : Ext w w') : RdS 5 RSnk w' a n xs := RdS.ext (w := w) (R := RSnk) (fun _ _ h => h) hx h
theorem snk_at {l : List Snk} {i : Nat} {s : Snk} (h : l[i]? = some s) : ((l.flatMap snkCells).drop (i * 5)).take 5 = snkCells s := by
  induction l generalizing i with
  | nil => simp at h
  | cons a l ih =>
    rw [List.flatMap_cons]
    cases i with
    | zero => simp only [List.getElem?_cons_zero, Option.some.injEq] at h; subst h; simp [snkCells]
    | succ i =>
      rw [show (i + 1) * 5 = (snkCells a).length + i * 5 by simp [snkCells]; omega, List.drop_length_add_append]
      exact ih (by simpa using h)
theorem hz0_ok (bh bm : Nat) : HzOk ⟨bh, bm, .emp, .emp, .emp, .emp, .emp, .map #[] 0⟩ Hz.new := ⟨Sls.nil 1 none, Sls.nil 2 none, Sls.nil 1 none, Sls.nil 1 none, Sls.nil 1 none, MapO.empty⟩
/-- What the proofs above ask of a program: its size, its ways, its graphs. -/
structure Sane (p : Prg) : Prop where
  lim : p.Lim
  ways : ∀ f ∈ p.funcs, ∀ b ∈ f.blocks, b.fin.ways.all (wayOk f.blocks) = true
  ends : ∀ f ∈ p.funcs, GEnd f.blocks.length f.gr
theorem graph_w {w : World} {p : Prg} {vs : List Value} (h : RProg w vs p) (hs : Sane p) {fn : Nat} {f : Fnc} (hfn : p.funcs[fn]? = some f) {S : TS} {av a2 a3 a4 : Option Addr} {cv n2 c2 n3 c3 n4 c4 : Nat} (hlab : LabV w av p.funcs.length S)
    {ak : Option Addr} {nk ck : Nat} {sks : List Snk} (hsk : RdS 5 RSnk w ak nk sks) (hnk : nk ≤ 1100586418176) :
    CallP Pg 23 [.agg ⟨vs⟩, .int .i64 fn, .agg ⟨[.slice av p.funcs.length cv, .slice a2 n2 c2, .slice a3 n3 c3, .slice a4 n4 c4]⟩, .slice ak nk ck] w fun v w' => ∃ m, v = .pointer (some ⟨m.bh, 0, none⟩) ∧
      Hp w w' (HzL m (hzFn f (S.get fn) p.writes fn sks)) ∧ HzOk m (hzFn f (S.get fn) p.writes fn sks) := by
  have hP := h
  obtain ⟨aa, na, ca, af, nf, cf, rfl, harr, hfun⟩ := h
  have hfl := hfun.len
  have hfl' := hs.lim.funcs
  rw [hfl] at hfl'
  simp only [lim] at hfl'
  have hsl := hsk.len
  have hfnl := (List.getElem?_eq_some_iff.1 hfn).1
  obtain ⟨bf, of, vs, haf, hrf, hvl, ab, nb, cb, rfl, hbs⟩ := hfun.at_ _ _ hfn
  have hfm := List.mem_of_getElem? hfn
  have hflim := hs.lim.each f hfm
  obtain ⟨bl, ol, pm, g, hav, hcl, hrm, hg⟩ := hlab fn (by omega)
  have hbn := hbs.len
  refine F23_ok _ _ _ _ _ _ _ _ _ _ _ _ _ _ _ _ _ _ _ _ _ _ _ ?_
  unfold F23
  refine alp (Hp.refl w) fun b10 w11 h11 => alp h11 fun b12 w13 h13 => alm h13 fun b14 w15 h15 => alp h15 fun b16 w17 h17 => ?_
  obtain ⟨G, hG⟩ : ∃ G : List (Nat × Obj), G = [(b12, Cl 69 [.slice av p.funcs.length cv, .slice a2 n2 c2, .slice a3 n3 c3, .slice a4 n4 c4]), (b10, Cl 32 [.slice aa na ca, .slice af nf cf, .int .i64 p.main])] := ⟨_, rfl⟩
  have h17 : Hp w w17 (G ++ HzL ⟨b16, b14, .emp, .emp, .emp, .emp, .emp, .map #[] 0⟩ Hz.new) := by
    refine h17.perm ?_
    subst hG
    exact List.perm_append_comm (l₁ := [_, _])
  have hcP : ∀ {w1 : World} {L1}, Hp w w1 (G ++ L1) → cel w1 b10 1 = some (.slice af nf cf) ∧ Row w1 b10 0 [.slice aa na ca, .slice af nf cf, .int .i64 p.main] ∧ cel w1 b12 0 = some (.slice av p.funcs.length cv) := by
    intro w1 L1 h1
    subst hG
    exact ⟨h1.cl 1 rfl rfl, h1.row 1 rfl, h1.cl 0 rfl rfl⟩
  have hd17 := h17.drew
  refine ⟨_, _, _, (hcP hd17).1, by omega, by omega, ptAt_of haf ⟨_, _, _, _, hd17.ext.row hrf, _, _, _, (hcP hd17).2.2, by omega, by omega, ptAt_of hav ⟨pm, hd17.ext.cel (by simpa using hcl), ?_⟩⟩⟩
  refine (hvalues_w hd17 (hz0_ok b16 b14) f.name hbs hflim (hbn ▸ hs.ends f hfm) hrm hg rfl rfl).mono ?_
  rintro _ w28 ⟨rfl, m1, hb1, h28, hok1⟩
  obtain ⟨z1, hz1⟩ : ∃ z, z = hzBlks (S.get fn) f.gr.depths f.reach 0 f.blocks Hz.new := ⟨_, rfl⟩
  rw [← hz1] at h28 hok1
  have hz1w : z1.ways = [] ∧ z1.frm = [] ∧ z1.to = [] := by
    have key : ∀ (lab : Int → Int) (wt : Int) (l : List Int) (z : Hz), (hzVals lab wt l z).ways = z.ways ∧ (hzVals lab wt l z).frm = z.frm ∧ (hzVals lab wt l z).to = z.to := by
      intro lab wt l
      induction l with
      | nil => intro z; exact ⟨rfl, rfl, rfl⟩
      | cons v vs ih =>
        intro z
        rw [hzVals]
        obtain ⟨e1, e2, e3⟩ := ih (z.value lab wt v)
        have : (z.value lab wt v).ways = z.ways ∧ (z.value lab wt v).frm = z.frm ∧ (z.value lab wt v).to = z.to := by unfold Hz.value; split <;> exact ⟨rfl, rfl, rfl⟩
        exact ⟨e1.trans this.1, e2.trans this.2.1, e3.trans this.2.2⟩
    have key2 : ∀ (lab : Int → Int) (D : List Nat) (R : List Bool) (bs : List Blk) (n : Nat) (z : Hz), (hzBlks lab D R n bs z).ways = z.ways ∧ (hzBlks lab D R n bs z).frm = z.frm ∧ (hzBlks lab D R n bs z).to = z.to := by
      intro lab D R bs
      induction bs with
      | nil => intro n z; exact ⟨rfl, rfl, rfl⟩
      | cons b bs ih =>
        intro n z
        rw [hzBlks]
        split
        · obtain ⟨e1, e2, e3⟩ := ih (n + 1) (hzVals lab (weigh (D.getD n 0)) b.made z)
          obtain ⟨d1, d2, d3⟩ := key lab (weigh (D.getD n 0)) b.made z
          exact ⟨e1.trans d1, e2.trans d2, e3.trans d3⟩
        · exact ih _ _
    rw [hz1]
    exact key2 _ _ _ _ _ _
  refine ⟨rfl, ?_⟩
  have hd28 := h28.drew
  refine ⟨_, _, _, (hcP hd28).1, by omega, by omega, ptAt_of haf ⟨_, _, _, _, hd28.ext.row hrf, _, _, _, _, _, _, _, (hcP hd28).2.1, ?_⟩⟩
  refine (writes_w (hP.ext hd28.ext) hs.lim).mono ?_
  rintro _ w38 ⟨bw, rfl, h38'⟩
  have h38 := hd28.call h38'
  refine ⟨_, _, _, rfl, h38'.ext, ?_⟩
  obtain ⟨W, hW⟩ : ∃ W : Nat × Obj, W = (bw, Cl 4 (p.writes.map .bool)) := ⟨_, rfl⟩
  have h38 : Hp w w38 ((W :: G) ++ HzL m1 z1) := by subst hW; exact h38
  have hwr : ∀ w2, Owns w2 (W :: G) → RdBs w2 (some ⟨bw, 0, none⟩) p.arrs.length p.writes := by
    intro w2 ho
    have hal := hs.lim.arrs
    simp only [lim] at hal
    refine ⟨p.writes_len, by simp only [maxLen]; omega, fun i x hi => ⟨bw, 0, [.bool x], rfl, fun k v hk => ?_, rfl, rfl⟩⟩
    cases k with
    | zero => cases hk; exact cel_of (ho (bw, Cl 4 (p.writes.map .bool)) (by simp [hW])) (by simp [hi])
    | succ k => simp at hk
  have hb1' : b16 = m1.bh := hb1.symm
  rw [hb1']
  refine (hways_w h38 hok1 f.name hbs hflim (hs.ways f hfm) hwr (by rw [hz1w.1]; rfl) (by rw [hz1w.2.1]; rfl)).mono ?_
  rintro _ w41 ⟨rfl, m2, hb2, h41, hok2⟩
  rw [← hb2]
  obtain ⟨z2, hz2⟩ : ∃ z, z = hzWays p.writes f.blocks f.blocks z1 := ⟨_, rfl⟩
  rw [← hz2] at h41 hok2
  have hz2t : z2.to = [] := by
    have k0 : ∀ (z : Hz) (a b : Int), (z.way a b).to = z.to := by intro z a b; unfold Hz.way; split <;> rfl
    have k1 : ∀ (d : Int) (l : List Int) (z : Hz), (hzArgs d l z).to = z.to := by
      intro d l
      induction l with
      | nil => intro z; rfl
      | cons v vs ih => intro z; rw [hzArgs, ih, k0]
    have k2 : ∀ (i : Ins) (z : Hz), (z.fromIns p.writes i).to = z.to := by
      intro i z; unfold Hz.fromIns
      split
      · split <;> rfl
      · rfl
    have k3 : ∀ (l : List Ins) (z : Hz), (hzIns p.writes l z).to = z.to := by
      intro l
      induction l with
      | nil => intro z; rfl
      | cons i is ih => intro z; rw [hzIns, ih, k2, k1]
    have k4 : ∀ (ps l2 : List Int) (z : Hz), (hzEdge ps l2 z).to = z.to := by
      intro ps
      induction ps with
      | nil => intro l2 z; rfl
      | cons p ps ih =>
        intro l2 z
        cases l2 with
        | nil => rfl
        | cons a l3 => rw [hzEdge, ih, k0]
    have k5 : ∀ (ws : List Edg) (z : Hz), (hzEdges f.blocks ws z).to = z.to := by
      intro ws
      induction ws with
      | nil => intro z; rfl
      | cons e es ih => intro z; rw [hzEdges, ih, k4]
    have k6 : ∀ (l : List Blk) (z : Hz), (hzWays p.writes f.blocks l z).to = z.to := by
      intro l
      induction l with
      | nil => intro z; rfl
      | cons b bs ih => intro z; rw [hzWays, ih, k5, k3]
    rw [hz2, k6, hz1w.2.2]
  obtain ⟨fin, hfin⟩ : ∃ z, z = hzFn f (S.get fn) p.writes fn sks := ⟨_, rfl⟩
  have hgo : hzSinks fn sks z2 = fin := by rw [hfin, hzFn, hz2, hz1]
  rw [← hfin]
  refine ⟨rfl, fun i w' k => ∃ (j : Nat) (m' : HzM) (z' : Hz), i = j ∧ j ≤ nk ∧ k = nk - j ∧ m'.bh = m2.bh ∧ Hp w w' ((W :: G) ++ HzL m' z') ∧ HzOk m' z' ∧ z'.to.length ≤ j ∧ hzSinks fn (sks.drop j) z' = fin,
    ⟨nk, 0, m2, z2, rfl, by omega, by omega, rfl, h41, hok2, by rw [hz2t]; simp, hgo⟩, ?_⟩
  clear hok2 h41 hgo hok1 h38 h28 hd28 h17 hd17 h38'
  rintro i w44 k ⟨j, m3, z3, rfl, hj, rfl, hb3, h44, hok, htl, hgo⟩
  refine sp_dec (fun hlt => ?_) (fun hge => ?_)
  · intro K47 hK47
    obtain ⟨s, hy⟩ := at_some (l := sks) (j := j) (by omega)
    rw [drop_cons hy, hzSinks] at hgo
    obtain ⟨bs', os', vs, has, hrows, hvls, rfl⟩ := hsk.at_ _ _ hy
    have hle := hsk.le
    refine ⟨by omega, by omega, ptAt_of has ⟨_, _, _, _, _, h44.ext.row hrows, ?_⟩⟩
    refine alp h44 fun b56 w57 h57 => ?_
    refine stp h57 0 rfl (by simp) rfl fun w58 h58 => ⟨_, h58.cl 0 rfl rfl, ?_⟩
    obtain ⟨X, hX⟩ : ∃ X : Nat × Obj, X = (b56, Cl 100 [.int .i64 s.fn, .int .i64 s.blk, .int .i64 s.at_, .int .i64 s.val, .int .i64 s.lab]) := ⟨_, rfl⟩
    have h58 : Hp w w58 ((X :: W :: G) ++ HzL m3 z3) := by subst hX; exact h58
    rw [← hb3]
    refine (node_w h58 hok s.val).mono ?_
    rintro _ w61 ⟨rfl, rfl⟩
    have hskip : z3.sink fn s = z3 → K47 w61 := by
      intro hno
      rw [hno] at hgo
      exact hK47 _ ⟨nk - (j + 1), by omega, j + 1, m3, z3, wrap_succ (by simp only [maxLen]; omega), by omega, rfl, hb3, h58.drop 1, hok, by omega, hgo⟩
    refine ⟨_, _, rfl, sp_of (fun his => ?_) (fun hno => hskip ?_)⟩
    · obtain ⟨y, hy2⟩ := Option.isSome_iff_exists.1 his
      have hcX : cel w61 b56 0 = some (.int .i64 s.fn) := by subst hX; exact h58.cl 0 rfl rfl
      refine ⟨_, hcX, sp_dec (fun hf2 => ?_) (fun hf2 => hskip ?_)⟩
      · have hto : z3.sink fn s = { z3 with to := z3.to ++ [y] } := by unfold Hz.sink; rw [hy2]; simp only; rw [if_pos hf2]
        rw [hto] at hgo
        have hnt := okN hok.t
        rw [hy2]
        simp only [Option.getD_some]
        obtain ⟨F2, hF2⟩ : ∃ F2, F2 = X :: W :: G := ⟨_, rfl⟩
        rw [← hF2] at h58
        have hc3 : cel w61 m3.bh 3 = some (.slice m3.st.a m3.st.n m3.st.c) := by have := HzL.cell h58 (i := 3) rfl; simpa [RowV.val] using this
        refine ⟨_, _, _, hc3, ?_⟩
        refine alp h58 fun b66 w67 h67 => ?_
        obtain ⟨a', c', w69, r', hrun, hs', h69⟩ := app1 (ty := 34) slInts (by omega) hok.t ((b66, Cl 3 [.int .i64 y]) :: (F2 ++ (m3.bh, Cl 98 m3.cells) :: (m3.bm, m3.om) :: (m3.sw.r.L 2 (ints z3.weights) ++ (m3.sy.r.L 84 (twos z3.ways) ++ m3.sf.r.L 3 (ints z3.frm)))))
          (L := m3.sv.r.L 3 (ints z3.vals)) (by simpa [HzL] using h67) 0 rfl rfl rfl (by simp only [maxLen]; omega) (by omega)
        have he1 : ints z3.to ++ [.int .i64 y] = ints (z3.to ++ [y]) := by simp
        rw [he1] at hs' h69
        refine ⟨_, _, _, w69, hrun, ?_⟩
        refine HzL.put (m := m3) (m' := { m3 with st := ⟨a', m3.st.n + 1, c', r'⟩ }) (z' := { z3 with to := z3.to ++ [y] }) rfl
          (L := (m3.bm, m3.om) :: (m3.sw.r.L 2 (ints z3.weights) ++ (m3.sy.r.L 84 (twos z3.ways) ++ (m3.sf.r.L 3 (ints z3.frm) ++ (r'.L 3 (ints (z3.to ++ [y])) ++ m3.sv.r.L 3 (ints z3.vals))))))
          (F := (b66, Cl 3 [.int .i64 y]) :: F2) (by simpa using h69) (i := 3) rfl (by omega) rfl rfl fun w70 h70 => ?_
        refine hK47 _ ⟨nk - (j + 1), by omega, j + 1, { m3 with st := ⟨a', m3.st.n + 1, c', r'⟩ }, { z3 with to := z3.to ++ [y] }, wrap_succ (by simp only [maxLen]; omega), by omega, rfl, hb3, ?_, ⟨hok.w, hok.y, hok.f, hs', hok.v, hok.m⟩, by simp; omega, hgo⟩
        have := h70.drop 2
        subst hF2
        exact this
      · unfold Hz.sink; rw [hy2]; simp only; rw [if_neg hf2]
    · have : z3.at_ s.val = none := by simpa using hno
      unfold Hz.sink; rw [this]
  · have hjn : j = nk := by omega
    subst hjn
    have hd : sks.drop j = [] := List.drop_of_length_le (by omega)
    rw [hd, hzSinks] at hgo
    subst hgo
    refine ⟨m3, by rw [hb3], h44.sub (List.sublist_append_right _ _), hok⟩
end Go.Pl.Try

/- What 'slices.Grow[[]int,int]' does, read off its translation by gen.py. -/
namespace Go.Pl.Try
set_option linter.unusedVariables false
set_option maxRecDepth 100000
def F83 (as1 : Option Addr) (ns1 cs1 : Nat) (n2 : Int) (w : World) (R : Value → World → Prop) : Prop :=
  ∀ K3 : World → Prop, (∀ w4, (
  ∀ K5 : Option Addr → Nat → Nat → World → Prop, (∀ (as6 : Option Addr) (ns6 cs6 : Nat), ∀ w7, (
  R (.slice as6 ns6 cs6) w7) → K5 as6 ns6 cs6 w7) →
  ∃ (x8 : Int), Sem.run Pg (Builtin.cap_ #[34] 3 ⟨[.slice as1 ns1 cs1]⟩) w4 = .ok (.int .i64 x8) w4 ∧
  sp (decide ((0 : Int) < IntKind.wrap .i64 (n2 - (IntKind.wrap .i64 (x8 - (ns1 : Nat))))))
  (∃ (x9 : Int), Sem.run Pg (Builtin.cap_ #[34] 3 ⟨[.slice as1 ns1 cs1]⟩) w4 = .ok (.int .i64 x9) w4 ∧
  ∃ (ax10 : Option Addr) (nx10 cx10 : Nat), Sem.run Pg (Instr.sliceAt 34 (.slice as1 ns1 cs1) none (some (.int .i64 x9)) none) w4 = .ok (.slice ax10 nx10 cx10) w4 ∧
  ∃ (ax11 : Option Addr) (nx11 cx11 : Nat), ∃ w12 : World, Sem.run Pg (Builtin.append_ #[34, 3] 34 ⟨[.slice ax10 nx10 cx10, .int .i64 (IntKind.wrap .i64 (n2 - (IntKind.wrap .i64 (x8 - (ns1 : Nat)))))]⟩) w4 = .ok (.slice ax11 nx11 cx11) w12 ∧
  ∃ (ax13 : Option Addr) (nx13 cx13 : Nat), Sem.run Pg (Instr.sliceAt 34 (.slice ax11 nx11 cx11) none (some (.int .i64 (ns1 : Nat))) none) w12 = .ok (.slice ax13 nx13 cx13) w12 ∧
  K5 ax13 nx13 cx13 w12)
  (K5 as1 ns1 cs1 w4)) → K3 w4) →
  sp (decide ((n2 : Int) < 0))
  (∃ (x14 : Value), ∃ w15 : World, Sem.run Pg (Instr.makeInterface 9 (.string ⟨#[99, 97, 110, 110, 111, 116, 32, 98, 101, 32, 110, 101, 103, 97, 116, 105, 118, 101]⟩)) w = .ok (x14) w15 ∧
  False)
  (K3 w)
def T83 : List Sh := [.v (.one .sl), .v (.one (.int .i64)), .v (.one .any), .v (.one .any), .v (.one .sl), .v (.one (.int .i64)), .v (.one .bool), .v (.one .any), .v (.one (.int .i64)), .v (.one .sl), .v (.one (.int .i64)), .v (.one .sl), .v (.one (.int .i64)), .v (.one (.int .i64)), .v (.one (.int .i64)), .v (.one (.int .i64)), .v (.one .bool), .v (.one .sl), .v (.one .sl), .v (.one (.int .i64)), .v (.one .sl), .v (.one (.int .i64)), .v (.one .sl), .v (.one .sl), .v (.one (.int .i64)), .v (.one .sl), .v (.one .sl)]
def A83 : Ann := (.seq none .z (.seq (some []) (.seq none .z (.cond .z .z)) (.seq (some [0]) (.seq none .z (.seq none .z (.cond .z .z))) (.seq none .z .z))))
theorem F83_eq (as1 : Option Addr) (ns1 cs1 : Nat) (n2 : Int) (w : World) (R : Value → World → Prop) : F83 as1 ns1 cs1 n2 w R = denF Go.Proofs.Try.prog T83 Go.Proofs.Try.f83 A83 [.slice as1 ns1 cs1, .int .i64 n2] w R := by kernel_rfl
theorem F83_ok (as1 : Option Addr) (ns1 cs1 : Nat) (n2 : Int) {w : World} {R : Value → World → Prop} (h : F83 as1 ns1 cs1 n2 w R) : CallP Go.Proofs.Try.prog 83 [.slice as1 ns1 cs1, .int .i64 n2] w R :=
  calls_den (fun _ => drawn (by kernel_rfl)) Go.Proofs.Try.func83 (Nat.le_of_ble_eq_true (by kernel_rfl)) ((F83_eq as1 ns1 cs1 n2 w R).mp h)
end Go.Pl.Try

/- What 'slices.Concat[[]int,int]' does, read off its translation by gen.py. -/
namespace Go.Pl.Try
set_option linter.unusedVariables false
set_option maxRecDepth 100000
def F70 (aslices1 : Option Addr) (nslices1 cslices1 : Nat) (w : World) (R : Value → World → Prop) : Prop :=
  ∃ J2 : Int → Int → World → Nat → Prop, (∃ m6, J2 0 0 w m6) ∧
  ∀ (size3 : Int) (x4 : Int), ∀ w5 m6, J2 size3 x4 w5 m6 →
  sp (decide ((x4 : Int) < (nslices1 : Nat)))
  (∀ K8 : Int → World → Prop, (∀ (size9 : Int), ∀ w10, (
  ∃ m7, m7 < m6 ∧ J2 size9 (IntKind.wrap .i64 (x4 + 1)) w10 m7) → K8 size9 w10) →
  0 ≤ (x4 : Int) ∧ (x4 : Int) < (nslices1 : Nat) ∧
  ptAt aslices1 fun b11 o12 =>
  ∃ (ax13 : Option Addr) (nx13 cx13 : Nat), cel w5 b11 (o12 + x4.toNat * 1) = some (.slice ax13 nx13 cx13) ∧
  sp (decide ((IntKind.wrap .i64 (size3 + (nx13 : Nat)) : Int) < 0))
  (∃ (x14 : Value), ∃ w15 : World, Sem.run Pg (Instr.makeInterface 9 (.string ⟨#[108, 101, 110, 32, 111, 117, 116, 32, 111, 102, 32, 114, 97, 110, 103, 101]⟩)) w5 = .ok (x14) w15 ∧
  False)
  (K8 (IntKind.wrap .i64 (size3 + (nx13 : Nat))) w5))
  (CallP Pg 83 [.slice none 0 0, .int .i64 size3] w5 fun v16 w17 => ∃ (ax18 : Option Addr) (nx18 cx18 : Nat), v16 = .slice ax18 nx18 cx18 ∧
  ∃ J19 : Option Addr → Nat → Nat → Int → World → Nat → Prop, (∃ m23, J19 ax18 nx18 cx18 0 w17 m23) ∧
  ∀ (anewslice20 : Option Addr) (nnewslice20 cnewslice20 : Nat) (x21 : Int), ∀ w22 m23, J19 anewslice20 nnewslice20 cnewslice20 x21 w22 m23 →
  sp (decide ((x21 : Int) < (nslices1 : Nat)))
  (0 ≤ (x21 : Int) ∧ (x21 : Int) < (nslices1 : Nat) ∧
  ptAt aslices1 fun b25 o26 =>
  ∃ (ax27 : Option Addr) (nx27 cx27 : Nat), cel w22 b25 (o26 + x21.toNat * 1) = some (.slice ax27 nx27 cx27) ∧
  ∃ (ax28 : Option Addr) (nx28 cx28 : Nat), ∃ w29 : World, Sem.run Pg (Builtin.append_ #[34, 34] 34 ⟨[.slice anewslice20 nnewslice20 cnewslice20, .slice ax27 nx27 cx27]⟩) w22 = .ok (.slice ax28 nx28 cx28) w29 ∧
  ∃ m24, m24 < m23 ∧ J19 ax28 nx28 cx28 (IntKind.wrap .i64 (x21 + 1)) w29 m24)
  (R (.slice anewslice20 nnewslice20 cnewslice20) w22))
def T70 : List Sh := [.v (.one .sl), .v (.one .any), .v (.one .sl), .v (.one (.int .i64)), .v (.one .any), .v (.one .sl), .v (.one .sl), .v (.one .any), .v (.one .sl), .v (.one .sl), .v (.one (.int .i64)), .v (.one (.int .i64)), .v (.one .bool), .v (.one .ptr), .v (.one .sl), .v (.one (.int .i64)), .v (.one .sl), .v (.one (.int .i64)), .v (.one (.int .i64)), .v (.one (.int .i64)), .v (.one .bool), .v (.one .any), .v (.one (.int .i64)), .v (.one (.int .i64)), .v (.one .sl), .v (.one .sl), .v (.one (.int .i64)), .v (.one (.int .i64)), .v (.one .bool), .v (.one .ptr), .v (.one .sl), .v (.one .sl), .v (.one .sl), .v (.one .sl), .v (.one (.int .i64)), .v (.one .sl)]
def A70 : Ann := (.seq none .z (.seq none .z (.seq none (.seq none .z (.block none (.loop [3, 11] (.seq none .z (.seq none (.cond .z .z) (.seq none (.block (some [3]) (.seq none .z (.seq none .z (.seq none .z (.cond .z .z))))) .z)))))) (.seq none .z (.seq none (.seq none .z (.block none (.loop [6, 27] (.seq none .z (.seq none (.cond .z .z) (.seq none (.block none (.seq none .z .z)) .z)))))) (.seq none .z .z))))))
theorem F70_eq (aslices1 : Option Addr) (nslices1 cslices1 : Nat) (w : World) (R : Value → World → Prop) : F70 aslices1 nslices1 cslices1 w R = denF Go.Proofs.Try.prog T70 Go.Proofs.Try.f70 A70 [.slice aslices1 nslices1 cslices1] w R := by kernel_rfl
theorem F70_ok (aslices1 : Option Addr) (nslices1 cslices1 : Nat) {w : World} {R : Value → World → Prop} (h : F70 aslices1 nslices1 cslices1 w R) : CallP Go.Proofs.Try.prog 70 [.slice aslices1 nslices1 cslices1] w R :=
  calls_den (fun _ => drawn (by kernel_rfl)) Go.Proofs.Try.func70 (Nat.le_of_ble_eq_true (by kernel_rfl)) ((F70_eq aslices1 nslices1 cslices1 w R).mp h)
end Go.Pl.Try

/- What '(palings/cut.Net).Right' does, read off its translation by gen.py. -/
namespace Go.Pl.Try
set_option linter.unusedVariables false
set_option maxRecDepth 100000
def F39 (an1 : Option Addr) (nn1 cn1 : Nat) (an2 : Option Addr) (nn2 cn2 : Nat) (an3 : Option Addr) (nn3 cn3 : Nat) (an4 : Option Addr) (nn4 cn4 : Nat) (w : World) (R : Value → World → Prop) : Prop :=
  AlP 62 [.slice an1 nn1 cn1, .slice an2 nn2 cn2, .slice an3 nn3 cn3, .slice an4 nn4 cn4] w fun b5 w6 =>
  AlP 117 [.nilFunc] w6 fun b7 w8 =>
  StP b7 0 [.func (.func 65) ⟨[]⟩ ⟨[.pointer (some ⟨b5, 0, none⟩)]⟩] w8 fun w9 =>
  ∀ K10 : Bool → World → Prop, (∀ (bad11 : Bool), ∀ w12, (
  sp (!bad11)
  (∃ (ax13 : Option Addr) (nx13 cx13 : Nat), cel w12 b5 0 = some (.slice ax13 nx13 cx13) ∧
  R (.bool (decide (((nx13 : Nat) : Int) ≤ 2000))) w12)
  (R (.bool false) w12)) → K10 bad11 w12) →
  ∃ (ax14 : Option Addr) (nx14 cx14 : Nat), cel w9 b5 0 = some (.slice ax14 nx14 cx14) ∧
  CallP Pg 66 [.slice ax14 nx14 cx14, .func (.func 67) ⟨[]⟩ ⟨[]⟩] w9 fun v15 w16 => ∃ (x17 : Bool), v15 = .bool x17 ∧
  sp x17
  (K10 true w16)
  (∃ (ax18 : Option Addr) (nx18 cx18 : Nat), cel w16 b5 1 = some (.slice ax18 nx18 cx18) ∧
  CallP Pg 68 [.slice ax18 nx18 cx18, .func (.func 69) ⟨[]⟩ ⟨[.pointer (some ⟨b7, 0, none⟩)]⟩] w16 fun v19 w20 => ∃ (x21 : Bool), v19 = .bool x21 ∧
  sp x21
  (K10 true w20)
  (∃ (ax22 : Option Addr) (nx22 cx22 : Nat), cel w20 b5 2 = some (.slice ax22 nx22 cx22) ∧
  ∃ (ax23 : Option Addr) (nx23 cx23 : Nat), cel w20 b5 3 = some (.slice ax23 nx23 cx23) ∧
  AlP 34 [.slice ax22 nx22 cx22, .slice ax23 nx23 cx23] w20 fun b24 w25 =>
  CallP Pg 70 [.slice (some ⟨b24, 0, none⟩) 2 2] w25 fun v26 w27 => ∃ (ax28 : Option Addr) (nx28 cx28 : Nat), v26 = .slice ax28 nx28 cx28 ∧
  CallP Pg 41 [.slice ax28 nx28 cx28, .func (.func 71) ⟨[]⟩ ⟨[.pointer (some ⟨b7, 0, none⟩)]⟩] w27 fun v29 w30 => ∃ (x31 : Bool), v29 = .bool x31 ∧
  K10 x31 w30))
def T39 : List Sh := [.v (.agg [.sl, .sl, .sl, .sl]), .v (.one .ptr), .v (.one .bool), .v (.one .ptr), .v (.one .bool), .v (.one .any), .v (.one .ptr), .v (.one .sl), .v (.one .bool), .v (.one .bool), .v (.one .ptr), .v (.one .sl), .v (.one .any), .v (.one .bool), .v (.one .bool), .v (.one .bool), .v (.one .ptr), .v (.one .sl), .v (.one .ptr), .v (.one .sl), .v (.one .sl), .v (.one .sl), .v (.one .any), .v (.one .bool), .v (.one .bool), .v (.one .bool), .v (.one .bool), .v (.one .bool), .v (.one .ptr), .v (.one .sl), .v (.one (.int .i64)), .v (.one .bool), .v (.one .bool)]
def A39 : Ann := (.seq none .z (.seq none .z (.seq (some [4]) .z (.seq none .z .z))))
theorem F39_eq (an1 : Option Addr) (nn1 cn1 : Nat) (an2 : Option Addr) (nn2 cn2 : Nat) (an3 : Option Addr) (nn3 cn3 : Nat) (an4 : Option Addr) (nn4 cn4 : Nat) (w : World) (R : Value → World → Prop) : F39 an1 nn1 cn1 an2 nn2 cn2 an3 nn3 cn3 an4 nn4 cn4 w R = denF Go.Proofs.Try.prog T39 Go.Proofs.Try.f39 A39 [.agg ⟨[.slice an1 nn1 cn1, .slice an2 nn2 cn2, .slice an3 nn3 cn3, .slice an4 nn4 cn4]⟩] w R := by kernel_rfl
theorem F39_ok (an1 : Option Addr) (nn1 cn1 : Nat) (an2 : Option Addr) (nn2 cn2 : Nat) (an3 : Option Addr) (nn3 cn3 : Nat) (an4 : Option Addr) (nn4 cn4 : Nat) {w : World} {R : Value → World → Prop} (h : F39 an1 nn1 cn1 an2 nn2 cn2 an3 nn3 cn3 an4 nn4 cn4 w R) : CallP Go.Proofs.Try.prog 39 [.agg ⟨[.slice an1 nn1 cn1, .slice an2 nn2 cn2, .slice an3 nn3 cn3, .slice an4 nn4 cn4]⟩] w R :=
  calls_den (fun _ => drawn (by kernel_rfl)) Go.Proofs.Try.func39 (Nat.le_of_ble_eq_true (by kernel_rfl)) ((F39_eq an1 nn1 cn1 an2 nn2 cn2 an3 nn3 cn3 an4 nn4 cn4 w R).mp h)
end Go.Pl.Try

/- What '(palings/cut.Net).Right$1' does, read off its translation by gen.py. -/
namespace Go.Pl.Try
set_option linter.unusedVariables false
set_option maxRecDepth 100000
def F65 (v1 : Int) (b2 : Nat) (o3 : Nat) (w : World) (R : Value → World → Prop) : Prop :=
  sp (decide ((0 : Int) ≤ v1))
  (∃ (ax4 : Option Addr) (nx4 cx4 : Nat), cel w b2 o3 = some (.slice ax4 nx4 cx4) ∧
  R (.bool (decide ((v1 : Int) < (nx4 : Nat)))) w)
  (R (.bool false) w)
def T65 : List Sh := [.v (.one (.int .i64)), .v (.one .ptr), .v (.one .any), .v (.one .bool), .v (.one (.int .i64)), .v (.one .bool), .v (.one .bool), .v (.one (.int .i64)), .v (.one .ptr), .v (.one .sl), .v (.one (.int .i64)), .v (.one .bool), .v (.one .bool)]
def A65 : Ann := (.seq none .z (.seq none .z .z))
theorem F65_eq (v1 : Int) (b2 : Nat) (o3 : Nat) (w : World) (R : Value → World → Prop) : F65 v1 b2 o3 w R = denF Go.Proofs.Try.prog T65 Go.Proofs.Try.f65 A65 [.int .i64 v1, .pointer (some ⟨b2, o3, none⟩)] w R := by kernel_rfl
theorem F65_ok (v1 : Int) (b2 : Nat) (o3 : Nat) {w : World} {R : Value → World → Prop} (h : F65 v1 b2 o3 w R) : CallP Go.Proofs.Try.prog 65 [.int .i64 v1, .pointer (some ⟨b2, o3, none⟩)] w R :=
  calls_den (fun _ => drawn (by kernel_rfl)) Go.Proofs.Try.func65 (Nat.le_of_ble_eq_true (by kernel_rfl)) ((F65_eq v1 b2 o3 w R).mp h)
end Go.Pl.Try

/- What '(palings/cut.Net).Right$2' does, read off its translation by gen.py. -/
namespace Go.Pl.Try
set_option linter.unusedVariables false
set_option maxRecDepth 100000
def F67 (w1 : Int) (w : World) (R : Value → World → Prop) : Prop :=
  sp (decide ((w1 : Int) < 1))
  (R (.bool true) w)
  (R (.bool (decide ((1073741824 : Int) < w1))) w)
def T67 : List Sh := [.v (.one (.int .i64)), .v (.one .any), .v (.one .bool), .v (.one (.int .i64)), .v (.one .bool), .v (.one .bool), .v (.one (.int .i64)), .v (.one .bool), .v (.one .bool)]
def A67 : Ann := (.seq none .z (.seq none .z .z))
theorem F67_eq (w1 : Int) (w : World) (R : Value → World → Prop) : F67 w1 w R = denF Go.Proofs.Try.prog T67 Go.Proofs.Try.f67 A67 [.int .i64 w1] w R := by kernel_rfl
theorem F67_ok (w1 : Int) {w : World} {R : Value → World → Prop} (h : F67 w1 w R) : CallP Go.Proofs.Try.prog 67 [.int .i64 w1] w R :=
  calls_den (fun _ => drawn (by kernel_rfl)) Go.Proofs.Try.func67 (Nat.le_of_ble_eq_true (by kernel_rfl)) ((F67_eq w1 w R).mp h)
end Go.Pl.Try

/- What '(palings/cut.Net).Right$3' does, read off its translation by gen.py. -/
namespace Go.Pl.Try
set_option linter.unusedVariables false
set_option maxRecDepth 100000
def F69 (w1 : Int) (w2 : Int) (b3 : Nat) (o4 : Nat) (w : World) (R : Value → World → Prop) : Prop :=
  AlP 84 [.int .i64 w1, .int .i64 w2] w fun b5 w6 =>
  ∃ (x7 : Value), cel w6 b3 o4 = some (x7) ∧
  0 ≤ (0 : Int) ∧ (0 : Int) < (2 : Nat) ∧
  ∃ (x8 : Int), cel w6 b5 0 = some (.int .i64 x8) ∧
  CallV Pg (x7) [.int .i64 x8] w6 fun v9 w10 => ∃ (x11 : Bool), v9 = .bool x11 ∧
  sp (!x11)
  (R (.bool true) w10)
  (∃ (x12 : Value), cel w10 b3 o4 = some (x12) ∧
  0 ≤ (1 : Int) ∧ (1 : Int) < (2 : Nat) ∧
  ∃ (x13 : Int), cel w10 b5 1 = some (.int .i64 x13) ∧
  CallV Pg (x12) [.int .i64 x13] w10 fun v14 w15 => ∃ (x16 : Bool), v14 = .bool x16 ∧
  R (.bool (!x16)) w15)
def T69 : List Sh := [.v (.agg [(.int .i64), (.int .i64)]), .v (.one .ptr), .v (.one .ptr), .v (.one .bool), .v (.one .any), .v (.one .ptr), .v (.one (.int .i64)), .v (.one .bool), .v (.one .bool), .v (.one .bool), .v (.one .any), .v (.one .ptr), .v (.one (.int .i64)), .v (.one .bool), .v (.one .bool), .v (.one .bool)]
def A69 : Ann := (.seq none .z (.seq none .z .z))
theorem F69_eq (w1 : Int) (w2 : Int) (b3 : Nat) (o4 : Nat) (w : World) (R : Value → World → Prop) : F69 w1 w2 b3 o4 w R = denF Go.Proofs.Try.prog T69 Go.Proofs.Try.f69 A69 [.agg ⟨[.int .i64 w1, .int .i64 w2]⟩, .pointer (some ⟨b3, o4, none⟩)] w R := by kernel_rfl
theorem F69_ok (w1 : Int) (w2 : Int) (b3 : Nat) (o4 : Nat) {w : World} {R : Value → World → Prop} (h : F69 w1 w2 b3 o4 w R) : CallP Go.Proofs.Try.prog 69 [.agg ⟨[.int .i64 w1, .int .i64 w2]⟩, .pointer (some ⟨b3, o4, none⟩)] w R :=
  calls_den (fun _ => drawn (by kernel_rfl)) Go.Proofs.Try.func69 (Nat.le_of_ble_eq_true (by kernel_rfl)) ((F69_eq w1 w2 b3 o4 w R).mp h)
end Go.Pl.Try

/- What '(palings/cut.Net).Right$4' does, read off its translation by gen.py. -/
namespace Go.Pl.Try
set_option linter.unusedVariables false
set_option maxRecDepth 100000
def F71 (v1 : Int) (b2 : Nat) (o3 : Nat) (w : World) (R : Value → World → Prop) : Prop :=
  ∃ (x4 : Value), cel w b2 o3 = some (x4) ∧
  CallV Pg (x4) [.int .i64 v1] w fun v5 w6 => ∃ (x7 : Bool), v5 = .bool x7 ∧
  R (.bool (!x7)) w6
def T71 : List Sh := [.v (.one (.int .i64)), .v (.one .ptr), .v (.one .any), .v (.one .bool), .v (.one .any), .v (.one (.int .i64)), .v (.one .bool), .v (.one .bool)]
def A71 : Ann := (.seq none .z (.seq none .z .z))
theorem F71_eq (v1 : Int) (b2 : Nat) (o3 : Nat) (w : World) (R : Value → World → Prop) : F71 v1 b2 o3 w R = denF Go.Proofs.Try.prog T71 Go.Proofs.Try.f71 A71 [.int .i64 v1, .pointer (some ⟨b2, o3, none⟩)] w R := by kernel_rfl
theorem F71_ok (v1 : Int) (b2 : Nat) (o3 : Nat) {w : World} {R : Value → World → Prop} (h : F71 v1 b2 o3 w R) : CallP Go.Proofs.Try.prog 71 [.int .i64 v1, .pointer (some ⟨b2, o3, none⟩)] w R :=
  calls_den (fun _ => drawn (by kernel_rfl)) Go.Proofs.Try.func71 (Nat.le_of_ble_eq_true (by kernel_rfl)) ((F71_eq v1 b2 o3 w R).mp h)
end Go.Pl.Try
