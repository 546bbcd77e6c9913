/- Joined texts of the proof, part 17: WNets, WRun, F40, WCome, F20, F42, WCuts. -/
import Derived.Test.YtbacmadoenicnaaS16
set_option maxRecDepth 2000
set_option linter.unusedVariables false
set_option linter.unusedSimpArgs false
set_option linter.unusedSectionVars false
/- 'HardenNets': walked. -/
namespace Go.Pl.Try
open M
set_option linter.unusedVariables false
theorem fix_of {p : Prg} (hc : p.check = true) (cut : List (Int → Bool)) : ∃ S k, TS.go p cut p.writes k p.start = some S := by
  have ha : p.arrs.all arrOk = true := by
    unfold Prg.check at hc
    simp only [Bool.and_eq_true] at hc
    exact hc.1.1
  obtain ⟨S, hS⟩ := go_ends (p := p) (cut := cut) (writes := p.writes) (fun f hf b hb i hi => by
    obtain ⟨k, hk⟩ := List.mem_iff_getElem?.1 hf
    exact ((prog_facts hc hk).1 b hb).1 i hi) _ p.start (start_ok ha) (Nat.le_refl _)
  exact ⟨S, _, hS⟩
def Tr (w : World) (v : Value) (w' : World) : Prop := v = .bool true ∧ Ext w w'
theorem nets_w {w : World} {p : Prg} {vs : List Value} (h : RProg w vs p) (fn : Int) :
    CallP Pg 4 [.agg ⟨vs⟩, .int .i64 fn] w (Tr w) := by
  have hP := h
  obtain ⟨aa, na, ca, af, nf, cf, rfl, harr, hfun⟩ := h
  have hfl := hfun.len
  refine F4_ok _ _ _ _ _ _ _ _ ?_
  unfold F4
  refine alp (Hp.refl w) fun b5 w6 h6 => ?_
  refine (head_w w6).mono ?_
  rintro _ w8 ⟨rfl, hx8⟩
  have h8 := h6.step hx8
  refine ⟨true, rfl, sp_false rfl ⟨_, _, _, _, _, _, _, h8.row 0 rfl, ?_⟩⟩
  refine (few_w (hP.ext h8.ext)).mono ?_
  rintro _ w14 ⟨q, rfl, hx14, hfew⟩
  have h14 := h8.step hx14
  refine ⟨q, rfl, ?_⟩
  cases q with
  | false => exact sp_true rfl ⟨rfl, h14.ext⟩
  | true =>
  have hl := (hfew rfl).lim
  refine sp_false rfl ⟨_, _, _, _, _, _, _, h14.row 0 rfl, ?_⟩
  obtain ⟨S1, hgo⟩ : ∃ S1, p.check = true → ∃ k, TS.go p p.noCut p.writes k p.start = some S1 := by
    rcases Bool.eq_false_or_eq_true p.check with hck | hck
    · obtain ⟨S, k, hk⟩ := fix_of hck p.noCut
      exact ⟨S, fun _ => ⟨k, hk⟩⟩
    · exact ⟨p.start, fun h => by rw [hck] at h; cases h⟩
  refine (net_w (hP.ext h14.ext) hl fn hgo).mono ?_
  rintro v19 w20 hN
  have h20 := h14.step hN.ext
  have hP20 := hP.ext h20.ext
  by_cases hok : p.check = true ∧ 0 ≤ fn ∧ fn < (p.funcs.length : Nat)
  rotate_left
  · obtain rfl := hN.bad hok
    refine ⟨_, _, _, _, _, _, _, _, _, _, _, _, _, _, _, _, rfl, ?_⟩
    refine alp h20 fun b27 w28 h28 => ?_
    refine stp h28 0 rfl (by simp) rfl fun w29 h29 => ?_
    intro K30 hK30 K503 hK503
    have bad : ∀ w', Ext w w' → K503 w' := fun w' hx => hK503 w' (sp_true rfl ⟨rfl, hx⟩)
    refine ⟨_, _, _, _, _, _, _, h29.row 1 rfl, ?_⟩
    refine (check_w (hP.ext h29.ext) hl).mono ?_
    rintro _ w509 ⟨rfl, hx⟩
    have h509 := h29.step hx
    refine ⟨_, rfl, sp_of (fun _ => bad _ h509.ext) (fun h0 => sp_dec (fun _ => bad _ h509.ext) (fun h1 => ⟨_, _, _, h509.cl 1 rfl rfl, sp_dec (fun _ => bad _ h509.ext) (fun h2 => absurd ⟨?_, by omega, by omega⟩ hok)⟩))⟩
    rcases Bool.eq_false_or_eq_true p.check with hck | hck
    · exact hck
    · rw [hck] at h0; simp at h0
  obtain ⟨hck, hf0, hf1⟩ := hok
  obtain ⟨k, rfl⟩ : ∃ k : Nat, fn = k := ⟨fn.toNat, by omega⟩
  obtain ⟨us, a25, n25, c25, rfl, hnet, hvals⟩ := hN.good hck hf0 hf1
  rw [Int.toNat_natCast] at hnet hvals
  have hsane := sane_of hl hck
  obtain ⟨f, hf⟩ := at_some (l := p.funcs) (j := k) (by omega)
  obtain ⟨hfb, hfne, honce, -⟩ := prog_facts hck hf
  have hflim := hl.each f (List.mem_of_getElem? hf)
  have hfend := hsane.ends f (List.mem_of_getElem? hf)
  obtain ⟨Z, hZ⟩ : ∃ Z, Z = p.hz S1 k := ⟨_, rfl⟩
  have hZf : Z = hzFn f (S1.get k) p.writes k (p.sinks S1) := by rw [hZ, Prg.hz, hf]
  rw [← hZ] at hnet hvals
  obtain ⟨aw, nw, cw, ay, ny, cy, ar, nr, cr, at_, nt, ct, rfl, hwts, hways, hfrm, hto⟩ := hnet
  change RdI w20 aw nw Z.weights at hwts
  change RdS 2 RTwo w20 ay ny Z.ways at hways
  change RdI w20 ar nr Z.frm at hfrm
  have hvl := hvals.len
  have hvle := hvals.le
  have hwl := hwts.len
  have hwv : Z.weights.length = Z.vals.length := by rw [hZ]; exact p.hz_wv S1 k
  refine ⟨_, _, _, _, _, _, _, _, _, _, _, _, _, _, _, _, rfl, ?_⟩
  refine alp (Hp.refl w20) fun b27 w28 h28 => ?_
  refine stp h28 0 rfl (by simp) rfl fun w29 h29 => ?_
  have hx29 := h29.ext
  have h29 := h20.call h29
  intro K30 hK30 K503 hK503
  refine ⟨_, _, _, _, _, _, _, h29.row 1 rfl, ?_⟩
  refine (check_w (hP.ext h29.ext) hl).mono ?_
  rintro _ w509 ⟨rfl, hx⟩
  have hx509 := hx29.trans hx
  have h509 := h29.step hx
  refine ⟨_, rfl, sp_of (fun h0 => ?_) (fun h0 => sp_dec (fun _ => by omega) (fun h1 => ⟨_, _, _, h509.cl 1 rfl rfl, sp_dec (fun _ => by omega) (fun h2 => hK30 _ ?_)⟩))⟩
  · rw [hck] at h0; simp at h0
  clear hK30 hK503 h0 K30 K503 hx29
  refine ⟨_, _, _, _, _, _, _, h509.row 1 rfl, ?_⟩
  refine (taintOf_w (hP.ext h509.ext) hl (cc := 0) cutV_no (fin := S1) hgo).mono ?_
  rintro v35 w36 ⟨hx36, hyes, -⟩
  obtain ⟨av, cv, a2, n2, c2, a3, n3, c3, a4, n4, c4, rfl, hlab⟩ := hyes hck
  have hx36' := hx509.trans hx36
  have h36 := h509.step hx36
  refine ⟨_, _, _, _, _, _, _, _, _, _, _, _, _, rfl, ?_⟩
  refine alp (Hp.refl w36) fun b42 w43 h43 => ?_
  refine stp h43 0 rfl (by simp) rfl fun w44 h44 => ?_
  have hlab44 := hlab.ext h44.ext
  have hx44 := hx36'.trans h44.ext
  have h44 := h36.call h44
  clear hlab
  intro K45 hK45 K500 hK500
  refine sp_false rfl (sp_false rfl ⟨_, _, _, h44.cl 1 rfl rfl, sp_of (fun h0 => ?_) (fun h0 => hK45 _ ?_)⟩)
  · have : (nw : Int) = (n25 : Int) := by omega
    simp [this] at h0
  clear hK45 hK500 K45 K500 h0
  have hbfun := hfun.at_ _ _ hf
  obtain ⟨bb, ob, vsf, haf, hrowf, hvlf, ab, nb, cb, rfl, hbs⟩ := hbfun
  have hbl := hbs.len
  have hbllim := hflim.blocks
  rw [hbl] at hbllim
  simp only [lim] at hbllim
  refine ⟨_, _, _, h44.cl 2 rfl rfl, by omega, by omega, ptAt_of haf ⟨_, _, _, _, h44.ext.row hrowf, ?_⟩⟩
  refine alp (Hp.refl w44) fun b52 w53 h53 => ?_
  refine stp h53 0 rfl (by simp) rfl fun w54 h54 => ?_
  have hlab54 := hlab44.ext h54.ext
  have hx54 := hx44.trans h54.ext
  have h54 := h44.call h54
  clear hlab44
  refine ⟨_, _, _, _, h54.row 0 rfl, ?_⟩
  refine (new_w f.name (RdBlocks.ext h54.ext hbs) hflim).mono ?_
  rintro _ w58 ⟨pg, Lg, rfl, h58', hrg⟩
  have hgf := f.gr_facts hflim
  have hgo2 : GOk nb f.gr := ⟨by rw [hgf.1, hbl], by rw [hgf.2.1, hbl], by rw [hgf.2.2.1, hbl]⟩
  obtain ⟨D, hD⟩ : ∃ D, D = f.gr.depths := ⟨_, rfl⟩
  have hDle : ∀ d ∈ D, d ≤ nb := fun d hd => by rw [hD] at hd; have := f.gr.depths_le d hd; rw [hgo2.ol] at this; exact this
  have hx58 := hx54.trans h58'.ext
  have hlab58 := hlab54.ext h58'.ext
  refine ⟨_, rfl, ?_⟩
  rw [hbl] at hfend
  refine (depths_w hgo2 (hrg w58 fun q hq => (h58'.own q hq).2) (by simp only [lim]; omega) hfend.ok hfend.sz hfend.doms hfend.loops).mono ?_
  rintro _ w61 ⟨bd, rfl, h61', hdl⟩
  rw [← hD] at h61' hdl
  have h58 := h54.step h58'.ext
  have hx61 := hx58.trans h61'.ext
  have hlab61 := hlab58.ext h61'.ext
  have hdep : ∀ {w1 : World}, Ext w61 w1 → ∀ (j : Nat) (d : Nat), D[j]? = some d → cel w1 bd (0 + j * 1) = some (.int .i64 d) := by
    intro w1 hx j d hj
    refine hx.cel (h61'.cl 0 rfl ?_)
    simp [intsD, hj]
  have h61 := h58.step h61'.ext
  clear hlab54 hlab58 h58'
  refine ⟨_, _, _, rfl, _, _, _, _, _, _, _, h61.row 3 rfl, ?_⟩
  refine (writes_w (hP.ext h61.ext) hl).mono ?_
  rintro _ w67 ⟨bw, rfl, h67'⟩
  have hwr : RdBs w67 (some ⟨bw, 0, none⟩) p.arrs.length p.writes := by
    have hal := hl.arrs
    simp only [lim] at hal
    refine ⟨p.writes_len, by simp only [maxLen]; omega, fun i x hi => ⟨bw, 0, [.bool x], rfl, fun k v hk => ?_, rfl, rfl⟩⟩
    cases k with
    | zero =>
      cases hk
      refine h67'.cl 0 rfl ?_
      simp [hi]
    | succ k => simp at hk
  have hx67 := hx61.trans h67'.ext
  have hlab67 := hlab61.ext h67'.ext
  have h67 := h61.step h67'.ext
  refine ⟨_, _, _, rfl, ?_⟩
  -- what stays
  have r52 : ∀ {w1 : World}, Ext w67 w1 → Row w1 b52 0 [.string f.name, .slice ab nb cb] ∧ cel w1 b52 1 = some (.slice ab nb cb) := fun hx => ⟨hx.row (h67.row 0 rfl), hx.cel (h67.cl 0 rfl rfl)⟩
  have c42 : ∀ {w1 : World}, Ext w67 w1 → cel w1 b42 0 = some (.slice av p.funcs.length cv) := fun hx => hx.cel (h67.cl 1 rfl rfl)
  have c27 : ∀ {w1 : World}, Ext w67 w1 → cel w1 b27 0 = some (.slice aw nw cw) ∧ cel w1 b27 1 = some (.slice ay ny cy) ∧ cel w1 b27 2 = some (.slice ar nr cr) := fun hx => ⟨hx.cel (h67.cl 2 rfl rfl), hx.cel (h67.cl 2 rfl rfl), hx.cel (h67.cl 2 rfl rfl)⟩
  have hbs67 := RdBlocks.ext h67.ext hbs
  have hdep67 : ∀ {w1 : World}, Ext w67 w1 → ∀ (j : Nat) (d : Nat), D[j]? = some d → cel w1 bd (0 + j * 1) = some (.int .i64 d) := fun hx => hdep (h67'.ext.trans hx)
  have hvals67 := hvals.ext hx67
  have hwts67 := hwts.ext hx67
  have hfrm67 := hfrm.ext hx67
  have hways67 := RdTwo.ext hways hx67
  obtain ⟨bl, ol, pm, g, rfl, hcl, hmg, hg⟩ := hlab67 k (by omega)
  have hx67w : Ext w w67 := h67.ext
  obtain ⟨lab, hlabd⟩ : ∃ l, l = S1.get k := ⟨_, rfl⟩
  rw [← hlabd] at hg hZf
  obtain ⟨z1, hz1⟩ : ∃ z, z = f.z1 lab := ⟨_, rfl⟩
  have hsame : Hz.Same z1 Z := by rw [hz1, hZf]; exact hzFn_same _ _ _ _ _
  have hz1' : hzBlks lab D f.reach 0 f.blocks Hz.new = z1 := by rw [hD, hz1]
  obtain ⟨FK, hFK⟩ : ∃ l, l = f.fk lab p.writes := ⟨_, rfl⟩
  have hFK' : frBlks lab p.writes f.reach 0 f.blocks [] = FK := hFK.symm
  have lk : ∀ {w1 : World}, Ext w67 w1 → ∀ v : Int, Sem.run Pg (Instr.lookup 80 (.map pm) (.int .i64 v) false) w1 = .ok (.int .i64 (lab v)) w1 := by
    intro w1 hx v
    rw [look_map mpLab zLab (hmg.ext hx), hg]
  clear h54 h58 h61 h67' hvals hwts hfrm hways hto hlab61 hlab67 hdep h44 h36 h509 h29 h20 h14 h8 h6 hgo hrg hg
  refine alm (Hp.refl w67) fun b69 w70 h70 => alp h70 fun b71 w72 h72 => ?_
  refine stp h72 0 rfl (by simp) rfl fun w73 h73 => alm h73 fun b74 w75 h75 => ⟨_, _, _, (r52 h75.ext).2, ?_⟩
  obtain ⟨BA, hBA⟩ : ∃ B : Nat × Obj, B = (b71, Cl 77 [.map (some b69)]) := ⟨_, rfl⟩
  have h75 : Hp w67 w75 [(b74, .map #[] 0), BA, (b69, .map #[] 0)] := by subst hBA; exact h75
  refine ⟨fun kk i w' c => ∃ (q : Nat) (z : Hz) (ks : List Int) (oa of : Obj), i = q ∧ q ≤ nb ∧ c = nb - q ∧ kk = (z.vals.length : Nat) ∧ Hp w67 w' [(b74, of), BA, (b69, oa)] ∧ MapO (atF z.at_) oa ∧ MpO (trues ks) of ∧ z.weights.length = z.vals.length ∧
      hzBlks lab D f.reach q (f.blocks.drop q) z = z1 ∧ frBlks lab p.writes f.reach q (f.blocks.drop q) ks = FK,
    ⟨nb, 0, Hz.new, [], _, _, rfl, by omega, by omega, rfl, h75, MapO.empty, MpO.empty, rfl, hz1', hFK'⟩, ?_⟩
  clear h75 h73 h72 h70
  rintro kk i w80 c ⟨q, z, ks, oa, of, rfl, hq, rfl, rfl, h80, hoa, hof, hzw, hgz, hgf2⟩
  refine sp_dec (fun hlt => ?_) (fun hge => ?_)
  · intro K83 hK83
    obtain ⟨b, hy⟩ := at_some (l := f.blocks) (j := q) (by omega)
    rw [drop_cons hy, hzBlks] at hgz
    rw [drop_cons hy, frBlks] at hgf2
    have hblim := hflim.each b (List.mem_of_getElem? hy)
    obtain ⟨bt, ot, ap, np, cp, ai, ni, ci, ae, ne, ce, hat, hrowt, hp, hi, he⟩ := blkOf hbs67 hy
    have hpl := hp.len
    have hil := hi.len
    have hile := hi.le
    have hpm := hblim.params
    have him := hblim.ins
    simp only [lim] at hpm him
    obtain ⟨rx, hrx⟩ := at_some (l := f.reach) (j := q) (by rw [Fnc.reach_length]; omega)
    obtain ⟨dx, hdx⟩ := at_some (l := D) (j := q) (by omega)
    have hrd : f.reach.getD q false = rx := by rw [List.getD_eq_getElem?_getD, hrx]; rfl
    have hdd : D.getD q 0 = dx := by rw [List.getD_eq_getElem?_getD, hdx]; rfl
    have hdle : dx ≤ nb := hDle dx (List.mem_of_getElem? hdx)
    rw [hrd] at hgf2
    rw [hrd, hdd] at hgz
    refine ⟨by omega, by omega, ptAt_of hat ⟨_, _, _, _, _, _, _, _, _, _, _, _, h80.ext.row hrowt, ?_⟩⟩
    refine alp h80 fun b94 w95 h95 => ?_
    refine stp h95 0 rfl (by simp) rfl fun w96 h96 => ⟨_, _, _, _, (r52 h96.ext).1, ?_⟩
    obtain ⟨BB, hBB⟩ : ∃ B : Nat × Obj, B = (b94, Cl 47 [.slice ap np cp, .slice ai ni ci, .int .i64 b.fin.kind, .int .i64 b.fin.val, .slice ae ne ce, .int .i64 b.fin.trap]) := ⟨_, rfl⟩
    have h96 : Hp w67 w96 [BB, (b74, of), BA, (b69, oa)] := by subst hBB; exact h96
    have cBB : ∀ {w1 : World} {L : List (Nat × Obj)}, Hp w67 w1 L → BB ∈ L → cel w1 b94 0 = some (.slice ap np cp) ∧ cel w1 b94 1 = some (.slice ai ni ci) := by
      intro w1 L h1 hm
      subst hBB
      exact ⟨cel_of (h1.own _ hm).2 rfl, cel_of (h1.own _ hm).2 rfl⟩
    refine (reach_w' (f := f) ⟨ab, nb, cb, rfl, RdBlocks.ext h96.ext hbs67⟩ hflim).mono ?_
    rintro _ w100 ⟨br, rfl, h100'⟩
    have hb0 : cel w100 br (0 + q * 1) = some (.bool rx) := h100'.cl 0 rfl (by simp [hrx])
    have h100 := h96.step h100'.ext
    clear h100' h96 h95
    refine ⟨_, _, _, rfl, by omega, by omega, ptAt_of rfl ⟨rx, hb0, sp_of (fun hno => ?_) (fun hyes => ?_)⟩⟩
    · have hno : rx = false := by simpa using hno
      rw [if_neg (by rw [hno]; simp)] at hgz hgf2
      exact hK83 _ _ ⟨nb - (q + 1), by omega, q + 1, z, ks, oa, of, wrap_succ (by simp only [maxLen]; omega), by omega, rfl, rfl, h100.drop 1, hoa, hof, hzw, hgz, hgf2⟩
    have hyes : rx = true := by simpa using hyes
    rw [if_pos hyes] at hgz hgf2
    refine alp h100 fun b105 w106 h106 => ⟨_, _, _, (cBB h106 (by simp)).1, ?_⟩
    obtain ⟨aq, cq, w109, rq, hrun, hsq, h109⟩ := app2 (ty := 34) slInts (by omega) (Sls.nil 1 (some ⟨b105, 0, none⟩)) [] (L := (b105, Cl 3 []) :: [BB, (b74, of), BA, (b69, oa)]) h106 (srcI (RdI.ext hp h106.ext)) (one_ints b.params) (by simp only [maxLen]; omega) (by omega) (cx := cp)
    rw [Nat.zero_add] at hrun hsq
    have h109 : Hp w67 w109 (rq.L 3 (ints b.params) ++ [BB, (b74, of), BA, (b69, oa)]) := by
      refine h109.sub ?_
      exact List.Sublist.append_left (List.sublist_cons_self _ _) _
    refine ⟨_, _, _, w109, hrun, _, _, _, (cBB h109 (by simp)).2, ?_⟩
    have hdst : ∀ u, dsts (b.ins.drop u) = if u < b.ins.length then (match b.ins[u]? with | some i => (if i.dst = 0 then dsts (b.ins.drop (u + 1)) else i.dst :: dsts (b.ins.drop (u + 1))) | none => []) else [] := by
      intro u
      by_cases hu : u < b.ins.length
      · obtain ⟨x, hx⟩ := at_some hu
        rw [if_pos hu, drop_cons hx, hx]
        unfold dsts
        simp only [List.map_cons, List.filter_cons]
        by_cases h0 : x.dst = 0
        · simp [h0]
        · simp [h0]
      · rw [if_neg hu, List.drop_of_length_le (by omega)]; rfl
    refine ⟨fun aq nq cq i w' c => ∃ (u : Nat) (l : List Int) (rq : Rw), i = u ∧ u ≤ ni ∧ c = ni - u ∧ nq = l.length ∧ nq ≤ np + u ∧ Sls 1 aq nq cq (ints l) rq ∧ Hp w67 w' (rq.L 3 (ints l) ++ [BB, (b74, of), BA, (b69, oa)]) ∧ l ++ dsts (b.ins.drop u) = b.made,
      ⟨ni, 0, b.params, rq, rfl, by omega, by omega, hpl.symm, by omega, hsq, h109, rfl⟩, ?_⟩
    clear hsq h109 h106 h100 hrun hb0
    rintro aq nq cq i w114 c ⟨u, l, rq, rfl, hu, rfl, rfl, hlu, hsq, h114, hmade⟩
    refine sp_dec (fun hlt2 => ?_) (fun hge2 => ?_)
    · intro K117 hK117
      obtain ⟨x, hx⟩ := at_some (l := b.ins) (j := u) (by omega)
      rw [hdst u, if_pos (by omega), hx] at hmade
      simp only at hmade
      obtain ⟨bi, oi, vs, hai, hrowi, hvli, aa', na', ca', rfl, hargs⟩ := hi.at_ _ _ hx
      refine ⟨by omega, by omega, ptAt_of hai ⟨_, _, _, _, _, _, _, _, _, h114.ext.row hrowi, ?_⟩⟩
      refine alp h114 fun b129 w130 h130 => ?_
      refine stp h130 0 rfl (by simp) rfl fun w131 h131 => ⟨_, h131.cl 0 rfl rfl, sp_of (fun hd => ?_) (fun hd => ?_)⟩
      · have hd : x.dst ≠ 0 := by simpa using hd
        rw [if_neg hd] at hmade
        refine ⟨_, h131.cl 0 rfl rfl, ?_⟩
        refine alp h131 fun b134 w135 h135 => ?_
        obtain ⟨a', c', w137, r', hrun, hs, h137⟩ := app1 (ty := 34) slInts (by omega) hsq [(b134, Cl 3 [.int .i64 x.dst]), (b129, Cl 37 (splice [.int .i64 0, .int .i64 0, .slice none 0 0, .int .i64 0, .int .i64 0, .int .i64 0, .int .i64 0] 0 [.int .i64 x.op, .int .i64 x.dst, .slice aa' na' ca', .int .i64 x.num, .int .i64 x.bin, .int .i64 x.arr, .int .i64 x.fn]))]
          (L := [BB, (b74, of), BA, (b69, oa)]) h135 0 rfl rfl rfl (by simp only [maxLen]; omega) (by omega)
        have he1 : ints l ++ [.int .i64 x.dst] = ints (l ++ [x.dst]) := by simp
        rw [he1] at hs h137
        refine ⟨_, _, _, w137, hrun, hK117 _ _ _ _ ⟨ni - (u + 1), by omega, u + 1, l ++ [x.dst], r', wrap_succ (by omega), by omega, rfl, by simp, by omega, hs, h137.drop 2, by rw [← hmade]; simp⟩⟩
      · have hd : x.dst = 0 := by simpa using hd
        rw [if_pos hd] at hmade
        exact hK117 _ _ _ _ ⟨ni - (u + 1), by omega, u + 1, l, rq, wrap_succ (by omega), by omega, rfl, rfl, by omega, hsq, h131.drop 1, hmade⟩
    rw [hdst u, if_neg (by omega), List.append_nil] at hmade
    subst hmade
    have hml : b.made.length ≤ 2048 := by omega
    refine ⟨fun x y w' c => ∃ (d : Nat), y = d ∧ d ≤ 4 ∧ d ≤ dx ∧ x = 10 ^ d ∧ c = 4 - d ∧ Hp w67 w' (rq.L 3 (ints b.made) ++ [BB, (b74, of), BA, (b69, oa)]),
      ⟨4, 0, rfl, by omega, by omega, by simp, rfl, h114⟩, ?_⟩
    clear h114
    rintro x y w141 c ⟨d, rfl, hd4, hddx, rfl, rfl, h141⟩
    intro K144 hK144 K146 hK146
    have fin : (10 : Int) ^ d = weigh dx → K146 w141 := by
      intro hw
      rw [hw] at hK146
      obtain ⟨wt, hwt⟩ : ∃ x, x = weigh dx := ⟨_, rfl⟩
      rw [← hwt] at hK146 hgz
      obtain ⟨zz, hzz⟩ : ∃ zz, zz = hzVals lab wt b.made z := ⟨_, rfl⟩
      rw [← hzz] at hgz
      refine hK146 _ ?_
      refine ⟨fun kk i w' c => ∃ (t : Nat) (z2 : Hz) (oa2 : Obj), i = t ∧ t ≤ b.made.length ∧ c = b.made.length - t ∧ kk = (z2.vals.length : Nat) ∧ Hp w67 w' (rq.L 3 (ints b.made) ++ [BB, (b74, of), BA, (b69, oa2)]) ∧ MapO (atF z2.at_) oa2 ∧ z2.weights.length = z2.vals.length ∧
          hzVals lab wt (b.made.drop t) z2 = zz,
        ⟨b.made.length, 0, z, oa, rfl, by omega, by omega, rfl, h141, hoa, hzw, hzz.symm⟩, ?_⟩
      clear hK144 hK146 h141 hoa
      rintro kk i w151 c ⟨t, z2, oa2, rfl, ht, rfl, rfl, h151, hoa2, hzw2, hgo3⟩
      refine sp_dec (fun hlt3 => ?_) (fun hge3 => ?_)
      · intro K154 hK154
        obtain ⟨x, hx⟩ := at_some (l := b.made) (j := t) (by omega)
        rw [drop_cons hx, hzVals] at hgo3
        obtain ⟨bx, ox, hax, hcx⟩ := RdI.at (rdI_owns (e := 3) hsq (fun q hq => (h151.own q (List.mem_append_left _ hq)).2)) hx
        refine ⟨by omega, by omega, ptAt_of hax ⟨x, hcx, _, _, _, c42 h151.ext, by omega, by omega, ptAt_of rfl ⟨pm, h151.ext.cel hcl, lab x, lk h151.ext x, sp_of (fun hno => ?_) (fun hyes => ?_)⟩⟩⟩
        · have h1 : lab x ≠ 1 := by simpa using hno
          have hv : z2.value lab wt x = z2 := by unfold Hz.value; rw [if_neg h1]
          rw [hv] at hgo3
          exact hK154 _ _ ⟨b.made.length - (t + 1), by omega, t + 1, z2, oa2, wrap_succ (by simp only [maxLen]; omega), by omega, rfl, rfl, h151, hoa2, hzw2, hgo3⟩
        have h1 : lab x = 1 := by simpa using hyes
        have hpre : Pre (z2.value lab wt x) z1 := by
          rw [← hgz, ← hgo3]
          exact (hzVals_pre _ _ _ _).trans (hzBlks_pre _ _ _ _ _ _)
        obtain ⟨hnv, hnw⟩ := note_now h1 hpre
        rw [← hsame.v] at hnv
        rw [← hsame.w, hzw2] at hnw
        have hkl := (List.getElem?_eq_some_iff.1 hnv).1
        intro K165 hK165 K169 hK169
        obtain ⟨bv, ov, hav, hcv⟩ := RdI.at (hvals67.ext h151.ext) hnv
        obtain ⟨bu, ou, hau, hcu⟩ := RdI.at (hwts67.ext h151.ext) hnw
        refine sp_dec (fun hle => by omega) (fun _ => ⟨by omega, by omega, ptAt_of hav ⟨x, hcv, sp_of (fun h => by simp at h) (fun _ => ⟨_, _, _, (c27 h151.ext).1, by omega, by omega, ptAt_of hau ⟨wt, hcu, sp_of (fun h => by simp at h) (fun _ => hK165 _ ?_)⟩⟩)⟩⟩)
        have hcA : cel w151 b71 0 = some (.map (some b69)) := by
          have := (h151.own BA (by simp)).2
          rw [hBA] at this
          exact cel_of this rfl
        obtain ⟨w168, o', hrun, hmo, h168⟩ := upd_map mpNt h151 ((rq.L 3 (ints b.made)).length + 3) (b := b69) (o := oa2) (by rw [List.getElem?_append_right (by omega), Nat.add_sub_cancel_left]; rfl) hoa2 x (.int .i64 (z2.vals.length : Nat))
        rw [List.set_append_right _ _ (by omega), Nat.add_sub_cancel_left] at h168
        have hvl2 : (z2.value lab wt x).vals.length = z2.vals.length + 1 := by unfold Hz.value; rw [if_pos h1]; simp
        have hwl2 : (z2.value lab wt x).weights.length = z2.weights.length + 1 := by unfold Hz.value; rw [if_pos h1]; simp
        refine ⟨_, hcA, w168, hrun, hK154 _ _ ⟨b.made.length - (t + 1), by omega, t + 1, z2.value lab wt x, o', wrap_succ (by simp only [maxLen]; omega), by omega, rfl, ?_, h168, hmo.congr fun y => ?_, by omega, hgo3⟩⟩
        · rw [hvl2]; exact wrap_succ (by omega)
        · unfold atF Hz.value
          rw [if_pos h1]
          simp only
          split <;> rfl
      · rw [List.drop_of_length_le (by omega), hzVals] at hgo3
        subst hgo3
        have h151 : Hp w67 w151 [BB, (b74, of), BA, (b69, oa2)] := h151.sub (List.sublist_append_right _ _)
        refine ⟨_, _, _, (cBB h151 (by simp)).2, ?_⟩
        obtain ⟨ksE, hksE⟩ : ∃ l, l = b.ins.foldl (frStep lab p.writes) ks := ⟨_, rfl⟩
        rw [← hksE] at hgf2
        refine ⟨fun i w' c => ∃ (u : Nat) (of2 : Obj) (ks2 : List Int), i = u ∧ u ≤ ni ∧ c = ni - u ∧ Hp w67 w' [BB, (b74, of2), BA, (b69, oa2)] ∧ MpO (trues ks2) of2 ∧ (b.ins.drop u).foldl (frStep lab p.writes) ks2 = ksE,
          ⟨ni, 0, of, ks, rfl, by omega, by omega, h151, hof, hksE.symm⟩, ?_⟩
        clear h151 hof
        rintro i w181 c ⟨u, of2, ks2, rfl, hu2, rfl, h181, hof2, hgo4⟩
        refine sp_dec (fun hlt4 => ?_) (fun hge4 => ?_)
        · intro K184 hK184
          obtain ⟨x, hx⟩ := at_some (l := b.ins) (j := u) (by omega)
          rw [drop_cons hx, List.foldl_cons] at hgo4
          obtain ⟨bi, oi, vs, hai, hrowi, hvli, aa', na', ca', rfl, hargs⟩ := hi.at_ _ _ hx
          refine ⟨by omega, by omega, ptAt_of hai ⟨_, _, _, _, _, _, _, _, _, h181.ext.row hrowi, ?_⟩⟩
          refine alp h181 fun b195 w196 h196 => ?_
          refine stp h196 0 rfl (by simp) rfl fun w197 h197 => ?_
          obtain ⟨BI, hBI⟩ : ∃ B : Nat × Obj, B = (b195, Cl 37 [.int .i64 x.op, .int .i64 x.dst, .slice aa' na' ca', .int .i64 x.num, .int .i64 x.bin, .int .i64 x.arr, .int .i64 x.fn]) := ⟨_, rfl⟩
          have h197 : Hp w67 w197 [BI, BB, (b74, of2), BA, (b69, oa2)] := by subst hBI; exact h197
          have cBI : ∀ {w1 : World} {L : List (Nat × Obj)}, Hp w67 w1 L → BI ∈ L → cel w1 b195 1 = some (.int .i64 x.dst) ∧ Row w1 b195 0 [.int .i64 x.op, .int .i64 x.dst, .slice aa' na' ca', .int .i64 x.num, .int .i64 x.bin, .int .i64 x.arr, .int .i64 x.fn] := by
            intro w1 L h1 hm
            subst hBI
            refine ⟨cel_of (h1.own _ hm).2 rfl, fun j v hj => ?_⟩
            rw [Nat.zero_add]
            exact cel_of (h1.own _ hm).2 hj
          intro K198 hK198
          have hd := h197.drew
          have nx : ∀ (fl : Bool) (w' : World), Hp w67 w' [BI, BB, (b74, of2), BA, (b69, oa2)] → fl = decide (x.dst ≠ 0 ∧ lab x.dst = 1 ∧ may p.writes x = 1) → K198 fl w' := by
            intro fl w' h' hfl
            refine hK198 fl w' (sp_of (fun e => ?_) (fun e => ?_))
            · rw [e] at hfl
              have hc := of_decide_eq_true hfl.symm
              obtain ⟨w202, o', hrun, hmo, h202⟩ := upd_run mpCut h' 2 rfl hof2 x.dst (.bool true)
              rw [trues_put] at hmo
              refine ⟨_, (cBI h' (by simp)).1, w202, hrun, hK184 _ ⟨ni - (u + 1), by omega, u + 1, o', kput ks2 x.dst, wrap_succ (by omega), by omega, rfl, h202.drop 1, hmo, ?_⟩⟩
              rw [frStep, if_pos hc] at hgo4
              exact hgo4
            · rw [e] at hfl
              have hc := of_decide_eq_false hfl.symm
              rw [frStep, if_neg hc] at hgo4
              exact hK184 _ ⟨ni - (u + 1), by omega, u + 1, of2, ks2, wrap_succ (by omega), by omega, rfl, h'.drop 1, hof2, hgo4⟩
          refine ⟨_, (cBI hd (by simp)).1, sp_of (fun h0 => ?_) (fun h0 => nx _ _ hd ?_)⟩
          · have h0 : x.dst ≠ 0 := by simpa using h0
            refine ⟨_, _, _, c42 hd.ext, by omega, by omega, ptAt_of rfl ⟨pm, hd.ext.cel hcl, _, (cBI hd (by simp)).1, lab x.dst, fun w' hx' => lk (hd.ext.trans hx') x.dst, sp_dec (fun h1 => ?_) (fun h1 => nx _ _ hd ?_)⟩⟩
            · refine ⟨_, _, _, _, _, _, _, _, _, (cBI hd (by simp)).2, ?_⟩
              refine (may_w x (RdBs.ext hwr hd.ext)).mono ?_
              rintro _ w218 ⟨rfl, hx218⟩
              exact ⟨_, rfl, nx _ _ (hd.step hx218) (by simp [h0, h1])⟩
            · simp [h1]
          · have h0 : x.dst = 0 := by simpa using h0
            simp [h0]
        · rw [List.drop_of_length_le (by omega), List.foldl_nil] at hgo4
          subst hgo4
          have hzwz : (hzVals lab wt [] z2).weights.length = (hzVals lab wt [] z2).vals.length := hzw2
          exact hK83 _ _ ⟨nb - (q + 1), by omega, q + 1, z2, ks2, oa2, of2, wrap_succ (by simp only [maxLen]; omega), by omega, rfl, rfl, h181.drop 1, hoa2, hof2, hzw2, hgz, hgf2⟩
    have hpow : ∀ e : Nat, e ≤ 4 → (0 : Int) ≤ 10 ^ e ∧ (10 : Int) ^ e ≤ 10000 := by
      intro e he
      rcases (by omega : e = 0 ∨ e = 1 ∨ e = 2 ∨ e = 3 ∨ e = 4) with rfl | rfl | rfl | rfl | rfl <;> decide
    refine ⟨by omega, by omega, ptAt_of rfl ⟨_, hdep67 h141.ext _ _ hdx, sp_dec (fun h1 => sp_dec (fun h2 => hK144 _ ⟨4 - (d + 1), by omega, d + 1, wrap_succ (by simp only [maxLen]; omega), by omega, by omega, ?_, rfl, h141⟩) (fun h2 => fin ?_)) (fun h1 => fin ?_)⟩⟩
    · have := hpow d hd4
      rw [wrap_in (by omega) (by omega), Int.pow_succ]
    · have : d = 4 := by omega
      subst this
      rw [weigh, Nat.min_eq_right (by omega)]
    · rw [weigh, show min dx 4 = d by omega]
  rw [List.drop_of_length_le (by omega), hzBlks] at hgz
  rw [List.drop_of_length_le (by omega), frBlks] at hgf2
  subst hgz hgf2
  clear hz1' hFK' lk c42 hdep67
  have hkvl : z.vals.length = n25 := by rw [← hvl, hsame.v]
  refine sp_of (fun h0 => by simp [hkvl] at h0) (fun _ => ⟨_, _, _, (c27 h80.ext).2.2, ?_⟩)
  have hnrl := hfrm67.len
  have hnrle := hfrm67.le
  have hbeg : ∀ {u : Nat} {x : Int}, Z.frm[u]? = some x → ∃ (m : Nat) (v : Int), x = m ∧ Z.vals[m]? = some v ∧ v ∈ ks := by
    intro u x hx
    have := List.mem_of_getElem? hx
    rw [hZf] at this
    obtain ⟨m, v, h1, h2, h3⟩ := frm_fk honce this
    exact ⟨m, v, h1, by rw [hZf]; exact h2, by rw [hFK]; exact h3⟩
  refine ⟨fun i w' c => ∃ (u : Nat), i = u ∧ u ≤ nr ∧ c = nr - u ∧ w' = w80, ⟨nr, 0, rfl, by omega, by omega, rfl⟩, ?_⟩
  rintro i _ c ⟨u, rfl, hu, rfl, rfl⟩
  refine sp_dec (fun hlt => ?_) (fun hge2 => ?_)
  · obtain ⟨x, hx⟩ := at_some (l := Z.frm) (j := u) (by omega)
    obtain ⟨m, v, rfl, hv, hvk⟩ := hbeg hx
    have hml := (List.getElem?_eq_some_iff.1 hv).1
    obtain ⟨bx, ox, hax, hcx⟩ := RdI.at (hfrm67.ext h80.ext) hx
    obtain ⟨bv, ov, hav, hcv⟩ := RdI.at (hvals67.ext h80.ext) hv
    have hlook := look_map (P := Pg) (t := 56) mpCut (z := .bool false) (by kernel_rfl) (p := some b74) (f := fun k => mget (trues ks) k) ⟨of, h80.at 0 rfl, _, hof, fun _ => rfl⟩ v
    rw [trues_get, if_pos hvk] at hlook
    exact ⟨by omega, by omega, ptAt_of hax ⟨_, hcx, by omega, by omega, ptAt_of hav ⟨v, hcv, true, hlook, sp_false rfl ⟨nr - (u + 1), by omega, u + 1, wrap_succ (by omega), by omega, rfl, rfl⟩⟩⟩⟩
  obtain ⟨r, w237, oi, hrng, h237, hrg0, hx237⟩ := range_run (P := Pg) mpCut h80 (h80.at 0 rfl) hof
  refine ⟨_, w237, hrng, ?_⟩
  refine ⟨fun w' c => ∃ (left : List (Int × Value)) (oi : Obj), c = left.length ∧ Hp w67 w' [(r, oi), (b74, of), BA, (b69, oa)] ∧ Rg b74 (trues ks) left of oi, ⟨_, _, oi, rfl, h237, hrg0⟩, ?_⟩
  clear hrng h237 hrg0 hx237 h80
  rintro w239 c ⟨left, oi, rfl, h239, hrg⟩
  have hrb : r ≠ b74 := by
    have := h239.nd
    simp only [List.map_cons, List.nodup_cons, List.mem_cons, not_or] at this
    exact this.1.1
  rcases next_run (P := Pg) (ty := 0) h239 0 rfl (h239.at 1 rfl) hrb hrg with ⟨hl0, hnx⟩ | ⟨key, v, left', w243, oi', hperm, hnx, h243, hrg', hkv, hent, -, -⟩
  rotate_left
  · right
    obtain ⟨y, hyk, hye⟩ := List.mem_map.1 hkv
    cases hye
    refine ⟨_, _, w243, hnx, key, true, hent, _, _, _, (c27 h243.ext).2.2, ?_⟩
    obtain ⟨x0, m0, hx0, rfl, hm0⟩ := fk_frm (fn := k) (sinks := p.sinks S1) (by rw [hFK] at hyk; exact hyk)
    rw [← hZf] at hx0 hm0
    refine ⟨fun fl i w' c => ∃ (u : Nat), i = u ∧ u ≤ nr ∧ c = nr - u ∧ w' = w243 ∧ (fl = true ∨ ∃ x ∈ Z.frm.drop u, ∃ m : Nat, x = m ∧ Z.vals[m]? = some key), ⟨nr, 0, rfl, by omega, by omega, rfl, .inr ⟨_, hx0, m0, rfl, hm0⟩⟩, ?_⟩
    rintro fl i _ c ⟨u, rfl, hu3, rfl, rfl, hfl⟩
    refine sp_dec (fun hlt => ?_) (fun hge3 => ?_)
    · intro K382 hK382
      obtain ⟨x, hx⟩ := at_some (l := Z.frm) (j := u) (by omega)
      obtain ⟨m, v, rfl, hv, hvk⟩ := hbeg hx
      have hml := (List.getElem?_eq_some_iff.1 hv).1
      obtain ⟨bx, ox, hax, hcx⟩ := RdI.at (hfrm67.ext h243.ext) hx
      obtain ⟨bv, ov, hav, hcv⟩ := RdI.at (hvals67.ext h243.ext) hv
      refine ⟨by omega, by omega, ptAt_of hax ⟨_, hcx, sp_of (fun e => hK382 _ _ ⟨nr - (u + 1), by omega, u + 1, wrap_succ (by omega), by omega, rfl, rfl, .inl rfl⟩) (fun e => ⟨by omega, by omega, ptAt_of hav ⟨v, hcv, hK382 _ _ ⟨nr - (u + 1), by omega, u + 1, wrap_succ (by omega), by omega, rfl, rfl, ?_⟩⟩⟩)⟩⟩
      rcases hfl with hfl | ⟨x, hxm, m2, rfl, hm2⟩
      · rw [e] at hfl; cases hfl
      · rw [drop_cons hx] at hxm
        rcases List.mem_cons.1 hxm with hxe | hxm
        · have : m2 = m := by omega
          subst this
          rw [hv] at hm2
          cases hm2
          exact .inl (by simp)
        · exact .inr ⟨_, hxm, m2, rfl, hm2⟩
    · have : fl = true := by
        rcases hfl with hfl | ⟨x, hxm, _⟩
        · exact hfl
        · rw [List.drop_of_length_le (by omega)] at hxm; cases hxm
      subst this
      have hle := hperm.length_eq
      simp only [List.length_cons] at hle
      exact sp_false rfl ⟨left'.length, by omega, left', oi', rfl, h243, hrg'⟩
  left
  refine ⟨w239, hnx, ?_⟩
  clear hnx hrg hbeg hof hrb
  have h239 : Hp w67 w239 [BA, (b69, oa)] := h239.drop 2
  refine alm h239 fun b264 w265 h265 => alp h265 fun b266 w267 h267 => ?_
  refine stp h267 0 rfl (by simp) rfl fun w268 h268 => ⟨_, _, _, (r52 h268.ext).2, ?_⟩
  obtain ⟨BW, hBW⟩ : ∃ B : Nat × Obj, B = (b266, Cl 82 [.map (some b264)]) := ⟨_, rfl⟩
  have h268 : Hp w67 w268 [BW, (b264, .map #[] 0), BA, (b69, oa)] := by subst hBW; exact h268
  obtain ⟨zW, hzW⟩ : ∃ zW, zW = hzWays p.writes f.blocks f.blocks z := ⟨_, rfl⟩
  have hzw0 : z.ways = [] := by rw [hz1]; exact z1_ways
  have hZw : Z.ways = zW.ways := by rw [hZf, hz_ways, hzW, hz1]
  have hatok : ∀ (k : Int) (x : Int), z.at_ k = some x → -9223372036854775808 ≤ x ∧ x ≤ 9223372036854775807 := by
    intro y x hx
    rw [hz1] at hx
    obtain ⟨m, rfl, hm⟩ := z1_i _ _ hx
    rw [← hz1] at hm
    have := (List.getElem?_eq_some_iff.1 hm).1
    simp only [maxLen] at hvle
    omega
  refine ⟨fun i w' c => ∃ (u : Nat) (zz : Hz) (ow : Obj), i = u ∧ u ≤ nb ∧ c = nb - u ∧ Hp w67 w' [BW, (b264, ow), BA, (b69, oa)] ∧ MpP (pputs zz.ways) ow ∧ zz.at_ = z.at_ ∧ hzWays p.writes f.blocks (f.blocks.drop u) zz = zW,
    ⟨nb, 0, z, _, rfl, by omega, by omega, h268, by rw [hzw0]; exact MpP.empty, rfl, hzW.symm⟩, ?_⟩
  clear h268 h267 h265 h239
  rintro i w272 c ⟨u, zz, ow, rfl, hu4, rfl, h272, how, hzat, hgoW⟩
  have cBW : ∀ {w1 : World} {L : List (Nat × Obj)}, Hp w67 w1 L → BW ∈ L → (b266, Cl 82 [.map (some b264)]) ∈ L := by
    intro w1 L h1 hm
    rw [hBW] at hm
    exact hm
  refine sp_dec (fun hlt => ?_) (fun hge4 => ?_)
  · obtain ⟨b, hy⟩ := at_some (l := f.blocks) (j := u) (by omega)
    rw [drop_cons hy, hzWays] at hgoW
    have hbm := List.mem_of_getElem? hy
    have hblim := hflim.each b hbm
    obtain ⟨bt, ot, ap, np, cp, ai, ni, ci, ae, ne, ce, hat, hrowt, hp, hi, he⟩ := blkOf hbs67 hy
    have hil := hi.len
    have hile := hi.le
    have hel := he.len
    have hele := he.le
    refine ⟨by omega, by omega, ptAt_of hat ⟨_, _, _, _, _, _, _, _, _, _, _, _, h272.ext.row hrowt, ?_⟩⟩
    refine alp h272 fun b283 w284 h284 => ?_
    refine stp h284 0 rfl (by simp) rfl fun w285 h285 => ?_
    obtain ⟨BK, hBK⟩ : ∃ B : Nat × Obj, B = (b283, Cl 47 [.slice ap np cp, .slice ai ni ci, .int .i64 b.fin.kind, .int .i64 b.fin.val, .slice ae ne ce, .int .i64 b.fin.trap]) := ⟨_, rfl⟩
    have h285 : Hp w67 w285 [BK, BW, (b264, ow), BA, (b69, oa)] := by subst hBK; exact h285
    have cBK : ∀ {w1 : World} {L : List (Nat × Obj)}, Hp w67 w1 L → BK ∈ L → cel w1 b283 1 = some (.slice ai ni ci) ∧ cel w1 b283 4 = some (.slice ae ne ce) := by
      intro w1 L h1 hm
      subst hBK
      exact ⟨cel_of (h1.own _ hm).2 rfl, cel_of (h1.own _ hm).2 rfl⟩
    refine ⟨_, _, _, (cBK h285 (by simp)).1, ?_⟩
    obtain ⟨zI, hzI⟩ : ∃ x, x = hzIns p.writes b.ins zz := ⟨_, rfl⟩
    have hatI : zI.at_ = z.at_ := by rw [hzI, (hzIns_same _ _ _).a, hzat]
    rw [← hzI] at hgoW
    refine ⟨fun i w' c => ∃ (s : Nat) (z2 : Hz) (ow2 : Obj), i = s ∧ s ≤ ni ∧ c = ni - s ∧ Hp w67 w' [BK, BW, (b264, ow2), BA, (b69, oa)] ∧ MpP (pputs z2.ways) ow2 ∧ z2.at_ = z.at_ ∧ hzIns p.writes (b.ins.drop s) z2 = zI,
      ⟨ni, 0, zz, ow, rfl, by omega, by omega, h285, how, hzat, hzI.symm⟩, ?_⟩
    clear h285 h284 h272 how hzat hzI
    rintro i w289 c ⟨s, z2, ow2, rfl, hs, rfl, h289, how2, hzat2, hgoI⟩
    refine sp_dec (fun hlt2 => ?_) (fun hge5 => ?_)
    · obtain ⟨x, hx⟩ := at_some (l := b.ins) (j := s) (by omega)
      rw [drop_cons hx, hzIns] at hgoI
      obtain ⟨bi, oi, vs, hai, hrowi, hvli, aa', na', ca', rfl, hargs⟩ := hi.at_ _ _ hx
      have hal := hargs.len
      have hale := hargs.le
      refine ⟨by omega, by omega, ptAt_of hai ⟨_, _, _, _, _, _, _, _, _, h289.ext.row hrowi, ?_⟩⟩
      refine alp h289 fun b301 w302 h302 => ?_
      refine stp h302 0 rfl (by simp) rfl fun w303 h303 => ?_
      obtain ⟨BN, hBN⟩ : ∃ B : Nat × Obj, B = (b301, Cl 37 [.int .i64 x.op, .int .i64 x.dst, .slice aa' na' ca', .int .i64 x.num, .int .i64 x.bin, .int .i64 x.arr, .int .i64 x.fn]) := ⟨_, rfl⟩
      have h303 : Hp w67 w303 [BN, BK, BW, (b264, ow2), BA, (b69, oa)] := by subst hBN; exact h303
      have cBN : ∀ {w1 : World} {L : List (Nat × Obj)}, Hp w67 w1 L → BN ∈ L → cel w1 b301 1 = some (.int .i64 x.dst) ∧ cel w1 b301 2 = some (.slice aa' na' ca') := by
        intro w1 L h1 hm
        subst hBN
        exact ⟨cel_of (h1.own _ hm).2 rfl, cel_of (h1.own _ hm).2 rfl⟩
      refine ⟨_, _, _, (cBN h303 (by simp)).2, ?_⟩
      obtain ⟨zA, hzA⟩ : ∃ y, y = hzArgs x.dst x.args z2 := ⟨_, rfl⟩
      have hatA : zA.at_ = z.at_ := by rw [hzA, (hzArgs_same _ _ _).a, hzat2]
      rw [← hzA] at hgoI
      refine ⟨fun i w' c => ∃ (t : Nat) (z3 : Hz) (ow3 : Obj), i = t ∧ t ≤ na' ∧ c = na' - t ∧ Hp w67 w' [BN, BK, BW, (b264, ow3), BA, (b69, oa)] ∧ MpP (pputs z3.ways) ow3 ∧ z3.at_ = z.at_ ∧ hzArgs x.dst (x.args.drop t) z3 = zA,
        ⟨na', 0, z2, ow2, rfl, by omega, by omega, h303, how2, hzat2, hzA.symm⟩, ?_⟩
      clear h303 h302 h289 how2 hzat2 hzA
      rintro i w307 c ⟨t, z3, ow3, rfl, ht, rfl, h307, how3, hzat3, hgoA⟩
      refine sp_dec (fun hlt3 => ?_) (fun hge6 => ?_)
      · obtain ⟨y, hy2⟩ := at_some (l := x.args) (j := t) (by omega)
        rw [drop_cons hy2, hzArgs] at hgoA
        obtain ⟨by_, oy, hay, hcy⟩ := RdI.at (RdI.ext hargs.rd h307.ext) hy2
        refine ⟨by omega, by omega, ptAt_of hay ⟨y, hcy, _, (cBN h307 (by simp)).1, ?_⟩⟩
        refine CallV.mono (note_w (oa := oa) h307 3 rfl (tA := 77) (by rw [← hBA]; simp) (cBW h307 (by simp)) (by simp) hoa how3 hatok y x.dst) ?_
        rintro _ w315 ⟨rfl, ow', h315, how'⟩
        rw [← hzat3, noteW_way] at how'
        exact ⟨rfl, na' - (t + 1), by omega, t + 1, _, ow', wrap_succ (by omega), by omega, rfl, h315, how', by rw [(Hz.way_same _ _ _).a, hzat3], hgoA⟩
      · rw [List.drop_of_length_le (by omega), hzArgs] at hgoA
        subst hgoA
        exact ⟨ni - (s + 1), by omega, s + 1, Hz.fromIns p.writes x z3, ow3, wrap_succ (by omega), by omega, rfl, h307.drop 1, by rw [Hz.fromIns_ways]; exact how3, by rw [(Hz.fromIns_same _ _ _).a, hzat3], hgoI⟩
    rw [List.drop_of_length_le (by omega), hzIns] at hgoI
    subst hgoI
    refine ⟨_, _, _, (cBK h289 (by simp)).2, ?_⟩
    obtain ⟨zE, hzE⟩ : ∃ y, y = hzEdges f.blocks b.fin.ways z2 := ⟨_, rfl⟩
    have hatE : zE.at_ = z.at_ := by rw [hzE, (hzEdges_same _ _ _).a, hzat2]
    rw [← hzE] at hgoW
    refine ⟨fun i w' c => ∃ (s : Nat) (z4 : Hz) (ow4 : Obj), i = s ∧ s ≤ ne ∧ c = ne - s ∧ Hp w67 w' [BK, BW, (b264, ow4), BA, (b69, oa)] ∧ MpP (pputs z4.ways) ow4 ∧ z4.at_ = z.at_ ∧ hzEdges f.blocks (b.fin.ways.drop s) z4 = zE,
      ⟨ne, 0, z2, ow2, rfl, by omega, by omega, h289, how2, hzat2, hzE.symm⟩, ?_⟩
    clear h289 how2 hzat2 hzE
    rintro i w319 c ⟨s2, z4, ow4, rfl, hs2, rfl, h319, how4, hzat4, hgoE⟩
    refine sp_dec (fun hlt2 => ?_) (fun hge6 => ?_)
    · obtain ⟨e, hz⟩ := at_some (l := b.fin.ways) (j := s2) (by omega)
      rw [drop_cons hz, hzEdges] at hgoE
      have hwok := List.all_eq_true.1 (hfb b hbm).2.1 e (List.mem_of_getElem? hz)
      unfold wayOk at hwok
      simp only [Bool.and_eq_true, decide_eq_true_eq] at hwok
      obtain ⟨⟨hto1, hto2⟩, hwl2⟩ := hwok
      obtain ⟨b2, hb2⟩ := at_some (l := f.blocks) (j := e.to.toNat) (by omega)
      rw [hb2] at hwl2 hgoE
      have hwl2 : e.args.length = b2.params.length := by simpa using hwl2
      simp only at hgoE
      obtain ⟨bi, oi, vs, hai, hrowi, hvli, aa', na', ca', rfl, hargs⟩ := he.at_ _ _ hz
      have hal := hargs.len
      have hale := hargs.le
      obtain ⟨bt2, ot2, ap2, np2, cp2, ai2, ni2, ci2, ae2, ne2, ce2, hat2, hrowt2, hp2, hi2, he2⟩ := blkOf hbs67 hb2
      have hpl2 := hp2.len
      have hple2 := hp2.le
      refine ⟨by omega, by omega, ptAt_of hai ⟨_, _, _, _, h319.ext.row hrowi, ?_⟩⟩
      refine alp h319 fun b326 w327 h327 => ?_
      refine stp h327 0 rfl (by simp) rfl fun w328 h328 => ?_
      obtain ⟨BE, hBE⟩ : ∃ B : Nat × Obj, B = (b326, Cl 41 [.int .i64 e.to, .slice aa' na' ca']) := ⟨_, rfl⟩
      have h328 : Hp w67 w328 [BE, BK, BW, (b264, ow4), BA, (b69, oa)] := by subst hBE; exact h328
      have cBE : ∀ {w1 : World} {L : List (Nat × Obj)}, Hp w67 w1 L → BE ∈ L → cel w1 b326 0 = some (.int .i64 e.to) ∧ cel w1 b326 1 = some (.slice aa' na' ca') := by
        intro w1 L h1 hm
        subst hBE
        exact ⟨cel_of (h1.own _ hm).2 rfl, cel_of (h1.own _ hm).2 rfl⟩
      have hcp : cel w328 bt2 (ot2 + e.to.toNat * 6) = some (.slice ap2 np2 cp2) := by
        exact h328.ext.row hrowt2 0 _ rfl
      refine ⟨_, _, _, (r52 h328.ext).2, _, (cBE h328 (by simp)).1, by omega, by omega, ptAt_of hat2 ⟨_, _, _, hcp, ?_⟩⟩
      obtain ⟨zF, hzF⟩ : ∃ y, y = hzEdge b2.params e.args z4 := ⟨_, rfl⟩
      have hatF : zF.at_ = z.at_ := by rw [hzF, (hzEdge_same _ _ _).a, hzat4]
      rw [← hzF] at hgoE
      refine ⟨fun i w' c => ∃ (t : Nat) (z5 : Hz) (ow5 : Obj), i = t ∧ t ≤ np2 ∧ c = np2 - t ∧ Hp w67 w' [BE, BK, BW, (b264, ow5), BA, (b69, oa)] ∧ MpP (pputs z5.ways) ow5 ∧ z5.at_ = z.at_ ∧ hzEdge (b2.params.drop t) (e.args.drop t) z5 = zF,
        ⟨np2, 0, z4, ow4, rfl, by omega, by omega, h328, how4, hzat4, hzF.symm⟩, ?_⟩
      clear h328 h327 h319 how4 hzat4 hzF hcp
      rintro i w336 c ⟨t, z5, ow5, rfl, ht, rfl, h336, how5, hzat5, hgoF⟩
      refine sp_dec (fun hlt3 => ?_) (fun hge7 => ?_)
      · obtain ⟨q2, hq2⟩ := at_some (l := b2.params) (j := t) (by omega)
        obtain ⟨y, hy2⟩ := at_some (l := e.args) (j := t) (by omega)
        rw [drop_cons hq2, drop_cons hy2, hzEdge] at hgoF
        obtain ⟨bq, oq, haq, hcq⟩ := RdI.at (RdI.ext hp2 h336.ext) hq2
        obtain ⟨by_, oy, hay, hcy⟩ := RdI.at (RdI.ext hargs h336.ext) hy2
        refine ⟨by omega, by omega, ptAt_of haq ⟨q2, hcq, _, _, _, (cBE h336 (by simp)).2, by omega, by omega, ptAt_of hay ⟨y, hcy, ?_⟩⟩⟩
        refine CallV.mono (note_w (oa := oa) h336 3 rfl (tA := 77) (by rw [← hBA]; simp) (cBW h336 (by simp)) (by simp) hoa how5 hatok y q2) ?_
        rintro _ w347 ⟨rfl, ow', h347, how'⟩
        rw [← hzat5, noteW_way] at how'
        exact ⟨rfl, np2 - (t + 1), by omega, t + 1, _, ow', wrap_succ (by omega), by omega, rfl, h347, how', by rw [(Hz.way_same _ _ _).a, hzat5], hgoF⟩
      · rw [List.drop_of_length_le (show b2.params.length ≤ t by omega), hzEdge] at hgoF
        · subst hgoF
          exact ⟨ne - (s2 + 1), by omega, s2 + 1, z5, ow5, wrap_succ (by omega), by omega, rfl, h336.drop 1, how5, hzat5, hgoE⟩
        · simp
    · rw [List.drop_of_length_le (by omega), hzEdges] at hgoE
      subst hgoE
      exact ⟨nb - (u + 1), by omega, u + 1, z4, ow4, wrap_succ (by simp only [maxLen]; omega), by omega, rfl, h319.drop 1, how4, hzat4, hgoW⟩
  · rw [List.drop_of_length_le (by omega), hzWays] at hgoW
    subst hgoW
    rw [← hZw] at how
    refine alm h272 fun b348 w349 h349 => ⟨_, _, _, (c27 h349.ext).2.1, ?_⟩
    have hnyl := hways67.len
    have hnyle := hways67.le
    refine ⟨fun i w' c => ∃ (s : Nat) (os : Obj), i = s ∧ s ≤ ny ∧ c = ny - s ∧ Hp w67 w' [(b348, os), BW, (b264, ow), BA, (b69, oa)] ∧ MpP (pputs (Z.ways.take s)) os,
      ⟨ny, 0, _, rfl, by omega, by omega, h349, MpP.empty⟩, ?_⟩
    clear h349 h272
    rintro i w353 c ⟨s, os, rfl, hs5, rfl, h353, hos⟩
    refine sp_dec (fun hlt => ?_) (fun hge5 => ?_)
    · obtain ⟨x, hx⟩ := at_some (l := Z.ways) (j := s) (by omega)
      obtain ⟨bx, ox, vs, hax, hrx, hvx, hvs⟩ := (RdTwo.ext hways67 h353.ext).at_ _ _ hx
      have hvs : vs = [.int .i64 x.1, .int .i64 x.2] := hvs
      subst hvs
      refine ⟨by omega, by omega, ptAt_of hax ⟨_, _, hrx, ?_⟩⟩
      refine alp h353 fun b360 w361 h361 => ?_
      refine stp h361 0 rfl (by simp) rfl fun w362 h362 => ?_
      have hcW : cel w362 b266 0 = some (.map (some b264)) := by
        have := (h362.own BW (by simp)).2
        rw [hBW] at this
        exact cel_of this rfl
      have hmem : x ∈ pputs Z.ways := mem_pputs.2 (List.mem_of_getElem? hx)
      have hokx : okP x := by obtain ⟨_, _, _, _, h⟩ := how; exact h x hmem
      have hlook := plook_run how (h362.at 3 rfl) hokx
      rw [decide_eq_true hmem] at hlook
      obtain ⟨w369, o', hrun, hmo, h369⟩ := pupd_run h362 1 rfl hos hokx
      refine ⟨_, hcW, _, _, h362.row 0 rfl, true, hlook, sp_false rfl ⟨_, _, h362.row 0 rfl, w369, hrun, ny - (s + 1), by omega, s + 1, o', wrap_succ (by omega), by omega, rfl, h369.drop 1, ?_⟩⟩
      rw [List.take_add_one, hx, Option.toList_some, pputs_snoc]
      exact hmo
    · rw [List.take_of_length_le (by omega)] at hos
      have hcW : cel w353 b266 0 = some (.map (some b264)) := by
        have := (h353.own BW (by simp)).2
        rw [hBW] at this
        exact cel_of this rfl
      refine ⟨_, plen_run hos (h353.at 0 rfl), _, hcW, _, plen_run how (h353.at 2 rfl), ?_, hx67w.trans h353.ext⟩
      simp
end Go.Pl.Try

/- 'Of' at every program of few parts that is right. -/
namespace Go.Pl.Try
open M
set_option linter.unusedVariables false
theorem leastRun_any {n : Net} (h : n.Fit) : ∃ fin, LeastRun n fin ∧ FI n.mk' fin ∧ fin.found = false := by
  have h0 := mk_f0 h
  obtain ⟨fin, k, h1, h2, h3⟩ := least_fin h
  exact ⟨fin, ⟨FI n.mk', k, FI.refl h0, h1, fun f hf => ⟨hf.ready h0, by rw [hf.outs, mk_outs], fun hfd => (hf.push h0 hfd).1⟩⟩, h2, h3⟩
/-- What is known of the flows. -/
structure FlAt (p : Prg) (S1 : TS) (fl : Nat → Fl) : Prop where
  fit : ∀ k, k < p.funcs.length → (p.hz S1 k).net.Fit
  fi : ∀ k, k < p.funcs.length → FI (p.hz S1 k).net.mk' (fl k)
  fin : ∀ k, k < p.funcs.length → (fl k).found = false
theorem ofRun_any {p : Prg} (hp : p.Few) (hc : p.check = true) {S1 : TS} (hS1 : ∃ k, TS.go p p.noCut p.writes k p.start = some S1) : ∃ fl S2, OfRun p S1 fl S2 ∧ FlAt p S1 fl := by
  have hfit : ∀ k, k < p.funcs.length → (p.hz S1 k).net.Fit := fun k hk => Prg.hz_fit hp S1 hk
  have hex : ∀ k, ∃ fl : Fl, k < p.funcs.length → LeastRun (p.hz S1 k).net fl ∧ FI (p.hz S1 k).net.mk' fl ∧ fl.found = false := by
    intro k
    by_cases hk : k < p.funcs.length
    · obtain ⟨fin, h1⟩ := leastRun_any (hfit k hk)
      exact ⟨fin, fun _ => h1⟩
    · exact ⟨⟨[], []⟩, fun h => absurd h hk⟩
  let fl : Nat → Fl := fun k => Classical.choose (hex k)
  have hfl : ∀ k, k < p.funcs.length → LeastRun (p.hz S1 k).net (fl k) ∧ FI (p.hz S1 k).net.mk' (fl k) ∧ (fl k).found = false := fun k => Classical.choose_spec (hex k)
  obtain ⟨S2, k2, hS2⟩ := fix_of hc (p.newCut S1 fl)
  exact ⟨fl, S2, ⟨sane_of hp.lim hc, hS1, hfit, fun k hk => (hfl k hk).1, ⟨k2, hS2⟩⟩, ⟨hfit, fun k hk => (hfl k hk).2.1, fun k hk => (hfl k hk).2.2⟩⟩
end Go.Pl.Try

/- What '(palings/cut.Net).Cuts$1' does, read off its translation by gen.py. -/
namespace Go.Pl.Try
set_option linter.unusedVariables false
set_option maxRecDepth 100000
def F40 (v1 : Int) (b2 : Nat) (o3 : Nat) (b4 : Nat) (o5 : Nat) (b6 : Nat) (o7 : Nat) (w : World) (R : Value → World → Prop) : Prop :=
  ∃ (ax8 : Option Addr) (nx8 cx8 : Nat), cel w b2 o3 = some (.slice ax8 nx8 cx8) ∧
  0 ≤ (v1 : Int) ∧ (v1 : Int) < (nx8 : Nat) ∧
  ptAt ax8 fun b9 o10 =>
  ∃ (x11 : Bool), cel w b9 (o10 + v1.toNat * 1) = some (.bool x11) ∧
  sp (!x11)
  (∃ X12 : Nat → Prop,
  ¬ X12 b2 ∧
  ∃ (ax13 : Option Addr) (nx13 cx13 : Nat), cel w.drew b2 o3 = some (.slice ax13 nx13 cx13) ∧
  ¬ X12 b4 ∧
  ∃ (ax14 : Option Addr) (nx14 cx14 : Nat), cel w.drew b4 o5 = some (.slice ax14 nx14 cx14) ∧
  0 ≤ (v1 : Int) ∧ (v1 : Int) < (nx13 : Nat) ∧
  ptAt ax13 fun b15 o16 =>
  StP b15 (o16 + v1.toNat * 1) [.bool true] w.drew fun w17 =>
  ExtX X12 w.drew w17 ∧
  0 ≤ (v1 : Int) ∧ (v1 : Int) < (nx14 : Nat) ∧
  ptAt ax14 fun b18 o19 =>
  StP b18 (o19 + v1.toNat * 1) [.bool true] w17 fun w20 =>
  ∃ (ax21 : Option Addr) (nx21 cx21 : Nat), cel w20 b6 o7 = some (.slice ax21 nx21 cx21) ∧
  AlP 3 [.int .i64 v1] w20 fun b22 w23 =>
  ∃ (ax24 : Option Addr) (nx24 cx24 : Nat), ∃ w25 : World, Sem.run Pg (Builtin.append_ #[34, 34] 34 ⟨[.slice ax21 nx21 cx21, .slice (some ⟨b22, 0, none⟩) 1 1]⟩) w23 = .ok (.slice ax24 nx24 cx24) w25 ∧
  StP b6 o7 [.slice ax24 nx24 cx24] w25 fun w26 =>
  R (.tuple ⟨[]⟩) w26)
  (R (.tuple ⟨[]⟩) w)
def T40 : List Sh := [.v (.one (.int .i64)), .v (.one .ptr), .v (.one .ptr), .v (.one .ptr), .v (.one .any), .v (.one .sl), .v (.one (.int .i64)), .v (.one .ptr), .v (.one .bool), .v (.one .bool), .v (.one .sl), .v (.one (.int .i64)), .v (.one .sl), .v (.one (.int .i64)), .v (.one .ptr), .v (.one .ptr), .v (.one .sl), .v (.one (.int .i64)), .v (.one .sl), .v (.one .sl)]
def A40 : Ann := (.seq none .z (.cond (.seq none (.drt true [1, 0, 1, 0, 0, 2, 0, 3] (.op 0 (.op 1 (.op 2 (.op 3 (.op 4 (.op 5 (.op 6 (.op 7 .nil))))))))) .z) .z))
theorem F40_eq (v1 : Int) (b2 : Nat) (o3 : Nat) (b4 : Nat) (o5 : Nat) (b6 : Nat) (o7 : Nat) (w : World) (R : Value → World → Prop) : F40 v1 b2 o3 b4 o5 b6 o7 w R = denF Go.Proofs.Try.prog T40 Go.Proofs.Try.f40 A40 [.int .i64 v1, .pointer (some ⟨b2, o3, none⟩), .pointer (some ⟨b4, o5, none⟩), .pointer (some ⟨b6, o7, none⟩)] w R := by kernel_rfl
theorem F40_ok (v1 : Int) (b2 : Nat) (o3 : Nat) (b4 : Nat) (o5 : Nat) (b6 : Nat) (o7 : Nat) {w : World} {R : Value → World → Prop} (h : F40 v1 b2 o3 b4 o5 b6 o7 w R) : CallP Go.Proofs.Try.prog 40 [.int .i64 v1, .pointer (some ⟨b2, o3, none⟩), .pointer (some ⟨b4, o5, none⟩), .pointer (some ⟨b6, o7, none⟩)] w R :=
  calls_den (fun _ => drawn (by kernel_rfl)) Go.Proofs.Try.func40 (Nat.le_of_ble_eq_true (by kernel_rfl)) ((F40_eq v1 b2 o3 b4 o5 b6 o7 w R).mp h)
end Go.Pl.Try

/- 'come' within 'Cuts': walked. -/
namespace Go.Pl.Try
open M
set_option linter.unusedVariables false
/-- Where the boxes lie. -/
structure CsB where
  b2 : Nat
  b4 : Nat
  b6 : Nat
  bs : Nat
  br : Nat
def CsL (B : CsB) (m : Nat) (c : Cs) (a : Option Addr) (k cc : Nat) (r : Rw) : List (Nat × Obj) :=
  [(B.b2, Cl 75 [.slice (some ⟨B.bs, 0, none⟩) m m]), (B.b4, Cl 75 [.slice (some ⟨B.br, 0, none⟩) m m]), (B.b6, Cl 34 [.slice a k cc]), (B.bs, Cl 4 (c.seen.map .bool)), (B.br, Cl 4 (c.reach.map .bool))] ++ r.L 3 (ints c.todo)
theorem come_w {w0 w : World} {F : List (Nat × Obj)} {B : CsB} {m : Nat} {c : Cs} {a : Option Addr} {k cc : Nat} {r : Rw} (h : Hp w0 w (CsL B m c a k cc r ++ F)) (hs : Sls 1 a k cc (ints c.todo) r) (hsl : c.seen.length = m) (hrl : c.reach.length = m) (hk : k ≤ 4398046511104) {v : Int} (hv0 : 0 ≤ v) (hv : v < (m : Int)) :
    CallV Pg (.func (.func 40) ⟨[]⟩ ⟨[.pointer (some ⟨B.b2, 0, none⟩), .pointer (some ⟨B.b4, 0, none⟩), .pointer (some ⟨B.b6, 0, none⟩)]⟩) [.int .i64 v] w fun u w' => u = .tuple ⟨[]⟩ ∧ ∃ a' k' cc' r', Hp w0 w' (CsL B m (c.come v) a' k' cc' r' ++ F) ∧ Sls 1 a' k' cc' (ints (c.come v).todo) r' := by
  refine ⟨by kernel_rfl, F40_ok v B.b2 0 B.b4 0 B.b6 0 ?_⟩
  unfold F40
  have hkn := hs.n_eq
  rw [List.length_map] at hkn
  obtain ⟨x, hx⟩ := at_some (l := c.seen) (j := v.toNat) (by omega)
  have hxg : c.seen.getD v.toNat false = x := by rw [List.getD_eq_getElem?_getD, hx]; rfl
  refine ⟨_, _, _, h.cl 0 rfl rfl, hv0, hv, ptAt_of rfl ⟨x, h.cl 3 rfl (by simp [hx]), sp_of (fun hno => ?_) (fun hyes => ?_)⟩⟩
  rotate_left
  · have hx1 : x = true := by simpa using hyes
    have hcm : c.come v = c := by unfold Cs.come; rw [hxg, if_pos hx1]
    rw [hcm]
    exact ⟨rfl, a, k, cc, r, h, hs⟩
  have hx1 : x = false := by simpa using hno
  have hcm : c.come v = ⟨c.seen.set v.toNat true, c.reach.set v.toNat true, c.todo ++ [v]⟩ := by unfold Cs.come; rw [hxg, if_neg (by rw [hx1]; simp)]
  rw [hcm]
  have hd := h.drew
  obtain ⟨F2, hF2⟩ : ∃ F2 : List (Nat × Obj), F2 = [(B.b2, Cl 75 [.slice (some ⟨B.bs, 0, none⟩) m m]), (B.b4, Cl 75 [.slice (some ⟨B.br, 0, none⟩) m m])] := ⟨_, rfl⟩
  have hx2 : ¬ Xf w0 F2 B.b2 := Xf.mem (p := (B.b2, Cl 75 [.slice (some ⟨B.bs, 0, none⟩) m m])) (by simp [hF2])
  have hx4 : ¬ Xf w0 F2 B.b4 := Xf.mem (p := (B.b4, Cl 75 [.slice (some ⟨B.br, 0, none⟩) m m])) (by simp [hF2])
  refine ⟨Xf w0 F2, hx2, _, _, _, hd.cl 0 rfl rfl, hx4, _, _, _, hd.cl 1 rfl rfl, hv0, hv, ptAt_of rfl ?_⟩
  refine stp hd 3 rfl (by simp; omega) rfl fun w17 h17 => ?_
  rw [setB true (by omega)] at h17
  refine ⟨hd.xf h17 (fun p hp => ?_) (fun p hp => ?_), hv0, hv, ptAt_of rfl ?_⟩
  · subst hF2; simp [CsL] at hp ⊢; rcases hp with rfl | rfl <;> simp
  · subst hF2; simp [CsL] at hp ⊢; rcases hp with rfl | rfl <;> simp
  refine stp h17 4 rfl (by simp; omega) rfl fun w20 h20 => ?_
  rw [setB true (by omega)] at h20
  refine ⟨_, _, _, h20.cl 2 rfl rfl, ?_⟩
  obtain ⟨Q, hQ⟩ : ∃ Q : List (Nat × Obj), Q = [(B.b2, Cl 75 [.slice (some ⟨B.bs, 0, none⟩) m m]), (B.b4, Cl 75 [.slice (some ⟨B.br, 0, none⟩) m m]), (B.b6, Cl 34 [.slice a k cc]), (B.bs, Cl 4 ((c.seen.set v.toNat true).map .bool)), (B.br, Cl 4 ((c.reach.set v.toNat true).map .bool))] := ⟨_, rfl⟩
  have h20 : Hp w0 w20 (Q ++ (r.L 3 (ints c.todo) ++ F)) := by subst hQ; simpa [CsL] using h20
  refine alp h20 fun b22 w23 h23 => ?_
  obtain ⟨a', c', w25, r', hrun, hs', h25⟩ := app1 (ty := 34) slInts (by omega) hs ((b22, Cl 3 [.int .i64 v]) :: Q) (L := F) h23 0 rfl rfl rfl (by simp only [maxLen]; omega) (by omega)
  have he1 : ints c.todo ++ [.int .i64 v] = ints (c.todo ++ [v]) := by simp
  rw [he1] at hs' h25
  refine ⟨_, _, _, w25, hrun, ?_⟩
  have h25 := h25.drop 1
  subst hQ
  refine stp h25 2 rfl (by simp) rfl fun w26 h26 => ⟨rfl, a', k + 1, c', r', ?_, hs'⟩
  unfold CsL; rw [List.append_assoc]; exact h26
end Go.Pl.Try

/- What '(palings/cut.Net).Cuts' does, read off its translation by gen.py. -/
namespace Go.Pl.Try
set_option linter.unusedVariables false
set_option maxRecDepth 100000
def F20 (ax1 : Option Addr) (nx1 cx1 : Nat) (ax2 : Option Addr) (nx2 cx2 : Nat) (ax3 : Option Addr) (nx3 cx3 : Nat) (ax4 : Option Addr) (nx4 cx4 : Nat) (ax5 : Option Addr) (nx5 cx5 : Nat) (w : World) (R : Value → World → Prop) : Prop :=
  AlP 62 [.slice ax1 nx1 cx1, .slice ax2 nx2 cx2, .slice ax3 nx3 cx3, .slice ax4 nx4 cx4] w fun b6 w7 =>
  ∃ (ax8 : Option Addr) (nx8 cx8 : Nat) (ax9 : Option Addr) (nx9 cx9 : Nat) (ax10 : Option Addr) (nx10 cx10 : Nat) (ax11 : Option Addr) (nx11 cx11 : Nat), Row w7 b6 0 [.slice ax8 nx8 cx8, .slice ax9 nx9 cx9, .slice ax10 nx10 cx10, .slice ax11 nx11 cx11] ∧
  CallP Pg 39 [.agg ⟨[.slice ax8 nx8 cx8, .slice ax9 nx9 cx9, .slice ax10 nx10 cx10, .slice ax11 nx11 cx11]⟩] w7 fun v12 w13 => ∃ (x14 : Bool), v12 = .bool x14 ∧
  sp (!x14)
  (R (.bool false) w13)
  (∃ (ax15 : Option Addr) (nx15 cx15 : Nat), cel w13 b6 0 = some (.slice ax15 nx15 cx15) ∧
  ∃ (ax16 : Option Addr) (nx16 cx16 : Nat), ∃ w17 : World, Sem.run Pg (Instr.makeSlice 112 (.int .i64 (nx15 : Nat)) (.int .i64 (nx15 : Nat))) w13 = .ok (.slice ax16 nx16 cx16) w17 ∧
  ∃ (ax18 : Option Addr) (nx18 cx18 : Nat), cel w17 b6 1 = some (.slice ax18 nx18 cx18) ∧
  ∃ J19 : Int → World → Nat → Prop, (∃ m22, J19 0 w17 m22) ∧
  ∀ (x20 : Int), ∀ w21 m22, J19 x20 w21 m22 →
  sp (decide ((x20 : Int) < (nx18 : Nat)))
  (0 ≤ (x20 : Int) ∧ (x20 : Int) < (nx18 : Nat) ∧
  ptAt ax18 fun b24 o25 =>
  ∃ (x26 : Int) (x27 : Int), Row w21 b24 (o25 + x20.toNat * 2) [.int .i64 x26, .int .i64 x27] ∧
  AlP 84 [.int .i64 0, .int .i64 0] w21 fun b28 w29 =>
  StP b28 0 [.int .i64 x26, .int .i64 x27] w29 fun w30 =>
  ∃ X31 : Nat → Prop,
  0 ≤ (0 : Int) ∧ (0 : Int) < (2 : Nat) ∧
  ¬ X31 b28 ∧
  ∃ (x32 : Int), cel w30.drew b28 0 = some (.int .i64 x32) ∧
  0 ≤ (0 : Int) ∧ (0 : Int) < (2 : Nat) ∧
  ¬ X31 b28 ∧
  ∃ (x33 : Int), cel w30.drew b28 0 = some (.int .i64 x33) ∧
  0 ≤ (x33 : Int) ∧ (x33 : Int) < (nx16 : Nat) ∧
  ptAt ax16 fun b34 o35 =>
  ¬ X31 b34 ∧
  ∃ (ax36 : Option Addr) (nx36 cx36 : Nat), cel w30.drew b34 (o35 + x33.toNat * 1) = some (.slice ax36 nx36 cx36) ∧
  0 ≤ (1 : Int) ∧ (1 : Int) < (2 : Nat) ∧
  ¬ X31 b28 ∧
  ∃ (x37 : Int), cel w30.drew b28 1 = some (.int .i64 x37) ∧
  AlP 3 [.int .i64 x37] w30.drew fun b38 w39 =>
  ExtX X31 w30.drew w39 ∧
  ∃ (ax40 : Option Addr) (nx40 cx40 : Nat), ∃ w41 : World, Sem.run Pg (Builtin.append_ #[34, 34] 34 ⟨[.slice ax36 nx36 cx36, .slice (some ⟨b38, 0, none⟩) 1 1]⟩) w39 = .ok (.slice ax40 nx40 cx40) w41 ∧
  ExtX X31 w30.drew w41 ∧
  0 ≤ (x32 : Int) ∧ (x32 : Int) < (nx16 : Nat) ∧
  ptAt ax16 fun b42 o43 =>
  StP b42 (o43 + x32.toNat * 1) [.slice ax40 nx40 cx40] w41 fun w44 =>
  ∃ m23, m23 < m22 ∧ J19 (IntKind.wrap .i64 (x20 + 1)) w44 m23)
  (∃ (ax45 : Option Addr) (nx45 cx45 : Nat), cel w21 b6 0 = some (.slice ax45 nx45 cx45) ∧
  ∃ (ax46 : Option Addr) (nx46 cx46 : Nat), ∃ w47 : World, Sem.run Pg (Instr.makeSlice 75 (.int .i64 (nx45 : Nat)) (.int .i64 (nx45 : Nat))) w21 = .ok (.slice ax46 nx46 cx46) w47 ∧
  AlP 75 [.slice none 0 0] w47 fun b48 w49 =>
  StP b48 0 [.slice ax46 nx46 cx46] w49 fun w50 =>
  ∃ J51 : Int → World → Nat → Prop, (∃ m54, J51 0 w50 m54) ∧
  ∀ (x52 : Int), ∀ w53 m54, J51 x52 w53 m54 →
  sp (decide ((x52 : Int) < (nx5 : Nat)))
  (∀ K56 : World → Prop, (∀ w57, (
  ∃ m55, m55 < m54 ∧ J51 (IntKind.wrap .i64 (x52 + 1)) w57 m55) → K56 w57) →
  0 ≤ (x52 : Int) ∧ (x52 : Int) < (nx5 : Nat) ∧
  ptAt ax5 fun b58 o59 =>
  ∃ (x60 : Int), cel w53 b58 (o59 + x52.toNat * 1) = some (.int .i64 x60) ∧
  sp (decide ((0 : Int) ≤ x60))
  (∃ (ax61 : Option Addr) (nx61 cx61 : Nat), cel w53 b48 0 = some (.slice ax61 nx61 cx61) ∧
  sp (decide ((x60 : Int) < (nx61 : Nat)))
  (∃ (ax62 : Option Addr) (nx62 cx62 : Nat), cel w53 b48 0 = some (.slice ax62 nx62 cx62) ∧
  0 ≤ (x60 : Int) ∧ (x60 : Int) < (nx62 : Nat) ∧
  ptAt ax62 fun b63 o64 =>
  StP b63 (o64 + x60.toNat * 1) [.bool true] w53 fun w65 =>
  K56 w65)
  (K56 w53))
  (K56 w53))
  (AlP 34 [.slice none 0 0] w53 fun b66 w67 =>
  ∃ (ax68 : Option Addr) (nx68 cx68 : Nat), cel w67 b6 0 = some (.slice ax68 nx68 cx68) ∧
  ∃ (ax69 : Option Addr) (nx69 cx69 : Nat), ∃ w70 : World, Sem.run Pg (Instr.makeSlice 75 (.int .i64 (nx68 : Nat)) (.int .i64 (nx68 : Nat))) w67 = .ok (.slice ax69 nx69 cx69) w70 ∧
  AlP 75 [.slice none 0 0] w70 fun b71 w72 =>
  StP b71 0 [.slice ax69 nx69 cx69] w72 fun w73 =>
  ∃ (ax74 : Option Addr) (nx74 cx74 : Nat), cel w73 b6 2 = some (.slice ax74 nx74 cx74) ∧
  ∃ J75 : Int → World → Nat → Prop, (∃ m78, J75 0 w73 m78) ∧
  ∀ (x76 : Int), ∀ w77 m78, J75 x76 w77 m78 →
  sp (decide ((x76 : Int) < (nx74 : Nat)))
  (0 ≤ (x76 : Int) ∧ (x76 : Int) < (nx74 : Nat) ∧
  ptAt ax74 fun b80 o81 =>
  ∃ (x82 : Int), cel w77 b80 (o81 + x76.toNat * 1) = some (.int .i64 x82) ∧
  CallV Pg (.func (.func 40) ⟨[]⟩ ⟨[.pointer (some ⟨b48, 0, none⟩), .pointer (some ⟨b71, 0, none⟩), .pointer (some ⟨b66, 0, none⟩)]⟩) [.int .i64 x82] w77 fun v83 w84 => v83 = .tuple ⟨[]⟩ ∧
  ∃ m79, m79 < m78 ∧ J75 (IntKind.wrap .i64 (x76 + 1)) w84 m79)
  (∃ J85 : World → Nat → Prop, (∃ m87, J85 w77 m87) ∧
  ∀ w86 m87, J85 w86 m87 →
  ∃ (ax89 : Option Addr) (nx89 cx89 : Nat), cel w86 b66 0 = some (.slice ax89 nx89 cx89) ∧
  sp (decide ((0 : Int) < (nx89 : Nat)))
  (∃ (ax90 : Option Addr) (nx90 cx90 : Nat), cel w86 b66 0 = some (.slice ax90 nx90 cx90) ∧
  0 ≤ (0 : Int) ∧ (0 : Int) < (nx90 : Nat) ∧
  ptAt ax90 fun b91 o92 =>
  ∃ (x93 : Int), cel w86 b91 o92 = some (.int .i64 x93) ∧
  ∃ (ax94 : Option Addr) (nx94 cx94 : Nat), cel w86 b66 0 = some (.slice ax94 nx94 cx94) ∧
  ∃ (ax95 : Option Addr) (nx95 cx95 : Nat), Sem.run Pg (Instr.sliceAt 34 (.slice ax94 nx94 cx94) (some (.int .i64 1)) none none) w86 = .ok (.slice ax95 nx95 cx95) w86 ∧
  StP b66 0 [.slice ax95 nx95 cx95] w86 fun w96 =>
  0 ≤ (x93 : Int) ∧ (x93 : Int) < (nx16 : Nat) ∧
  ptAt ax16 fun b97 o98 =>
  ∃ (ax99 : Option Addr) (nx99 cx99 : Nat), cel w96 b97 (o98 + x93.toNat * 1) = some (.slice ax99 nx99 cx99) ∧
  ∃ J100 : Int → World → Nat → Prop, (∃ m103, J100 0 w96 m103) ∧
  ∀ (x101 : Int), ∀ w102 m103, J100 x101 w102 m103 →
  sp (decide ((x101 : Int) < (nx99 : Nat)))
  (0 ≤ (x101 : Int) ∧ (x101 : Int) < (nx99 : Nat) ∧
  ptAt ax99 fun b105 o106 =>
  ∃ (x107 : Int), cel w102 b105 (o106 + x101.toNat * 1) = some (.int .i64 x107) ∧
  CallV Pg (.func (.func 40) ⟨[]⟩ ⟨[.pointer (some ⟨b48, 0, none⟩), .pointer (some ⟨b71, 0, none⟩), .pointer (some ⟨b66, 0, none⟩)]⟩) [.int .i64 x107] w102 fun v108 w109 => v108 = .tuple ⟨[]⟩ ∧
  ∃ m104, m104 < m103 ∧ J100 (IntKind.wrap .i64 (x101 + 1)) w109 m104)
  (∃ m88, m88 < m87 ∧ J85 w102 m88))
  (∃ (ax110 : Option Addr) (nx110 cx110 : Nat), cel w86 b6 3 = some (.slice ax110 nx110 cx110) ∧
  CallP Pg 41 [.slice ax110 nx110 cx110, .func (.func 42) ⟨[]⟩ ⟨[.pointer (some ⟨b71, 0, none⟩)]⟩] w86 fun v111 w112 => ∃ (x113 : Bool), v111 = .bool x113 ∧
  R (.bool (!x113)) w112)))))
def T20 : List Sh := [.v (.agg [.sl, .sl, .sl, .sl]), .v (.one .sl), .v (.one .ptr), .v (.one .any), .v (.one .bool), .v (.one .sl), .v (.one .any), .v (.one .ptr), .v (.one .ptr), .v (.one .any), .v (.one (.int .i64)), .v (.one .ptr), .v (.one .ptr), .v (.one .any), .v (.one .any), .v (.one (.int .i64)), .v (.one (.int .i64)), .v (.one .any), .v (.one (.int .i64)), .v (.agg [.sl, .sl, .sl, .sl]), .v (.one .bool), .v (.one .bool), .v (.one .ptr), .v (.one .sl), .v (.one (.int .i64)), .v (.one .sl), .v (.one .ptr), .v (.one .sl), .v (.one (.int .i64)), .v (.one (.int .i64)), .v (.one .bool), .v (.one .ptr), .v (.agg [(.int .i64), (.int .i64)]), .v (.one .sl), .v (.one .ptr), .v (.one (.int .i64)), .v (.one .sl), .v (.one .ptr), .v (.one (.int .i64)), .v (.one .ptr), .v (.one .sl), .v (.one .ptr), .v (.one (.int .i64)), .v (.one .sl), .v (.one .sl), .v (.one .ptr), .v (.one (.int .i64)), .v (.one .ptr), .v (.one .sl), .v (.one (.int .i64)), .v (.one .sl), .v (.one .sl), .v (.one (.int .i64)), .v (.one (.int .i64)), .v (.one .bool), .v (.one .ptr), .v (.one (.int .i64)), .v (.one (.int .i64)), .v (.one .bool), .v (.one .bool), .v (.one (.int .i64)), .v (.one .sl), .v (.one (.int .i64)), .v (.one .bool), .v (.one .bool), .v (.one .sl), .v (.one (.int .i64)), .v (.one .ptr), .v (.one (.int .i64)), .v (.one .ptr), .v (.one .sl), .v (.one (.int .i64)), .v (.one .sl), .v (.one .any), .v (.one .ptr), .v (.one .sl), .v (.one (.int .i64)), .v (.one (.int .i64)), .v (.one .bool), .v (.one .ptr), .v (.one (.int .i64)), .v (.one .any), .v (.one (.int .i64)), .t [], .v (.one (.int .i64)), .v (.one .sl), .v (.one (.int .i64)), .v (.one .bool), .v (.one .sl), .v (.one .ptr), .v (.one (.int .i64)), .v (.one .sl), .v (.one .sl), .v (.one .sl), .v (.one (.int .i64)), .v (.one .ptr), .v (.one .sl), .v (.one (.int .i64)), .v (.one (.int .i64)), .v (.one .bool), .v (.one .ptr), .v (.one (.int .i64)), .v (.one .any), .v (.one (.int .i64)), .t [], .v (.one (.int .i64)), .v (.one .ptr), .v (.one .sl), .v (.one .any), .v (.one .bool), .v (.one .bool)]
def A20 : Ann := (.seq none .z (.seq none (.seq none .z (.cond (.seq none .z .z) .z)) (.seq none .z (.seq none (.seq none .z (.block none (.loop [29] (.seq none .z (.seq none (.cond .z .z) (.seq none (.block none (.seq none .z (.drt true [0, 0, 1, 0, 0, 1, 0, 1, 0, 1, 2, 2, 0, 3] (.op 0 (.op 1 (.op 2 (.op 3 (.op 4 (.op 5 (.op 6 (.op 7 (.op 8 (.op 9 (.op 10 (.op 11 (.op 12 (.op 13 .nil))))))))))))))))) .z)))))) (.seq none .z (.seq none (.seq none .z (.block none (.loop [53] (.seq none .z (.seq none (.cond .z .z) (.seq none (.block (some []) (.seq none .z (.ifs none none .z .z))) .z)))))) (.seq none .z (.seq none .z (.seq none .z (.seq none (.seq none .z (.block none (.loop [77] (.seq none .z (.seq none (.cond .z .z) (.seq none (.block none (.seq none .z .z)) .z)))))) (.seq none (.block none (.loop [] (.seq none (.seq none .z (.cond .z .z)) (.block none (.seq none .z (.seq none .z (.seq none .z (.block none (.loop [98] (.seq none .z (.seq none (.cond .z .z) (.seq none (.block none (.seq none .z .z)) .z)))))))))))) (.seq none .z .z))))))))))))
theorem F20_eq (ax1 : Option Addr) (nx1 cx1 : Nat) (ax2 : Option Addr) (nx2 cx2 : Nat) (ax3 : Option Addr) (nx3 cx3 : Nat) (ax4 : Option Addr) (nx4 cx4 : Nat) (ax5 : Option Addr) (nx5 cx5 : Nat) (w : World) (R : Value → World → Prop) : F20 ax1 nx1 cx1 ax2 nx2 cx2 ax3 nx3 cx3 ax4 nx4 cx4 ax5 nx5 cx5 w R = denF Go.Proofs.Try.prog T20 Go.Proofs.Try.f20 A20 [.agg ⟨[.slice ax1 nx1 cx1, .slice ax2 nx2 cx2, .slice ax3 nx3 cx3, .slice ax4 nx4 cx4]⟩, .slice ax5 nx5 cx5] w R := by kernel_rfl
theorem F20_ok (ax1 : Option Addr) (nx1 cx1 : Nat) (ax2 : Option Addr) (nx2 cx2 : Nat) (ax3 : Option Addr) (nx3 cx3 : Nat) (ax4 : Option Addr) (nx4 cx4 : Nat) (ax5 : Option Addr) (nx5 cx5 : Nat) {w : World} {R : Value → World → Prop} (h : F20 ax1 nx1 cx1 ax2 nx2 cx2 ax3 nx3 cx3 ax4 nx4 cx4 ax5 nx5 cx5 w R) : CallP Go.Proofs.Try.prog 20 [.agg ⟨[.slice ax1 nx1 cx1, .slice ax2 nx2 cx2, .slice ax3 nx3 cx3, .slice ax4 nx4 cx4]⟩, .slice ax5 nx5 cx5] w R :=
  calls_den (fun _ => drawn (by kernel_rfl)) Go.Proofs.Try.func20 (Nat.le_of_ble_eq_true (by kernel_rfl)) ((F20_eq ax1 nx1 cx1 ax2 nx2 cx2 ax3 nx3 cx3 ax4 nx4 cx4 ax5 nx5 cx5 w R).mp h)
end Go.Pl.Try

/- What '(palings/cut.Net).Cuts$2' does, read off its translation by gen.py. -/
namespace Go.Pl.Try
set_option linter.unusedVariables false
set_option maxRecDepth 100000
def F42 (v1 : Int) (b2 : Nat) (o3 : Nat) (w : World) (R : Value → World → Prop) : Prop :=
  ∃ (ax4 : Option Addr) (nx4 cx4 : Nat), cel w b2 o3 = some (.slice ax4 nx4 cx4) ∧
  0 ≤ (v1 : Int) ∧ (v1 : Int) < (nx4 : Nat) ∧
  ptAt ax4 fun b5 o6 =>
  ∃ (x7 : Bool), cel w b5 (o6 + v1.toNat * 1) = some (.bool x7) ∧
  R (.bool x7) w
def T42 : List Sh := [.v (.one (.int .i64)), .v (.one .ptr), .v (.one .any), .v (.one .bool), .v (.one .sl), .v (.one (.int .i64)), .v (.one .ptr), .v (.one .bool)]
def A42 : Ann := (.seq none .z (.seq none .z .z))
theorem F42_eq (v1 : Int) (b2 : Nat) (o3 : Nat) (w : World) (R : Value → World → Prop) : F42 v1 b2 o3 w R = denF Go.Proofs.Try.prog T42 Go.Proofs.Try.f42 A42 [.int .i64 v1, .pointer (some ⟨b2, o3, none⟩)] w R := by kernel_rfl
theorem F42_ok (v1 : Int) (b2 : Nat) (o3 : Nat) {w : World} {R : Value → World → Prop} (h : F42 v1 b2 o3 w R) : CallP Go.Proofs.Try.prog 42 [.int .i64 v1, .pointer (some ⟨b2, o3, none⟩)] w R :=
  calls_den (fun _ => drawn (by kernel_rfl)) Go.Proofs.Try.func42 (Nat.le_of_ble_eq_true (by kernel_rfl)) ((F42_eq v1 b2 o3 w R).mp h)
end Go.Pl.Try

/- 'Cuts': walked. -/
namespace Go.Pl.Try
open M
set_option linter.unusedVariables false
/-- The rows of what comes of each place. -/
def OutR (ys : List (Int × Int)) (m : Nat) (ls : List (List Int)) : Prop := ls.length = m ∧ ∀ v : Nat, v < m → ls[v]? = some (outRow ys v)
theorem outR_nil (m : Nat) : OutR [] m (List.replicate m []) := ⟨by simp, fun v hv => by rw [List.getElem?_replicate, if_pos hv]; rfl⟩
theorem outR_snoc {ys : List (Int × Int)} {m : Nat} {ls : List (List Int)} (h : OutR ys m ls) {x : Int × Int} (hx : 0 ≤ x.1) : OutR (ys ++ [x]) m (ls.set x.1.toNat (outRow ys x.1 ++ [x.2])) := by
  refine ⟨by rw [List.length_set]; exact h.1, fun v hv => ?_⟩
  rw [List.getElem?_set]
  have e : outRow (ys ++ [x]) v = outRow ys v ++ (if x.1 = (v : Int) then [x.2] else []) := by
    unfold outRow
    rw [List.filter_append, List.map_append]
    by_cases hc : x.1 = (v : Int)
    · simp [hc]
    · simp [hc]
  by_cases hc : x.1.toNat = v
  · have h1 : x.1 = (v : Int) := by omega
    rw [if_pos hc, if_pos (by rw [h.1]; omega), e, if_pos h1, h1]
  · rw [if_neg hc, h.2 v hv, e, if_neg (by omega)]; simp
theorem outRow_len (ys : List (Int × Int)) (v : Int) : (outRow ys v).length ≤ ys.length := by
  unfold outRow
  rw [List.length_map]
  exact List.length_filter_le _ _
theorem perm5 {α : Type} (a b c d e : α) : [a, b, c, d, e].Perm [d, a, c, e, b] := by
  refine (List.perm_middle (l₁ := [a, b, c]) (l₂ := [e]) (a := d)).trans (List.Perm.cons _ (List.Perm.cons _ ?_))
  exact List.perm_append_comm (l₁ := [b]) (l₂ := [c, e])
/-- What is marked. -/
def Mk (n : Net) (l : List Int) (sn : List Bool) : Prop := sn.length = n.weights.length ∧ ∀ v, n.has v = true → (bt sn v = true ↔ v ∈ l)
theorem cuts_w {w : World} {n : Net} {vs : List Value} (h : RNet w vs n) (hfit : n.Fit) {al : Option Addr} {nl cl : Nat} {l : List Int} (hl : RdI w al nl l) :
    CallP Pg 20 [.agg ⟨vs⟩, .slice al nl cl] w fun u w' => ∃ q, u = .bool q ∧ Ext w w' ∧ (q = true → ∃ R, n.CutBy l R) ∧ (q = false → ∀ R, ¬ n.CutBy l R) := by
  have hN := h
  have hR := Net.inR hfit.right
  have hf1 := hfit.ways
  have hf2 := hfit.frm
  have hf3 := hfit.to
  have hm2000 := hR.n2000
  obtain ⟨aw, nw, cw, ay, ny, cy, af, nf, cf, at_, nt, ct, rfl, hw, hy, hf, ht⟩ := h
  have hwl := hw.len
  have hyl := hy.len
  have hyle := hy.le
  have hfl := hf.len
  have htl := ht.len
  refine F20_ok _ _ _ _ _ _ _ _ _ _ _ _ _ _ _ ?_
  unfold F20
  refine alp (Hp.refl w) fun b6 w7 h7 => ⟨_, _, _, _, _, _, _, _, _, _, _, _, h7.row 0 rfl, ?_⟩
  refine (nright_w (hN.ext h7.ext) (by omega)).mono ?_
  rintro _ w13 ⟨rfl, hx13⟩
  have h13 := h7.step hx13
  refine ⟨_, rfl, ?_⟩
  rw [hfit.right]
  refine sp_false rfl ⟨_, _, _, h13.cl 0 rfl rfl, ?_⟩
  obtain ⟨bo, w17, hmk, h17⟩ := make_run slIntss zIntss h13 nw (by omega) (by simp only [maxLen]; omega)
  refine ⟨_, _, _, w17, hmk, _, _, _, h17.cl 1 rfl rfl, ?_⟩
  obtain ⟨B6, hB6⟩ : ∃ B : Nat × Obj, B = (b6, Cl 62 [.slice aw nw cw, .slice ay ny cy, .slice af nf cf, .slice at_ nt ct]) := ⟨_, rfl⟩
  have h17 : Hp w w17 ([B6] ++ RO 34 3 bo (List.replicate nw RowV.emp) (List.replicate nw [])) := by
    rw [RO.new]
    subst hB6
    exact h17.perm (List.Perm.swap _ _ _)
  have c6 : ∀ {w1 : World} {L : List (Nat × Obj)}, Hp w w1 L → B6 ∈ L → cel w1 b6 0 = some (.slice aw nw cw) ∧ cel w1 b6 2 = some (.slice af nf cf) ∧ cel w1 b6 3 = some (.slice at_ nt ct) := by
    intro w1 L h1 hm
    subst hB6
    exact ⟨cel_of (h1.own _ hm).2 rfl, cel_of (h1.own _ hm).2 rfl, cel_of (h1.own _ hm).2 rfl⟩
  refine ⟨fun i w' c => ∃ (j : Nat) (ss : List RowV) (ls : List (List Int)), i = j ∧ j ≤ ny ∧ c = ny - j ∧ Hp w w' ([B6] ++ RO 34 3 bo ss ls) ∧ RowsOk ss ls ∧ OutR (n.ways.take j) nw ls,
    ⟨ny, 0, _, _, rfl, by omega, by omega, h17, RowsOk.new nw, outR_nil nw⟩, ?_⟩
  clear h17 hmk h13 h7
  rintro i w21 c ⟨j, ss, ls, rfl, hj, rfl, h21, hok, hout⟩
  refine sp_dec (fun hlt => ?_) (fun hge => ?_)
  · obtain ⟨x, hx⟩ := at_some (l := n.ways) (j := j) (by omega)
    have hxm := hR.y x (List.mem_of_getElem? hx)
    have hx1 := Net.has_lt hxm.1
    obtain ⟨bx, ox, vs, hax, hrx, hvx, hvs⟩ := (RdTwo.ext hy h21.ext).at_ _ _ hx
    have hvs : vs = [.int .i64 x.1, .int .i64 x.2] := hvs
    subst hvs
    refine ⟨by omega, by omega, ptAt_of hax ⟨_, _, hrx, ?_⟩⟩
    refine alp h21 fun b28 w29 h29 => ?_
    refine stp h29 0 rfl (by simp) rfl fun w30 h30 => ?_
    obtain ⟨B28, hB28⟩ : ∃ B : Nat × Obj, B = (b28, Cl 84 [.int .i64 x.1, .int .i64 x.2]) := ⟨_, rfl⟩
    have h30 : Hp w w30.drew ([B28, B6] ++ RO 34 3 bo ss ls) := by subst hB28; exact h30.drew
    have hc28 : cel w30.drew b28 0 = some (.int .i64 x.1) ∧ cel w30.drew b28 1 = some (.int .i64 x.2) := by subst hB28; exact ⟨h30.cl 0 rfl rfl, h30.cl 0 rfl rfl⟩
    have hrow := hout.2 x.1.toNat (by omega)
    have ex1 : ((x.1.toNat : Nat) : Int) = x.1 := by omega
    rw [ex1] at hrow
    obtain ⟨s, hs, hsok, hsn⟩ := hok.get hrow
    obtain ⟨FX, hFX⟩ : ∃ FX : List (Nat × Obj), FX = [(bo, Cl 34 (ss.map RowV.val)), B28] := ⟨_, rfl⟩
    have xo : ¬ Xf w FX bo := by subst hFX; exact Xf.at_ (i := 0) rfl
    have x28 : ¬ Xf w FX b28 := by subst hFX hB28; exact Xf.at_ (i := 1) rfl
    have hsub : ∀ p ∈ FX, p ∈ [B28, B6] ++ RO 34 3 bo ss ls := by
      intro p hp
      subst hFX
      simp only [RO, List.mem_cons, List.mem_append, List.not_mem_nil, or_false] at hp ⊢
      rcases hp with h | h <;> simp [h]
    refine ⟨Xf w FX, by omega, by omega, x28, _, hc28.1, by omega, by omega, x28, _, hc28.1, hx1.1, by omega, ptAt_of rfl ⟨xo, _, _, _, RO.cel h30 hs, by omega, by omega, x28, _, hc28.2, ?_⟩⟩
    refine alp h30 fun b38 w39 h39 => ⟨h30.xf h39 hsub (fun p hp => List.mem_cons_of_mem _ (hsub p hp)), ?_⟩
    have hol := outRow_len (n.ways.take j) x.1
    rw [List.length_take] at hol
    obtain ⟨s', w41, hrun, hok', h41, hst⟩ := RO.app (F := [(b38, Cl 3 [.int .i64 x.2]), B28, B6]) (ty := 34) slInts hok h39 hs hrow (k := 0) rfl (by simp only [maxLen]; omega) (by omega)
    refine ⟨_, _, _, w41, hrun, h30.xf h41 hsub (fun p hp => ?_), hx1.1, by omega, ptAt_of rfl (hst fun w44 h44 => ?_)⟩
    · subst hFX
      simp only [List.mem_cons, List.mem_append, List.not_mem_nil, or_false] at hp ⊢
      rcases hp with h | h <;> simp [h]
    · have hsn := outR_snoc (x := x) hout hx1.1
      refine ⟨ny - (j + 1), by omega, j + 1, _, _, wrap_succ (by omega), by omega, rfl, h44.drop 2, hok', ?_⟩
      rw [List.take_add_one, hx, Option.toList_some]
      exact hsn
  refine ⟨_, _, _, (c6 h21 (by simp)).1, ?_⟩
  rw [List.take_of_length_le (by omega)] at hout
  obtain ⟨RR, hRR⟩ : ∃ R : List (Nat × Obj), R = [B6] ++ RO 34 3 bo ss ls := ⟨_, rfl⟩
  rw [← hRR] at h21
  have c6' : ∀ {w1 : World} {L : List (Nat × Obj)}, Hp w w1 (L ++ RR) → cel w1 b6 0 = some (.slice aw nw cw) ∧ cel w1 b6 2 = some (.slice af nf cf) ∧ cel w1 b6 3 = some (.slice at_ nt ct) := fun h1 => c6 h1 (by subst hRR; simp)
  have hll := hl.len
  have hlle := hl.le
  obtain ⟨bs, w47, hmk, h47⟩ := make_run slBools zBool h21 nw (by omega) (by simp only [maxLen]; omega)
  refine ⟨_, _, _, w47, hmk, ?_⟩
  refine alp h47 fun b48 w49 h49 => ?_
  refine stp h49 0 rfl (by simp) rfl fun w50 h50 => ?_
  have h50 : Hp w w50 ([(b48, Cl 75 [.slice (some ⟨bs, 0, none⟩) nw nw]), (bs, Cl 4 ((List.replicate nw false).map .bool))] ++ RR) := by rw [List.map_replicate]; exact h50
  refine ⟨fun i w' c => ∃ (j : Nat) (sn : List Bool), i = j ∧ j ≤ nl ∧ c = nl - j ∧ Hp w w' ([(b48, Cl 75 [.slice (some ⟨bs, 0, none⟩) nw nw]), (bs, Cl 4 (sn.map .bool))] ++ RR) ∧ Mk n (l.take j) sn,
    ⟨nl, 0, _, rfl, by omega, by omega, h50, by simp [hwl], fun v hv => by
      have : bt (List.replicate nw false) v = false := by
        unfold bt; rw [List.getD_eq_getElem?_getD, List.getElem?_replicate]; split <;> rfl
      rw [this]; simp⟩, ?_⟩
  clear h50 h49 h47 hmk h21
  rintro i w53 c ⟨j2, sn, rfl, hj2, rfl, h53, hsn⟩
  refine sp_dec (fun hlt => ?_) (fun hge2 => ?_)
  · intro K56 hK56
    obtain ⟨x, hx⟩ := at_some (l := l) (j := j2) (by omega)
    obtain ⟨bx, ox, hax, hcx⟩ := RdI.at (hl.ext h53.ext) hx
    have hsl : sn.length = nw := by rw [hsn.1, hwl]
    have skip : ¬ (n.has x = true) → K56 w53 := fun hno => hK56 _ ⟨nl - (j2 + 1), by omega, j2 + 1, sn, wrap_succ (by omega), by omega, rfl, h53, hsn.1, fun v hv => by
      rw [hsn.2 v hv, List.take_add_one, hx]
      have : v ≠ x := fun e => hno (by rw [← e]; exact hv)
      simp [this]⟩
    refine ⟨by omega, by omega, ptAt_of hax ⟨x, hcx, sp_dec (fun h0 => ⟨_, _, _, h53.cl 0 rfl rfl, sp_dec (fun h1 => ⟨_, _, _, h53.cl 0 rfl rfl, h0, h1, ptAt_of rfl ?_⟩) (fun h1 => skip fun e => ?_)⟩) (fun h0 => skip fun e => ?_)⟩⟩
    · refine stp h53 1 rfl (by simp; omega) rfl fun w65 h65 => hK56 _ ⟨nl - (j2 + 1), by omega, j2 + 1, sn.set x.toNat true, wrap_succ (by omega), by omega, rfl, ?_, by rw [List.length_set]; exact hsn.1, fun v hv => ?_⟩
      · rw [setB true (by omega)] at h65; exact h65
      · rw [bt_set ⟨h0, by omega⟩ (Net.has_lt hv).1, List.take_add_one, hx]
        by_cases e : v = x
        · simp [e]
        · rw [if_neg e, hsn.2 v hv]; simp [e]
    · have := Net.has_lt e; omega
    · have := Net.has_lt e; omega
  rw [List.take_of_length_le (by omega)] at hsn
  refine alp h53 fun b66 w67 h67 => ⟨_, _, _, (c6' (L := [_, _, _]) h67).1, ?_⟩
  obtain ⟨br, w70, hmk, h70⟩ := make_run slBools zBool h67 nw (by omega) (by simp only [maxLen]; omega)
  refine ⟨_, _, _, w70, hmk, ?_⟩
  refine alp h70 fun b71 w72 h72 => ?_
  refine stp h72 0 rfl (by simp) rfl fun w73 h73 => ?_
  obtain ⟨B, hB⟩ : ∃ B : CsB, B = ⟨b48, b71, b66, bs, br⟩ := ⟨_, rfl⟩
  have h73 : Hp w w73 (CsL B nw ⟨sn, List.replicate nw false, []⟩ none 0 0 .emp ++ RR) := by
    subst hB
    unfold CsL
    simp only [Rw.L, List.append_nil, List.map_replicate]
    exact h73.perm (List.Perm.append_right RR (perm5 _ _ _ _ _))
  refine ⟨_, _, _, (c6' h73).2.1, ?_⟩
  have hsl : sn.length = nw := by rw [hsn.1, hwl]
  have hrep : ∀ v, bt (List.replicate nw false) v = false := by
    intro v; unfold bt; rw [List.getD_eq_getElem?_getD, List.getElem?_replicate]; split <;> rfl
  have hc0 : Cs.Inv n l ⟨sn, List.replicate nw false, []⟩ := ⟨hsn.1, by simp [hwl], fun v hv => (by cases hv), fun v hv => (by rw [hrep, hsn.2 v hv]; simp), fun v hv hr => (by rw [hrep] at hr; cases hr), fun R _ v hv hr => (by rw [hrep] at hr; cases hr)⟩
  have hleft : ∀ {c : Cs} {a : Option Addr} {k cc : Nat} {r : Rw}, Sls 1 a k cc (ints c.todo) r → c.left ≤ nw → k ≤ 4398046511104 := by
    intro c a k cc r hs hle
    have := hs.n_eq
    rw [List.length_map] at this
    unfold Cs.left at hle
    omega
  have hl0 : Cs.left ⟨sn, List.replicate nw false, []⟩ ≤ nw := by
    unfold Cs.left
    have : sn.count false ≤ sn.length := List.count_le_length
    simp only [List.length_nil]
    omega
  refine ⟨fun i w' q => ∃ (j : Nat) (c : Cs) (a : Option Addr) (k cc : Nat) (r : Rw), i = j ∧ j ≤ nf ∧ q = nf - j ∧ Hp w w' (CsL B nw c a k cc r ++ RR) ∧ Sls 1 a k cc (ints c.todo) r ∧ c.Inv n l ∧ (∀ v ∈ c.todo, bt c.reach v = true) ∧ (∀ v ∈ n.frm.take j, bt c.seen v = true) ∧ (∀ x, n.has x = true → bt c.reach x = true → x ∈ c.todo) ∧ c.left ≤ nw,
    ⟨nf, 0, _, none, 0, 0, .emp, rfl, by omega, by omega, h73, Sls.nil 1 none, hc0, fun v hv => (by cases hv), fun v hv => (by simp at hv), fun x _ hr => (by rw [hrep] at hr; cases hr), hl0⟩, ?_⟩
  clear h73 h72 h70 h67 h53 hmk hc0 hl0
  rintro i w77 q ⟨j3, c, a, k, cc, r, rfl, hj3, rfl, h77, hs, hI, htr, hfr, hdn, hlf⟩
  have hb48 : B.b2 = b48 ∧ B.b4 = b71 ∧ B.b6 = b66 := by rw [hB]; exact ⟨rfl, rfl, rfl⟩
  refine sp_dec (fun hlt => ?_) (fun hge3 => ?_)
  · obtain ⟨x, hx⟩ := at_some (l := n.frm) (j := j3) (by omega)
    have hxh := hR.f x (List.mem_of_getElem? hx)
    have hxl := Net.has_lt hxh
    obtain ⟨bx, ox, hax, hcx⟩ := RdI.at (hf.ext h77.ext) hx
    refine ⟨by omega, by omega, ptAt_of hax ⟨x, hcx, ?_⟩⟩
    have hcw := come_w h77 hs (by rw [hI.sl, hwl]) (by rw [hI.rl, hwl]) (hleft hs hlf) (v := x) hxl.1 (by omega)
    rw [hb48.1, hb48.2.1, hb48.2.2] at hcw
    refine CallV.mono hcw ?_
    rintro _ w84 ⟨rfl, a', k', cc', r', h84, hs'⟩
    have hRx : ∀ R, n.CutBy l R → R x = true := fun R hc => hc.frm x (List.mem_of_getElem? hx)
    obtain ⟨i1, i2, i3, i4, i5⟩ := come_inv hI hxh hRx
    refine ⟨rfl, nf - (j3 + 1), by omega, j3 + 1, c.come x, a', k', cc', r', wrap_succ (by have := hf.le; omega), by omega, rfl, h84, hs', i1, come_tr hI htr hxh, fun v hv => ?_, fun y hy hr => ?_, by rw [come_left hI hxh]; exact hlf⟩
    · rcases take_mem hx hv with h | rfl
      · exact i3 v (hR.f v (List.mem_of_mem_take h)) (hfr v h)
      · exact i2
    · rcases i5 y hy hr with h | h
      · exact i4 y (hdn y hy h)
      · exact h
  rw [List.take_of_length_le (by omega)] at hfr
  have hrun0 : c.Run n l := ⟨hI, htr, hfr, fun x hx hr => .inl (hdn x hx hr)⟩
  refine ⟨fun w' q => ∃ (c : Cs) (a : Option Addr) (k cc : Nat) (r : Rw), q = c.left ∧ Hp w w' (CsL B nw c a k cc r ++ RR) ∧ Sls 1 a k cc (ints c.todo) r ∧ c.Run n l ∧ c.left ≤ nw,
    ⟨_, c, a, k, cc, r, rfl, h77, hs, hrun0, hlf⟩, ?_⟩
  clear h77 hs hI htr hfr hdn hlf hrun0
  rintro w86 q ⟨c, a, k, cc, r, rfl, h86, hs, hrun, hlf⟩
  have hkn := hs.n_eq
  rw [List.length_map] at hkn
  have hcT : ∀ {w1 : World} {L : List (Nat × Obj)}, Hp w w1 (CsL B nw c a k cc r ++ L) → cel w1 b66 0 = some (.slice a k cc) := by
    intro w1 L h1
    have := h1.cl 2 (b := B.b6) (e := 34) (vs := [.slice a k cc]) rfl (o := 0) rfl
    rw [hb48.2.2] at this
    exact this
  refine ⟨_, _, _, hcT h86, sp_dec (fun hlt => ?_) (fun hge4 => ?_)⟩
  · obtain ⟨v, t, htd⟩ : ∃ v t, c.todo = v :: t := by
      cases htd : c.todo with
      | nil => rw [htd] at hkn; simp at hkn; omega
      | cons v t => exact ⟨v, t, rfl⟩
    have hvh := hrun.inv.td v (by rw [htd]; simp)
    have hvl := Net.has_lt hvh
    have hstep := run_step hR hrun htd
    obtain ⟨row, hrow⟩ : ∃ row, row = outRow n.ways v := ⟨_, rfl⟩
    rw [← hrow] at hstep
    have hrh : ∀ y ∈ row, n.has y = true := fun y hy => by rw [hrow] at hy; exact (hR.y _ (mem_outRow.1 hy)).2
    have hrR : ∀ R, n.CutBy l R → ∀ y ∈ row, R y = true := fun R hc y hy => by
      rw [hrow] at hy
      exact hc.ways (v, y) (mem_outRow.1 hy) (hrun.inv.snd R hc v hvh (hrun.tr v (by rw [htd]; simp))) (hrun.inv.apart v hvh (hrun.tr v (by rw [htd]; simp)))
    have hI0 : Cs.Inv n l ⟨c.seen, c.reach, t⟩ := ⟨hrun.inv.sl, hrun.inv.rl, fun x hx => hrun.inv.td x (by rw [htd]; exact List.mem_cons_of_mem _ hx), hrun.inv.see, hrun.inv.apart, hrun.inv.snd⟩
    have hl1 : Cs.left ⟨c.seen, c.reach, t⟩ + 1 = c.left := by
      unfold Cs.left
      rw [htd]
      simp only [List.length_cons]; omega
    have hlf2 := comes_left row _ hI0 hrh hrR
    obtain ⟨cf2, hcf2⟩ : ∃ x, x = comes row ⟨c.seen, c.reach, t⟩ := ⟨_, rfl⟩
    rw [← hcf2] at hstep hlf2
    rw [htd] at hs
    have h86' : Hp w w86 ([(B.b2, Cl 75 [.slice (some ⟨B.bs, 0, none⟩) nw nw]), (B.b4, Cl 75 [.slice (some ⟨B.br, 0, none⟩) nw nw]), (B.b6, Cl 34 [.slice a k cc]), (B.bs, Cl 4 (c.seen.map .bool)), (B.br, Cl 4 (c.reach.map .bool))] ++ (r.L 3 (ints (v :: t)) ++ RR)) := by
      have := h86
      unfold CsL at this
      rw [htd, List.append_assoc] at this
      exact this
    obtain ⟨bx, ox, hax, hcx⟩ := hs.cel_at _ h86' (j := 0) (v := .int .i64 v) rfl
    obtain ⟨a', c', r', hrn, hs', h87⟩ := cut_run (P := Pg) slInts hs _ h86' (k := 1) (by omega) hs.c_le
    have hdr : (ints (v :: t)).drop (1 * 1) = ints t := rfl
    rw [hdr] at hs' h87
    refine ⟨_, _, _, hcT h86, by omega, by omega, ptAt_of hax ⟨v, by simpa using hcx, _, _, _, hcT h86, _, _, _, hrn, ?_⟩⟩
    rw [← hb48.2.2]
    refine stp h87 2 rfl (by simp) rfl fun w96 h96 => ?_
    have h96 : Hp w w96 (CsL B nw ⟨c.seen, c.reach, t⟩ a' (k - 1) c' r' ++ RR) := by
      unfold CsL; rw [List.append_assoc]; exact h96
    have hrowg := hout.2 v.toNat (by omega)
    have ev : ((v.toNat : Nat) : Int) = v := by omega
    rw [ev, ← hrow] at hrowg
    obtain ⟨s, hss, hsok, hsn2⟩ := hok.get hrowg
    have hro : ∀ {w1 : World} {L : List (Nat × Obj)}, Hp w w1 (L ++ RR) → cel w1 bo (0 + v.toNat * 1) = some (.slice s.a s.n s.c) ∧ RdI w1 s.a s.n row := by
      intro w1 L h1
      rw [hRR, ← List.append_assoc] at h1
      exact ⟨RO.cel h1 hss, RO.row hok h1 hss hrowg⟩
    refine ⟨hvl.1, by omega, ptAt_of rfl ⟨_, _, _, (hro h96).1, ?_⟩⟩
    refine ⟨fun i w' q => ∃ (u : Nat) (c2 : Cs) (a : Option Addr) (k cc : Nat) (r : Rw), i = u ∧ u ≤ row.length ∧ q = row.length - u ∧ Hp w w' (CsL B nw c2 a k cc r ++ RR) ∧ Sls 1 a k cc (ints c2.todo) r ∧ c2.Inv n l ∧ comes (row.drop u) c2 = cf2 ∧ c2.left ≤ nw,
      ⟨_, 0, _, a', k - 1, c', r', rfl, by omega, rfl, h96, hs', hI0, hcf2.symm, by omega⟩, ?_⟩
    clear h96 h87 hs' h86' hcx hrn hcT h86 hs
    rintro i w102 q ⟨u, c2, a2, k2, cc2, r2, rfl, hu, rfl, h102, hs2, hI2, hgo, hlf3⟩
    refine sp_dec (fun hlt2 => ?_) (fun hge5 => ?_)
    · obtain ⟨x, hx⟩ := at_some (l := row) (j := u) (by omega)
      rw [drop_cons hx, comes] at hgo
      have hxh := hrh x (List.mem_of_getElem? hx)
      have hxl := Net.has_lt hxh
      obtain ⟨bx, ox, hax, hcx⟩ := RdI.at (hro h102).2 hx
      refine ⟨by omega, by omega, ptAt_of hax ⟨x, hcx, ?_⟩⟩
      have hcw := come_w h102 hs2 (by rw [hI2.sl, hwl]) (by rw [hI2.rl, hwl]) (hleft hs2 hlf3) (v := x) hxl.1 (by omega)
      rw [hb48.1, hb48.2.1] at hcw
      refine CallV.mono hcw ?_
      rintro _ w109 ⟨rfl, a3, k3, cc3, r3, h109, hs3⟩
      obtain ⟨i1, -⟩ := come_inv hI2 hxh fun R hc => hrR R hc x (List.mem_of_getElem? hx)
      have hrle := (hro h102).2.le
      exact ⟨rfl, row.length - (u + 1), by omega, u + 1, c2.come x, a3, k3, cc3, r3, wrap_succ (by omega), by omega, rfl, h109, hs3, i1, hgo, by rw [come_left hI2 hxh]; exact hlf3⟩
    · rw [List.drop_of_length_le (by omega), comes] at hgo
      subst hgo
      exact ⟨c2.left, by omega, c2, a2, k2, cc2, r2, rfl, h102, hs2, hstep, hlf3⟩
  · have htd : c.todo = [] := List.eq_nil_of_length_eq_zero (by omega)
    refine ⟨_, _, _, (c6' h86).2.2, ?_⟩
    have hcr : ∀ {w1 : World}, Ext w86 w1 → ∀ x, n.has x = true → cel w1 b71 0 = some (.slice (some ⟨B.br, 0, none⟩) nw nw) ∧ cel w1 B.br (0 + x.toNat * 1) = some (.bool (bt c.reach x)) := by
      intro w1 hx1 x hx
      have hxl := Net.has_lt hx
      have h1 := h86.cl 1 (b := B.b4) (e := 75) (vs := [.slice (some ⟨B.br, 0, none⟩) nw nw]) rfl (o := 0) rfl
      rw [hb48.2.1] at h1
      refine ⟨hx1.cel h1, hx1.cel (h86.cl 4 (b := B.br) (e := 4) (vs := c.reach.map .bool) rfl ?_)⟩
      have h2 : c.reach[x.toNat]? = some (bt c.reach x) := getD_some (by rw [hrun.inv.rl]; exact hxl.2)
      rw [show 0 + x.toNat * 1 = x.toNat by omega, List.getElem?_map, h2]; rfl
    refine (hasInt_w (fun v => bt c.reach v) (RdI.ext ht h86.ext) (fun x hx w1 hx1 => ?_)).mono ?_
    · have hxh := hR.t x hx
      have hxl := Net.has_lt hxh
      refine ⟨by kernel_rfl, F42_ok x b71 0 ?_⟩
      exact ⟨_, _, _, (hcr hx1 x hxh).1, hxl.1, by omega, ptAt_of rfl ⟨_, (hcr hx1 x hxh).2, rfl, Ext.refl _⟩⟩
    · rintro _ w112 ⟨rfl, hx112⟩
      refine ⟨_, rfl, _, rfl, h86.ext.trans hx112, fun e => ?_, fun e => ?_⟩
      · refine ⟨_, (run_end hR hrun htd).1 ?_⟩
        rintro ⟨v, hv, hr⟩
        have : n.to.any (fun v => bt c.reach v) = true := List.any_eq_true.2 ⟨v, hv, hr⟩
        rw [this] at e; cases e
      · refine (run_end hR hrun htd).2 ?_
        have : n.to.any (fun v => bt c.reach v) = true := by simpa using e
        exact List.any_eq_true.1 this
end Go.Pl.Try
