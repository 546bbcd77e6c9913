/- Joined texts of the proof, part 9: WSsa4, F64, F34, WFlow1, F38, F14, WFlow2, F62, F61, F80. -/
import Derived.Test.YtbacmadoenicnaaS08
set_option maxRecDepth 2000
set_option linter.unusedVariables false
set_option linter.unusedSimpArgs false
set_option linter.unusedSectionVars false
/- 'known', walked. -/
namespace Go.Pl.Try
open M
set_option linter.unusedVariables false
theorem slMaps : slT Pg 48 56 1 8 = true := by kernel_rfl
theorem zMap : (zeroOf Pg 56).map (·.cells) = some #[.map none] := by kernel_rfl
theorem reach_w' {w : World} {f : Fnc} {vs : List Value} (h : RFunc w vs f) (hl : f.Lim) :
    CallP Pg 16 [.agg ⟨vs⟩] w fun v w' => ∃ b, v = .slice (some ⟨b, 0, none⟩) f.blocks.length f.blocks.length ∧ Hp w w' [(b, Cl 4 (f.reach.map .bool))] := by
  obtain ⟨a, n, c, rfl, hb⟩ := h
  have hbl := hb.len
  have := hl.blocks
  simp only [lim] at this
  rw [hbl]
  exact reach_w f.name hb (by omega) f.reach (fun h0 => Fnc.reach_nil (by omega)) (fun h0 => by
    have := Fnc.reach_go (f := f) (by omega)
    rw [hbl] at this; exact this)
theorem zip_set {α β : Type} : ∀ (ids : List α) (os : List β) (i : Nat) (b : α) (o : β), ids[i]? = some b → (ids.zip os).set i (b, o) = ids.zip (os.set i o)
  | [], os, i, b, o, h => by simp at h
  | a :: ids, [], i, b, o, h => by simp
  | a :: ids, x :: os, 0, b, o, h => by
    simp at h; subst h; simp
  | a :: ids, x :: os, i + 1, b, o, h => by
    simp only [List.getElem?_cons_succ] at h
    simp [zip_set ids os i b o h]
theorem zip_get {α β : Type} : ∀ (ids : List α) (os : List β) (i : Nat) (b : α) (o : β), ids[i]? = some b → os[i]? = some o → (ids.zip os)[i]? = some (b, o)
  | [], os, i, b, o, h, _ => by simp at h
  | a :: ids, [], i, b, o, _, h => by simp at h
  | a :: ids, x :: os, 0, b, o, h, h2 => by simp at h h2; simp [h, h2]
  | a :: ids, x :: os, i + 1, b, o, h, h2 => by
    simp only [List.getElem?_cons_succ] at h h2
    simp [zip_get ids os i b o h h2]
structure KM (ids : List Nat) (os : List Obj) (st : Kn) (n : Nat) : Prop where
  il : ids.length = st.sets.length
  ol : os.length = st.sets.length
  nl : st.ins.length = n
  map : ∀ (i : Nat) (s : List Int) (o : Obj), st.sets[i]? = some s → os[i]? = some o → MapO (setF s) o
  lt : ∀ (j i : Nat), st.ins[j]? = some (some i) → i < st.sets.length
def kvals (ids : List Nat) (st : Kn) : List Value := st.ins.map fun r => Value.map (r.bind fun i => ids[i]?)
theorem KM.addS {ids : List Nat} {os : List Obj} {st : Kn} {n : Nat} (h : KM ids os st n) (r : Nat) (o : Obj) (s : List Int) (ho : MapO (setF s) o) : KM (ids ++ [r]) (os ++ [o]) { st with sets := st.sets ++ [s] } n := by
  refine ⟨by simp [h.il], by simp [h.ol], h.nl, fun i s' o' h1 h2 => ?_, fun j i h1 => by have := h.lt j i h1; simp; omega⟩
  simp only at h1
  by_cases hi : i < st.sets.length
  · rw [List.getElem?_append_left hi] at h1
    rw [List.getElem?_append_left (by rw [h.ol]; exact hi)] at h2
    exact h.map i s' o' h1 h2
  · have hi' : i = st.sets.length := by
      have := (List.getElem?_eq_some_iff.1 h1).1
      simp at this; omega
    subst hi'
    rw [List.getElem?_append_right (Nat.le_refl _)] at h1
    rw [List.getElem?_append_right (by rw [h.ol]; exact Nat.le_refl _)] at h2
    rw [h.ol] at h2
    simp at h1 h2
    subst h1 h2
    exact ho
theorem KM.setI {ids : List Nat} {os : List Obj} {st : Kn} {n : Nat} (h : KM ids os st n) (j i : Nat) (hi : i < st.sets.length) : KM ids os { st with ins := st.ins.set j (some i) } n := by
  refine ⟨h.il, h.ol, by simp [h.nl], h.map, fun j' i' h1 => ?_⟩
  simp only [List.getElem?_set] at h1
  split at h1
  · split at h1
    · cases h1; exact hi
    · cases h1
  · exact h.lt j' i' h1
theorem kvals_app {ids : List Nat} {st : Kn} {n : Nat} {os : List Obj} (h : KM ids os st n) (r : Nat) (ss : List (List Int)) : kvals (ids ++ [r]) { st with sets := ss } = kvals ids st := by
  unfold kvals
  apply List.map_congr_left
  intro x hx
  cases x with
  | none => rfl
  | some i =>
    obtain ⟨j, hj⟩ := List.mem_iff_getElem?.1 hx
    have := h.lt j i hj
    simp only [Option.bind_some]
    rw [List.getElem?_append_left (by rw [h.il]; exact this)]
theorem kvals_set {ids : List Nat} {st : Kn} {j i r : Nat} (hr : ids[i]? = some r) : kvals ids { st with ins := st.ins.set j (some i) } = (kvals ids st).set j (.map (some r)) := by
  unfold kvals
  rw [List.map_set]
  simp [hr]
theorem kvals_get {ids : List Nat} {st : Kn} {j : Nat} {x : Option Nat} (h : st.ins[j]? = some x) : (kvals ids st)[j]? = some (.map (x.bind fun i => ids[i]?)) := by
  unfold kvals
  rw [List.getElem?_map, h]; rfl
/-- What 'known' hands back. -/
def RdKn (w : World) (b : Nat) (st : Kn) : Prop := ∀ (j : Nat) (r : Option Nat), st.ins[j]? = some r → ∃ p, cel w b j = some (.map p) ∧ p.isNone = r.isNone ∧ ∀ (i : Nat) (s : List Int), r = some i → st.sets[i]? = some s → RMap w p (setF s)
theorem known_w {w : World} {f : Fnc} {vs : List Value} (h : RFunc w vs f) (hl : f.Lim) (hways : ∀ b ∈ f.blocks, b.fin.ways.all (wayOk f.blocks) = true) {fin : Kn} (hgo : ∃ k, knGo f.reach f.blocks k ⟨List.replicate f.blocks.length none, []⟩ = some fin) :
    CallP Pg 31 [.agg ⟨vs⟩] w fun v w' => ∃ b, v = .slice (some ⟨b, 0, none⟩) f.blocks.length f.blocks.length ∧ Ext w w' ∧ RdKn w' b fin ∧ fin.ins.length = f.blocks.length ∧ ∀ (j i : Nat), fin.ins[j]? = some (some i) → i < fin.sets.length := by
  have hf := h
  obtain ⟨a, n, c, rfl, hb⟩ := h
  have hbl := hb.len
  have hble := hb.le
  have hlim := hl.blocks
  simp only [lim] at hlim
  obtain ⟨fuel, hgo⟩ := hgo
  refine F31_ok _ _ _ _ ?_
  unfold F31
  refine alp (Hp.refl w) fun b3 w4 h4 => ⟨_, _, _, h4.cl 0 rfl rfl, ?_⟩
  obtain ⟨bin, w7, hm, h7⟩ := make_run slMaps zMap h4 n (by omega) (by simp only [maxLen]; omega)
  refine ⟨_, _, _, w7, hm, _, _, _, _, h7.row 1 rfl, ?_⟩
  refine (reach_w' (hf.ext' h7.ext) hl).mono ?_
  rintro v w11 ⟨br, rfl, h11'⟩
  have h11 := h7.call h11'
  simp only [List.singleton_append] at h11
  rw [hbl] at hgo ⊢
  refine ⟨_, _, _, rfl, ?_⟩
  generalize hfix : (fun (vals : List Value) => [(br, Cl 4 (f.reach.map Value.bool)), (bin, Cl 56 vals), (b3, Cl 29 [.string f.name, .slice a n c])]) = fix at *
  refine ⟨fun turned w' m => ∃ st ids os, Hp w w' (fix (kvals ids st) ++ ids.zip os) ∧ KM ids os st n ∧ (if turned then knGo f.reach f.blocks m st = some fin else fin = st),
    ⟨fuel, ⟨List.replicate n none, []⟩, [], [], ?_, ⟨rfl, rfl, by simp, by simp, fun j i h => by simp [List.getElem?_replicate] at h⟩, hgo⟩, ?_⟩
  · have e1 : kvals [] ⟨List.replicate n none, []⟩ = List.replicate n (.map none) := by simp [kvals]
    rw [e1, ← hfix]
    exact h11
  rintro turned w15 m ⟨st, ids, os, h15, hkm, hgo'⟩
  cases turned with
  | false =>
    simp only [Bool.false_eq_true, if_false] at hgo'
    subst hgo'
    refine sp_false rfl ⟨bin, rfl, h15.ext, ?_, hkm.nl, hkm.lt⟩
    intro j r hj
    refine ⟨r.bind fun i => ids[i]?, ?_, ?_, ?_⟩
    · subst hfix
      exact h15.cl 1 rfl (kvals_get hj)
    · cases r with
      | none => rfl
      | some i =>
        have := hkm.lt j i hj
        rw [← hkm.il] at this
        simp [List.getElem?_eq_getElem this]
    · rintro i s rfl hs
      have hi := hkm.lt j i hj
      obtain ⟨o, ho⟩ : ∃ o, os[i]? = some o := ⟨_, List.getElem?_eq_getElem (by rw [hkm.ol]; exact hi)⟩
      obtain ⟨b, hbk⟩ : ∃ b, ids[i]? = some b := ⟨_, List.getElem?_eq_getElem (by rw [hkm.il]; exact hi)⟩
      simp only [Option.bind_some, hbk]
      subst hfix
      exact h15.rmap (3 + i) (by rw [List.getElem?_append_right (by simp)]; simpa using zip_get ids os i b o hbk ho) (hkm.map i s o hs ho)
  | true =>
    simp only [if_true] at hgo'
    refine sp_true rfl ?_
    obtain ⟨m, rfl⟩ : ∃ k, m = k + 1 := by
      cases m with
      | zero => simp [knGo] at hgo'
      | succ k => exact ⟨k, rfl⟩
    simp only [knGo] at hgo'
    obtain ⟨target, htar⟩ : ∃ t, t = knPass f.reach 0 f.blocks st false := ⟨_, rfl⟩
    rw [← htar] at hgo'
    refine ⟨_, _, _, by subst hfix; exact h15.cl 2 rfl rfl, ?_⟩
    refine ⟨fun t i w' c => ∃ (j : Nat) (st : Kn) (ids : List Nat) (os : List Obj), i = j ∧ j ≤ n ∧ c = n - j ∧ Hp w w' (fix (kvals ids st) ++ ids.zip os) ∧ KM ids os st n ∧ target = knPass f.reach j (f.blocks.drop j) st t,
      ⟨n, 0, st, ids, os, rfl, by omega, by omega, h15, hkm, htar⟩, ?_⟩
    clear h15 hkm htar
    rintro t i w22 c' ⟨j, st, ids, os, rfl, hj, rfl, h22, hkm, htar⟩
    refine sp_dec (fun hlt => ?_) (fun hge => ?_)
    · intro K25 hK25
      have hx : f.blocks[j]? = some f.blocks[j] := List.getElem?_eq_getElem (by omega)
      have hdrop : f.blocks.drop j = f.blocks[j] :: f.blocks.drop (j + 1) := List.drop_eq_getElem_cons (by omega)
      generalize f.blocks[j] = b at hx hdrop
      rw [hdrop, knPass] at htar
      have hwb := hways b (List.mem_of_getElem? hx)
      obtain ⟨bb, ob, ap, np, cp, ai, ni, ci, ae, ne, ce, ha, hrow, hp, hi, he⟩ := blkOf hb hx
      refine ⟨by omega, by omega, ptAt_of ha ⟨_, _, _, _, _, _, _, _, _, _, _, _, h22.ext.row hrow, ?_⟩⟩
      refine alp h22 fun b36 w37 h37 => ?_
      refine stp h37 0 rfl (by simp) rfl fun w38 h38 => ?_
      generalize hbx : Cl 47 (splice [.slice none 0 0, .slice none 0 0, .int .i64 0, .int .i64 0, .slice none 0 0, .int .i64 0] 0 [.slice ap np cp, .slice ai ni ci, .int .i64 b.fin.kind, .int .i64 b.fin.val, .slice ae ne ce, .int .i64 b.fin.trap]) = box at *
      have h38 : Hp w w38 ((b36, box) :: (fix (kvals ids st) ++ ids.zip os)) := h38
      have hskip : target = knPass f.reach (j + 1) (f.blocks.drop (j + 1)) st t → K25 t w38 := fun ht =>
        hK25 _ _ ⟨n - (j + 1), by omega, j + 1, st, ids, os, wrap_succ (by omega), by omega, rfl, h38.drop 1, hkm, ht⟩
      obtain ⟨inj, hinj⟩ : ∃ x, st.ins[j]? = some x := ⟨_, List.getElem?_eq_getElem (by rw [hkm.nl]; omega)⟩
      have hcelj : cel w38 bin j = some (.map (inj.bind fun i => ids[i]?)) := by
        subst hfix
        exact h38.cl 2 rfl (kvals_get hinj)
      have hnone : (inj.bind fun i => ids[i]?).isNone = inj.isNone := by
        cases inj with
        | none => rfl
        | some i =>
          have := hkm.lt j i hinj
          rw [← hkm.il] at this
          simp [List.getElem?_eq_getElem this]
      intro K39 hK39
      have h39 : target = (let r := knBlk j b st t; knPass f.reach (j + 1) (f.blocks.drop (j + 1)) r.1 r.2) → K39 w38 := by
        intro htar
        refine hK39 _ ?_
        intro K41 hK41
        -- behind the first part
        have h41 : ∀ (t1 : Bool) (w43 : World) (st1 : Kn) (ids1 : List Nat) (os1 : List Obj) (i1 : Nat), Hp w w43 ((b36, box) :: (fix (kvals ids1 st1) ++ ids1.zip os1)) → KM ids1 os1 st1 n → st1.ins[j]? = some (some i1) →
            target = (let r := knWays st1.sets.length b.fin.ways { st1 with sets := st1.sets ++ [after (st1.sets.getD i1 []) b] } t1; knPass f.reach (j + 1) (f.blocks.drop (j + 1)) r.1 r.2) → K41 t1 w43 := by
          intro t1 w43 st1 ids1 os1 i1 h43 hkm1 hin1 htar1
          refine hK41 _ _ ?_
          have hd := h43.drew
          have hi1 := hkm1.lt j i1 hin1
          obtain ⟨o1, ho1⟩ : ∃ o, os1[i1]? = some o := ⟨_, List.getElem?_eq_getElem (by rw [hkm1.ol]; exact hi1)⟩
          obtain ⟨bk, hbk⟩ : ∃ b, ids1[i1]? = some b := ⟨_, List.getElem?_eq_getElem (by rw [hkm1.il]; exact hi1)⟩
          obtain ⟨s1, hs1⟩ : ∃ s, st1.sets[i1]? = some s := ⟨_, List.getElem?_eq_getElem hi1⟩
          have hmo := hkm1.map i1 s1 o1 hs1 ho1
          have hgd : st1.sets.getD i1 [] = s1 := by simp [List.getD_eq_getElem?_getD, hs1]
          have hrm : RMap w43.drew (some bk) (setF s1) := by
            subst hfix
            exact hd.rmap (4 + i1) (by
              have := zip_get ids1 os1 i1 bk o1 hbk ho1
              rw [show 4 + i1 = (3 + i1) + 1 by omega, List.getElem?_cons_succ, List.getElem?_append_right (by simp)]
              simpa using this) hmo
          refine ⟨by omega, by omega, ptAt_of rfl ⟨some bk, ?_, ap, np, cp, ai, ni, ci, b.fin.kind, b.fin.val, ae, ne, ce, b.fin.trap, ?_, ?_⟩⟩
          · subst hfix
            have := kvals_get (ids := ids1) hin1
            simp only [Option.bind_some, hbk] at this
            exact hd.cl 2 rfl (by simpa using this)
          · subst hbx
            exact hd.row 0 rfl
          refine (after_w hrm (b := b) ⟨ap, np, cp, ai, ni, ci, ae, ne, ce, rfl, RdI.ext hp hd.ext, RdInss.ext hi hd.ext, RdWays.ext he hd.ext⟩).mono ?_
          rintro v w54 ⟨rid, ro, rfl, hro, h54'⟩
          have h54 := hd.call h54'
          have hkm2 := hkm1.addS rid ro _ hro
          have h54 : Hp w w54 ((b36, box) :: (fix (kvals (ids1 ++ [rid]) { st1 with sets := st1.sets ++ [after s1 b] }) ++ (ids1 ++ [rid]).zip (os1 ++ [ro]))) := by
            rw [kvals_app hkm1, List.zip_append (by rw [hkm1.il, hkm1.ol])]
            refine h54.perm ?_
            simp only [List.singleton_append, List.zip_cons_cons, List.zip_nil_right]
            rw [← List.append_assoc, ← List.cons_append]
            exact (List.perm_append_singleton _ _).symm
          rw [hgd] at htar1
          refine ⟨_, rfl, ae, ne, ce, by subst hbx; exact h54.cl 0 rfl rfl, ?_⟩
          have hel := he.len
          have hele := he.le
          have hrid : (ids1 ++ [rid])[st1.sets.length]? = some rid := by rw [List.getElem?_append_right (by rw [hkm1.il]; exact Nat.le_refl _), hkm1.il]; simp
          have holt : st1.sets.length < (st1.sets ++ [after s1 b]).length := by simp
          generalize st1.sets.length = oid at *
          generalize hst2 : ({ st1 with sets := st1.sets ++ [after s1 b] } : Kn) = st2 at *
          have holt2 : oid < st2.sets.length := by rw [← hst2]; exact holt
          clear holt hst2
          refine ⟨fun t i w' c => ∃ (q : Nat) (st : Kn) (os : List Obj), i = q ∧ q ≤ ne ∧ c = ne - q ∧ Hp w w' ((b36, box) :: (fix (kvals (ids1 ++ [rid]) st) ++ (ids1 ++ [rid]).zip os)) ∧ KM (ids1 ++ [rid]) os st n ∧ oid < st.sets.length ∧
            target = (let r := knWays oid (b.fin.ways.drop q) st t; knPass f.reach (j + 1) (f.blocks.drop (j + 1)) r.1 r.2),
            ⟨ne, 0, st2, os1 ++ [ro], rfl, by omega, by omega, h54, hkm2, holt2, htar1⟩, ?_⟩
          clear h54 hkm2 holt2 htar1
          rintro t i w60 c' ⟨q, st, os, rfl, hq, rfl, h60, hkm3, holt, htar3⟩
          generalize ids1 ++ [rid] = idl at *
          refine sp_dec (fun hlt2 => ?_) (fun hge2 => ?_)
          · intro K63 hK63
            have hy : b.fin.ways[q]? = some b.fin.ways[q] := List.getElem?_eq_getElem (by omega)
            have hdropw : b.fin.ways.drop q = b.fin.ways[q] :: b.fin.ways.drop (q + 1) := List.drop_eq_getElem_cons (by omega)
            generalize b.fin.ways[q] = e at hy hdropw
            rw [hdropw, knWays] at htar3
            have hok := (List.all_eq_true.1 hwb) e (List.mem_of_getElem? hy)
            have hto : 1 ≤ e.to ∧ e.to < n := by
              unfold wayOk at hok
              simp only [Bool.and_eq_true, decide_eq_true_eq] at hok
              omega
            obtain ⟨bw, ow, vw, hae, hroww, hvlw, wa, wn, wc, rfl, hwargs⟩ := he.at_ _ _ hy
            refine ⟨by omega, by omega, ptAt_of hae ⟨_, _, _, _, h60.ext.row hroww, ?_⟩⟩
            refine alp h60 fun b70 w71 h71 => ?_
            refine stp h71 0 rfl (by simp) rfl fun w72 h72 => ?_
            refine ⟨_, h72.cl 0 rfl rfl, ?_⟩
            have htoN : e.to = (e.to.toNat : Nat) := by omega
            obtain ⟨inx, hinx⟩ : ∃ x, st.ins[e.to.toNat]? = some x := ⟨_, List.getElem?_eq_getElem (by rw [hkm3.nl]; omega)⟩
            have hkv := kvals_get (ids := idl) hinx
            have hkl : (kvals idl st).length = n := by simp [kvals, hkm3.nl]
            have hbinL : (((b70, Cl 41 [.int .i64 e.to, .slice wa wn wc]) :: (b36, box) :: (fix (kvals idl st) ++ idl.zip os)) : List (Nat × Obj))[3]? = some (bin, Cl 56 (kvals idl st)) := by subst hfix; rfl
            have hmapL : ∀ i b o, idl[i]? = some b → os[i]? = some o → (((b70, Cl 41 [.int .i64 e.to, .slice wa wn wc]) :: (b36, box) :: (fix (kvals idl st) ++ idl.zip os)) : List (Nat × Obj))[5 + i]? = some (b, o) := by
              intro i b o h1 h2
              subst hfix
              rw [show 5 + i = (3 + i) + 1 + 1 by omega, List.getElem?_cons_succ, List.getElem?_cons_succ, List.getElem?_append_right (by simp)]
              simpa using zip_get idl os i b o h1 h2
            have hset : ∀ i b o, idl[i]? = some b → (((b70, Cl 41 [.int .i64 e.to, .slice wa wn wc]) :: (b36, box) :: (fix (kvals idl st) ++ idl.zip os)) : List (Nat × Obj)).set (5 + i) (b, o) = (b70, Cl 41 [.int .i64 e.to, .slice wa wn wc]) :: (b36, box) :: (fix (kvals idl st) ++ idl.zip (os.set i o)) := by
              intro i b o h1
              subst hfix
              rw [show 5 + i = (3 + i) + 1 + 1 by omega, List.set_cons_succ, List.set_cons_succ, List.set_append_right _ _ (by simp)]
              simp [zip_set idl os i b o h1]
            have h72 : Hp w w72 ((b70, Cl 41 [.int .i64 e.to, .slice wa wn wc]) :: (b36, box) :: (fix (kvals idl st) ++ idl.zip os)) := h72
            have hstep : ∀ (x : Bool) (w75 : World) (st' : Kn) (os' : List Obj), Hp w w75 ((b70, Cl 41 [.int .i64 e.to, .slice wa wn wc]) :: (b36, box) :: (fix (kvals idl st') ++ idl.zip os')) → KM idl os' st' n → oid < st'.sets.length →
                st.meet e.to.toNat oid = (st', x) → sp x (K63 true w75) (K63 t w75) := by
              intro x w75 st' os' h75 hkm4 hol hmeet
              rw [hmeet] at htar3
              refine sp_of (fun hxt => hK63 _ _ ⟨ne - (q + 1), by omega, q + 1, st', os', wrap_succ (by omega), by omega, rfl, h75.drop 1, hkm4, hol, ?_⟩) (fun hxt => hK63 _ _ ⟨ne - (q + 1), by omega, q + 1, st', os', wrap_succ (by omega), by omega, rfl, h75.drop 1, hkm4, hol, ?_⟩)
              · subst hxt; exact htar3
              · subst hxt; exact htar3
            rw [htoN]
            cases inx with
            | none =>
              refine (meet_nil h72 3 hbinL e.to.toNat hkv (some rid) hkl).mono ?_
              rintro v w75 ⟨rfl, h75⟩
              refine ⟨_, rfl, hstep true w75 { st with ins := st.ins.set e.to.toNat (some oid) } os ?_ (hkm3.setI _ _ holt) holt ?_⟩
              · rw [kvals_set hrid]
                subst hfix
                exact h75
              · unfold Kn.meet; rw [hinx]
            | some i2 =>
              have hi2 := hkm3.lt _ _ hinx
              obtain ⟨o2, ho2⟩ : ∃ o, os[i2]? = some o := ⟨_, List.getElem?_eq_getElem (by rw [hkm3.ol]; exact hi2)⟩
              obtain ⟨bk2, hbk2⟩ : ∃ b, idl[i2]? = some b := ⟨_, List.getElem?_eq_getElem (by rw [hkm3.il]; exact hi2)⟩
              obtain ⟨s2, hs2⟩ : ∃ s, st.sets[i2]? = some s := ⟨_, List.getElem?_eq_getElem hi2⟩
              obtain ⟨oo, hoo⟩ : ∃ o, os[oid]? = some o := ⟨_, List.getElem?_eq_getElem (by rw [hkm3.ol]; exact holt)⟩
              obtain ⟨so, hso⟩ : ∃ s, st.sets[oid]? = some s := ⟨_, List.getElem?_eq_getElem holt⟩
              simp only [Option.bind_some, hbk2] at hkv
              refine (meet_map h72 3 hbinL e.to.toNat hkv hkl (5 + i2) (hmapL i2 bk2 o2 hbk2 ho2) (by omega) (s := s2) (t := so) (hkm3.map i2 s2 o2 hs2 ho2) ?_).mono ?_
              · by_cases hoi : oid = i2
                · left
                  subst hoi
                  rw [hrid] at hbk2
                  rw [hso] at hs2
                  cases hbk2; cases hs2
                  exact ⟨rfl, rfl⟩
                · right
                  exact ⟨5 + oid, oo, by omega, hmapL oid rid oo hrid hoo, hkm3.map oid so oo hso hoo⟩
              · rintro v w75 ⟨o', rfl, ho', h75⟩
                rw [hset i2 bk2 o' hbk2] at h75
                refine ⟨_, rfl, hstep _ w75 { st with sets := st.sets.set i2 (s2.filter fun x => decide (x ∈ so)) } (os.set i2 o') h75 ?_ (by simpa using holt) ?_⟩
                · refine ⟨by simp [hkm3.il], by simp [hkm3.ol], hkm3.nl, fun i s o h1 h2 => ?_, fun j i h1 => by have := hkm3.lt j i h1; simpa using this⟩
                  simp only [List.getElem?_set] at h1 h2
                  split at h1
                  · rename_i e1
                    subst e1
                    rw [if_pos rfl] at h2
                    split at h2
                    · cases h1; cases h2; exact ho'
                    · cases h2
                  · rename_i e1
                    rw [if_neg e1] at h2
                    exact hkm3.map i s o h1 h2
                · unfold Kn.meet
                  rw [hinx]
                  simp only [List.getD_eq_getElem?_getD, hs2, hso, Option.getD_some, filter_len]
          · have : q = ne := by omega
            rw [List.drop_of_length_le (by omega), knWays] at htar3
            exact hK25 _ _ ⟨n - (j + 1), by omega, j + 1, st, idl, os, wrap_succ (by omega), by omega, rfl, h60.drop 1, hkm3, htar3⟩
        refine ⟨by omega, by omega, ptAt_of rfl ⟨_, by simpa using hcelj, inj.isNone, ?_, sp_of (fun hnl => ?_) (fun hnl => ?_)⟩⟩
        · rw [← hnone]
          exact eql_map_nil (k := 3) (e := 4) (by kernel_rfl) _ _ _ _
        · have hinj0 : inj = none := by cases inj with | none => rfl | some _ => cases hnl
          subst hinj0
          refine alm h38 fun b81 w82 h82 => ⟨by omega, by omega, ptAt_of rfl ?_⟩
          have hL82 : (((b81, Obj.map #[] 0) :: (b36, box) :: (fix (kvals ids st) ++ ids.zip os)) : List (Nat × Obj))[3]? = some (bin, Cl 56 (kvals ids st)) := by subst hfix; rfl
          have hkl : (kvals ids st).length = n := by simp [kvals, hkm.nl]
          refine stp h82 3 hL82 (by simp; omega) rfl fun w85 h85 => ?_
          have hspl : splice (kvals ids st) (0 + (j : Int).toNat * 1) [.map (some b81)] = (kvals ids st).set j (.map (some b81)) := by
            have := set_splice (fun v : Value => v) (kvals ids st) j (.map (some b81)) (by omega)
            simpa using this
          rw [hspl] at h85
          have hkmA := hkm.addS b81 _ [] setF_nil
          have hkmB := hkmA.setI j st.sets.length (by simp)
          refine h41 true w85 { ins := st.ins.set j (some st.sets.length), sets := st.sets ++ [[]] } (ids ++ [b81]) (os ++ [.map #[] 0]) st.sets.length ?_ hkmB ?_ ?_
          · have e1 : kvals (ids ++ [b81]) { ins := st.ins.set j (some st.sets.length), sets := st.sets ++ [[]] } = (kvals ids st).set j (.map (some b81)) := by
              have e2 : (ids ++ [b81])[st.sets.length]? = some b81 := by rw [List.getElem?_append_right (by rw [hkm.il]; exact Nat.le_refl _), hkm.il]; simp
              have := kvals_set (ids := ids ++ [b81]) (st := { st with sets := st.sets ++ [[]] }) (j := j) e2
              rw [this, kvals_app hkm]
            rw [e1, List.zip_append (by rw [hkm.il, hkm.ol])]
            subst hfix
            refine h85.perm ?_
            simp only [List.set_cons_succ, List.cons_append, List.set_cons_zero, List.nil_append, List.zip_cons_cons, List.zip_nil_right]
            have hp1 := fun (A : List (Nat × Obj)) (x : Nat × Obj) => (List.perm_append_singleton x A).symm
            exact hp1 ((b36, box) :: (br, Cl 4 (f.reach.map Value.bool)) :: (bin, Cl 56 ((kvals ids st).set j (.map (some b81)))) :: (b3, Cl 29 [.string f.name, .slice a n c]) :: ids.zip os) (b81, Obj.map #[] 0)
          · rw [List.getElem?_set_self (by rw [hkm.nl]; omega)]
          · rw [htar]
            unfold knBlk
            rw [hinj]
        · obtain ⟨i1, rfl⟩ : ∃ i, inj = some i := by cases inj with | none => cases hnl | some i => exact ⟨i, rfl⟩
          refine h41 t w38 st ids os i1 h38 hkm hinj ?_
          rw [htar]
          unfold knBlk
          rw [hinj]
      have hrl : f.reach.length = n := by rw [Fnc.reach_length, hbl]
      have hrj : f.reach[j]? = some f.reach[j] := List.getElem?_eq_getElem (by omega)
      generalize f.reach[j] = rj at hrj
      have hgd : f.reach.getD j false = rj := by simp [List.getD_eq_getElem?_getD, hrj]
      have hset? : st.set? j = none ↔ inj = none := by
        unfold Kn.set?
        rw [hinj]
        cases inj with
        | none => simp
        | some i =>
          have := hkm.lt j i hinj
          simp [List.getElem?_eq_getElem this]
      rw [hgd] at htar
      refine ⟨by omega, by omega, ptAt_of rfl ⟨rj, ?_, sp_of (fun hr => ?_) (fun hr => ?_)⟩⟩
      · subst hfix
        exact h38.cl 1 rfl (by simp [hrj])
      · have : rj = false := by simpa using hr
        rw [if_pos (.inl this)] at htar
        exact hskip htar
      · have hrt : rj = true := by simpa using hr
        refine sp_dec (fun h0 => ⟨by omega, by omega, ptAt_of rfl ⟨_, by simpa using hcelj, inj.isNone, ?_, sp_of (fun hnl => ?_) (fun hnl => ?_)⟩⟩) (fun h0 => ?_)
        · rw [← hnone]
          exact eql_map_nil (k := 3) (e := 4) (by kernel_rfl) _ _ _ _
        · have hinj0 : inj = none := by cases inj with | none => rfl | some _ => cases hnl
          rw [if_pos (.inr ⟨by omega, hset?.2 hinj0⟩)] at htar
          exact hskip htar
        · have hinj0 : inj ≠ none := by intro e; subst e; cases hnl
          rw [if_neg (by
            rintro (e | ⟨-, e⟩)
            · rw [hrt] at e; cases e
            · exact hinj0 (hset?.1 e))] at htar
          exact h39 htar
        · rw [if_neg (by
            rintro (e | ⟨e, -⟩)
            · rw [hrt] at e; cases e
            · omega)] at htar
          exact h39 htar
    · have : j = n := by omega
      rw [List.drop_of_length_le (by omega), knPass] at htar
      rw [htar] at hgo'
      refine ⟨m, by omega, st, ids, os, h22, hkm, ?_⟩
      cases t with
      | true => simpa using hgo'
      | false => simp only [Bool.false_eq_true, if_false] at hgo' ⊢; exact (Option.some.inj hgo').symm
end Go.Pl.Try

/- What '(*palings/flow.Graph).meet' does, read off its translation by gen.py. -/
namespace Go.Pl.Try
set_option linter.unusedVariables false
set_option maxRecDepth 100000
def F64 (x1 : Option Addr) (ax2 : Option Addr) (nx2 cx2 : Nat) (x3 : Int) (w : World) (R : Value → World → Prop) : Prop :=
  0 ≤ (x3 : Int) ∧ (x3 : Int) < (nx2 : Nat) ∧
  ptAt ax2 fun b4 o5 =>
  ∃ (ax6 : Option Addr) (nx6 cx6 : Nat), cel w b4 (o5 + x3.toNat * 1) = some (.slice ax6 nx6 cx6) ∧
  ∃ J7 : Bool → Int → World → Nat → Prop, (∃ m11, J7 false 0 w m11) ∧
  ∀ (x8 : Bool) (x9 : Int), ∀ w10 m11, J7 x8 x9 w10 m11 →
  sp (decide ((x9 : Int) < (nx6 : Nat)))
  (∀ K13 : Bool → World → Prop, (∀ (x14 : Bool), ∀ w15, (
  ∃ m12, m12 < m11 ∧ J7 x14 (IntKind.wrap .i64 (x9 + 1)) w15 m12) → K13 x14 w15) →
  ∀ K16 : World → Prop, (∀ w17, (
  ptAt x1 fun b18 o19 =>
  ∃ (ax20 : Option Addr) (nx20 cx20 : Nat), cel w17 b18 (o19 + 1) = some (.slice ax20 nx20 cx20) ∧
  0 ≤ (x3 : Int) ∧ (x3 : Int) < (nx20 : Nat) ∧
  ptAt ax20 fun b21 o22 =>
  ∃ (ax23 : Option Addr) (nx23 cx23 : Nat), cel w17 b21 (o22 + x3.toNat * 1) = some (.slice ax23 nx23 cx23) ∧
  ∃ J24 : Bool → Int → World → Nat → Prop, (∃ m28, J24 x8 0 w17 m28) ∧
  ∀ (x25 : Bool) (x26 : Int), ∀ w27 m28, J24 x25 x26 w27 m28 →
  sp (decide ((x26 : Int) < (nx23 : Nat)))
  (∀ K30 : Bool → World → Prop, (∀ (x31 : Bool), ∀ w32, (
  ∃ m29, m29 < m28 ∧ J24 x31 (IntKind.wrap .i64 (x26 + 1)) w32 m29) → K30 x31 w32) →
  0 ≤ (x26 : Int) ∧ (x26 : Int) < (nx23 : Nat) ∧
  ptAt ax23 fun b33 o34 =>
  ∃ (x35 : Int), cel w27 b33 (o34 + x26.toNat * 1) = some (.int .i64 x35) ∧
  CallP Pg 37 [.pointer x1, .int .i64 x35] w27 fun v36 w37 => ∃ (x38 : Bool), v36 = .bool x38 ∧
  sp x38
  (0 ≤ (x35 : Int) ∧ (x35 : Int) < (nx2 : Nat) ∧
  ptAt ax2 fun b39 o40 =>
  ∃ (ax41 : Option Addr) (nx41 cx41 : Nat), cel w37 b39 (o40 + x35.toNat * 1) = some (.slice ax41 nx41 cx41) ∧
  0 ≤ (x9 : Int) ∧ (x9 : Int) < (nx41 : Nat) ∧
  ptAt ax41 fun b42 o43 =>
  ∃ (x44 : Bool), cel w37 b42 (o43 + x9.toNat * 1) = some (.bool x44) ∧
  sp (!x44)
  (0 ≤ (x3 : Int) ∧ (x3 : Int) < (nx2 : Nat) ∧
  ptAt ax2 fun b45 o46 =>
  ∃ (ax47 : Option Addr) (nx47 cx47 : Nat), cel w37 b45 (o46 + x3.toNat * 1) = some (.slice ax47 nx47 cx47) ∧
  0 ≤ (x9 : Int) ∧ (x9 : Int) < (nx47 : Nat) ∧
  ptAt ax47 fun b48 o49 =>
  ∃ (x50 : Bool), cel w37 b48 (o49 + x9.toNat * 1) = some (.bool x50) ∧
  sp x50
  (0 ≤ (x3 : Int) ∧ (x3 : Int) < (nx2 : Nat) ∧
  ptAt ax2 fun b51 o52 =>
  ∃ (ax53 : Option Addr) (nx53 cx53 : Nat), cel w37 b51 (o52 + x3.toNat * 1) = some (.slice ax53 nx53 cx53) ∧
  0 ≤ (x9 : Int) ∧ (x9 : Int) < (nx53 : Nat) ∧
  ptAt ax53 fun b54 o55 =>
  StP b54 (o55 + x9.toNat * 1) [.bool false] w37 fun w56 =>
  K30 true w56)
  (K30 x25 w37))
  (K30 x25 w37))
  (K30 x25 w37))
  (K13 x25 w27)) → K16 w17) →
  0 ≤ (x3 : Int) ∧ (x3 : Int) < (nx2 : Nat) ∧
  ptAt ax2 fun b57 o58 =>
  ∃ (ax59 : Option Addr) (nx59 cx59 : Nat), cel w10 b57 (o58 + x3.toNat * 1) = some (.slice ax59 nx59 cx59) ∧
  0 ≤ (x9 : Int) ∧ (x9 : Int) < (nx59 : Nat) ∧
  ptAt ax59 fun b60 o61 =>
  ∃ (x62 : Bool), cel w10 b60 (o61 + x9.toNat * 1) = some (.bool x62) ∧
  sp (!x62)
  (K13 x8 w10)
  (sp (decide ((x9 : Int) = x3))
  (K13 x8 w10)
  (K16 w10)))
  (R (.bool x8) w10)
def T64 : List Sh := [.v (.one .ptr), .v (.one .sl), .v (.one (.int .i64)), .v (.one .any), .v (.one .any), .v (.one .any), .v (.one .bool), .v (.one .bool), .v (.one (.int .i64)), .v (.one .any), .v (.one (.int .i64)), .v (.one .sl), .v (.one (.int .i64)), .v (.one .ptr), .v (.one .sl), .v (.one (.int .i64)), .v (.one (.int .i64)), .v (.one .bool), .v (.one (.int .i64)), .v (.one .sl), .v (.one (.int .i64)), .v (.one .ptr), .v (.one .sl), .v (.one (.int .i64)), .v (.one .ptr), .v (.one .bool), .v (.one .bool), .v (.one .bool), .v (.one (.int .i64)), .v (.one (.int .i64)), .v (.one .bool), .v (.one .bool), .v (.one .ptr), .v (.one .ptr), .v (.one .ptr), .v (.one .sl), .v (.one (.int .i64)), .v (.one .ptr), .v (.one .sl), .v (.one (.int .i64)), .v (.one (.int .i64)), .v (.one .bool), .v (.one .ptr), .v (.one (.int .i64)), .v (.one .ptr), .v (.one (.int .i64)), .v (.one .bool), .v (.one .bool), .v (.one .sl), .v (.one (.int .i64)), .v (.one .ptr), .v (.one .sl), .v (.one (.int .i64)), .v (.one .ptr), .v (.one .bool), .v (.one .bool), .v (.one .bool), .v (.one .bool), .v (.one .sl), .v (.one (.int .i64)), .v (.one .ptr), .v (.one .sl), .v (.one (.int .i64)), .v (.one .ptr), .v (.one .bool), .v (.one .bool), .v (.one .sl), .v (.one (.int .i64)), .v (.one .ptr), .v (.one .sl), .v (.one (.int .i64)), .v (.one .ptr), .v (.one (.int .i64)), .v (.one (.int .i64)), .v (.one .bool)]
def A64 : Ann := (.seq none .z (.seq none .z (.seq none (.seq none .z (.block none (.loop [7, 16] (.seq none .z (.seq none (.cond .z .z) (.seq none (.block (some [7]) (.seq none .z (.seq (some []) (.ifs none none .z .z) (.seq none .z (.block none (.loop [7, 40] (.seq none .z (.seq none (.cond .z .z) (.seq none (.block (some [7]) (.seq none .z (.ifs none none (.seq none .z .z) .z))) .z))))))))) .z)))))) (.seq none .z .z))))
theorem F64_eq (x1 : Option Addr) (ax2 : Option Addr) (nx2 cx2 : Nat) (x3 : Int) (w : World) (R : Value → World → Prop) : F64 x1 ax2 nx2 cx2 x3 w R = denF Go.Proofs.Try.prog T64 Go.Proofs.Try.f64 A64 [.pointer x1, .slice ax2 nx2 cx2, .int .i64 x3] w R := by kernel_rfl
theorem F64_ok (x1 : Option Addr) (ax2 : Option Addr) (nx2 cx2 : Nat) (x3 : Int) {w : World} {R : Value → World → Prop} (h : F64 x1 ax2 nx2 cx2 x3 w R) : CallP Go.Proofs.Try.prog 64 [.pointer x1, .slice ax2 nx2 cx2, .int .i64 x3] w R :=
  calls_den (fun _ => drawn (by kernel_rfl)) Go.Proofs.Try.func64 (Nat.le_of_ble_eq_true (by kernel_rfl)) ((F64_eq x1 ax2 nx2 cx2 x3 w R).mp h)
end Go.Pl.Try

/- What '(*palings/flow.Graph).Doms' does, read off its translation by gen.py. -/
namespace Go.Pl.Try
set_option linter.unusedVariables false
set_option maxRecDepth 100000
def F34 (x1 : Option Addr) (w : World) (R : Value → World → Prop) : Prop :=
  CallP Pg 35 [.pointer x1] w fun v2 w3 => ∃ (x4 : Int), v2 = .int .i64 x4 ∧
  ∃ (ax5 : Option Addr) (nx5 cx5 : Nat), ∃ w6 : World, Sem.run Pg (Instr.makeSlice 115 (.int .i64 x4) (.int .i64 x4)) w3 = .ok (.slice ax5 nx5 cx5) w6 ∧
  ∃ J7 : Int → World → Nat → Prop, (∃ m10, J7 0 w6 m10) ∧
  ∀ (x8 : Int), ∀ w9 m10, J7 x8 w9 m10 →
  sp (decide ((x8 : Int) < (nx5 : Nat)))
  (∃ (ax12 : Option Addr) (nx12 cx12 : Nat), ∃ w13 : World, Sem.run Pg (Instr.makeSlice 75 (.int .i64 x4) (.int .i64 x4)) w9 = .ok (.slice ax12 nx12 cx12) w13 ∧
  0 ≤ (x8 : Int) ∧ (x8 : Int) < (nx5 : Nat) ∧
  ptAt ax5 fun b14 o15 =>
  StP b14 (o15 + x8.toNat * 1) [.slice ax12 nx12 cx12] w13 fun w16 =>
  0 ≤ (x8 : Int) ∧ (x8 : Int) < (nx5 : Nat) ∧
  ptAt ax5 fun b17 o18 =>
  ∃ (ax19 : Option Addr) (nx19 cx19 : Nat), cel w16 b17 (o18 + x8.toNat * 1) = some (.slice ax19 nx19 cx19) ∧
  ∃ J20 : Int → World → Nat → Prop, (∃ m23, J20 0 w16 m23) ∧
  ∀ (x21 : Int), ∀ w22 m23, J20 x21 w22 m23 →
  sp (decide ((x21 : Int) < (nx19 : Nat)))
  (∀ K25 : World → Prop, (∀ w26, (
  ∃ m24, m24 < m23 ∧ J20 (IntKind.wrap .i64 (x21 + 1)) w26 m24) → K25 w26) →
  0 ≤ (x8 : Int) ∧ (x8 : Int) < (nx5 : Nat) ∧
  ptAt ax5 fun b27 o28 =>
  ∃ (ax29 : Option Addr) (nx29 cx29 : Nat), cel w22.drew b27 (o28 + x8.toNat * 1) = some (.slice ax29 nx29 cx29) ∧
  CallP Pg 37 [.pointer x1, .int .i64 x8] w22.drew fun v30 w31 => ∃ (x32 : Bool), v30 = .bool x32 ∧
  Ext w22.drew w31 ∧
  sp x32
  (sp (decide ((0 : Int) < x8))
  (0 ≤ (x21 : Int) ∧ (x21 : Int) < (nx29 : Nat) ∧
  ptAt ax29 fun b33 o34 =>
  StP b33 (o34 + x21.toNat * 1) [.bool true] w31 fun w35 =>
  K25 w35)
  (0 ≤ (x21 : Int) ∧ (x21 : Int) < (nx29 : Nat) ∧
  ptAt ax29 fun b36 o37 =>
  StP b36 (o37 + x21.toNat * 1) [.bool (decide ((x21 : Int) = 0))] w31 fun w38 =>
  K25 w38))
  (0 ≤ (x21 : Int) ∧ (x21 : Int) < (nx29 : Nat) ∧
  ptAt ax29 fun b39 o40 =>
  StP b39 (o40 + x21.toNat * 1) [.bool false] w31 fun w41 =>
  K25 w41))
  (∃ m11, m11 < m10 ∧ J7 (IntKind.wrap .i64 (x8 + 1)) w22 m11))
  (∃ J42 : Bool → World → Nat → Prop, (∃ m45, J42 true w9 m45) ∧
  ∀ (x43 : Bool), ∀ w44 m45, J42 x43 w44 m45 →
  sp x43
  (∃ J47 : Bool → Int → World → Nat → Prop, (∃ m51, J47 false 1 w44 m51) ∧
  ∀ (x48 : Bool) (x49 : Int), ∀ w50 m51, J47 x48 x49 w50 m51 →
  sp (decide ((x49 : Int) < x4))
  (∀ K53 : Bool → World → Prop, (∀ (x54 : Bool), ∀ w55, (
  ∃ m52, m52 < m51 ∧ J47 x54 (IntKind.wrap .i64 (x49 + 1)) w55 m52) → K53 x54 w55) →
  CallP Pg 37 [.pointer x1, .int .i64 x49] w50 fun v56 w57 => ∃ (x58 : Bool), v56 = .bool x58 ∧
  sp x58
  (CallP Pg 64 [.pointer x1, .slice ax5 nx5 cx5, .int .i64 x49] w57 fun v59 w60 => ∃ (x61 : Bool), v59 = .bool x61 ∧
  sp x61
  (K53 true w60)
  (K53 x48 w60))
  (K53 x48 w57))
  (∃ m46, m46 < m45 ∧ J42 x48 w50 m46))
  (R (.slice ax5 nx5 cx5) w44))
def T34 : List Sh := [.v (.one .ptr), .v (.one .any), .v (.one .sl), .v (.one (.int .i64)), .v (.one .sl), .v (.one (.int .i64)), .v (.one (.int .i64)), .v (.one .bool), .v (.one (.int .i64)), .v (.one .ptr), .v (.one (.int .i64)), .v (.one (.int .i64)), .v (.one .sl), .v (.one .sl), .v (.one (.int .i64)), .v (.one (.int .i64)), .v (.one .bool), .v (.one (.int .i64)), .v (.one .sl), .v (.one (.int .i64)), .v (.one (.int .i64)), .v (.one .sl), .v (.one .ptr), .v (.one .sl), .v (.one (.int .i64)), .v (.one .ptr), .v (.one .sl), .v (.one (.int .i64)), .v (.one (.int .i64)), .v (.one .bool), .v (.one (.int .i64)), .v (.one .sl), .v (.one (.int .i64)), .v (.one .ptr), .v (.one .sl), .v (.one (.int .i64)), .v (.one .ptr), .v (.one (.int .i64)), .v (.one .bool), .v (.one .bool), .v (.one (.int .i64)), .v (.one .bool), .v (.one .bool), .v (.one (.int .i64)), .v (.one .bool), .v (.one .bool), .v (.one .bool), .v (.one .ptr), .v (.one (.int .i64)), .v (.one (.int .i64)), .v (.one .bool), .v (.one (.int .i64)), .v (.one (.int .i64)), .v (.one .bool), .v (.one (.int .i64)), .v (.one (.int .i64)), .v (.one .ptr), .v (.one (.int .i64)), .v (.one .bool), .v (.one .ptr), .v (.one .sl), .v (.one (.int .i64)), .v (.one .bool), .v (.one .bool), .v (.one .bool), .v (.one .bool), .v (.one .sl)]
def A34 : Ann := (.seq none .z (.seq none .z (.seq none .z (.seq none (.seq none .z (.block none (.loop [15] (.seq none .z (.seq none (.cond .z .z) (.seq none (.block none (.seq none .z (.seq none .z (.seq none .z (.block none (.loop [28] (.seq none .z (.seq none (.cond .z .z) (.seq none (.block (some []) (.seq none .z (.dr [0, 0, 0, 1, 0, 0, 0, 2, 0, 0, 0, 0, 0, 0, 0, 0, 0, 3] [0, 1, 2, 3, 4, 5, 6, 7, 8, 9, 10, 11, 12, 13, 14, 15, 16, 17]))) .z))))))))) .z)))))) (.seq none (.seq none .z (.block none (.loop [7] (.seq none (.seq none .z (.cond .z .z)) (.block none (.seq none .z (.seq none .z (.block none (.loop [7, 8] (.seq none (.seq none .z (.cond .z .z)) (.seq none (.block (some [7]) (.seq none .z (.cond .z .z))) .z))))))))))) (.seq none .z .z))))))
theorem F34_eq (x1 : Option Addr) (w : World) (R : Value → World → Prop) : F34 x1 w R = denF Go.Proofs.Try.prog T34 Go.Proofs.Try.f34 A34 [.pointer x1] w R := by kernel_rfl
theorem F34_ok (x1 : Option Addr) {w : World} {R : Value → World → Prop} (h : F34 x1 w R) : CallP Go.Proofs.Try.prog 34 [.pointer x1] w R :=
  calls_den (fun _ => drawn (by kernel_rfl)) Go.Proofs.Try.func34 (Nat.le_of_ble_eq_true (by kernel_rfl)) ((F34_eq x1 w R).mp h)
end Go.Pl.Try

/- Dominators: walked. -/
namespace Go.Pl.Try
open M
set_option linter.unusedVariables false
/-- A matrix of truths of the call's own. -/
def ML (bo n : Nat) (ids : List Nat) (D : Mat) : List (Nat × Obj) := (bo, Cl 75 (ids.map fun b => Value.slice (some ⟨b, 0, none⟩) n n)) :: ids.zip (D.map fun r => Cl 4 (r.map .bool))
structure MOk (n : Nat) (ids : List Nat) (D : Mat) : Prop where
  il : ids.length = n
  dl : D.length = n
  row : ∀ r ∈ D, r.length = n
structure GOk (n : Nat) (g : Gr) : Prop where
  ol : g.outs.length = n
  il : g.ins.length = n
  rl : g.reach.length = n
theorem has_lt {g : Gr} {n : Nat} (hg : GOk n g) {q : Int} (h : g.has q = true) : 0 ≤ q ∧ q.toNat < n := by
  unfold Gr.has at h
  simp only [Bool.and_eq_true, decide_eq_true_eq] at h
  have := hg.ol
  omega
section
variable {w0 w : World} {F : List (Nat × Obj)} {bo n : Nat} {ids : List Nat} {D : Mat}
theorem ML.at_ (hM : MOk n ids D) {b : Nat} (hb : b < n) : ∃ id row, ids[b]? = some id ∧ D[b]? = some row ∧ row.length = n ∧ D.getD b [] = row ∧ (F ++ ML bo n ids D)[F.length + 1 + b]? = some (id, Cl 4 (row.map .bool)) ∧
    ∀ row', (F ++ ML bo n ids D).set (F.length + 1 + b) (id, Cl 4 (row'.map .bool)) = F ++ ML bo n ids (D.set b row') := by
  obtain ⟨id, hid⟩ := at_some (l := ids) (j := b) (by rw [hM.il]; exact hb)
  obtain ⟨row, hrow⟩ := at_some (l := D) (j := b) (by rw [hM.dl]; exact hb)
  have hz := zip_get ids (D.map fun r => Cl 4 (r.map .bool)) b id (Cl 4 (row.map .bool)) hid (by rw [List.getElem?_map, hrow]; rfl)
  refine ⟨id, row, hid, hrow, hM.row row (List.mem_of_getElem? hrow), by simp [List.getD_eq_getElem?_getD, hrow], ?_, fun row' => ?_⟩
  · rw [List.getElem?_append_right (by omega), show F.length + 1 + b - F.length = b + 1 by omega, ML, List.getElem?_cons_succ]
    exact hz
  · rw [List.set_append_right _ _ (by omega), show F.length + 1 + b - F.length = b + 1 by omega, ML, List.set_cons_succ, zip_set ids _ b id _ hid]
    rw [ML, List.map_set]
theorem ML.out (hM : MOk n ids D) (h : Hp w0 w (F ++ ML bo n ids D)) {b id : Nat} (hid : ids[b]? = some id) : cel w bo (0 + b * 1) = some (.slice (some ⟨id, 0, none⟩) n n) := by
  refine h.cl F.length (e := 75) (vs := ids.map fun b => Value.slice (some ⟨b, 0, none⟩) n n) (by rw [List.getElem?_append_right (Nat.le_refl _), Nat.sub_self]; rfl) ?_
  rw [Nat.zero_add, Nat.mul_one, List.getElem?_map, hid]; rfl
theorem ML.get (hM : MOk n ids D) (h : Hp w0 w (F ++ ML bo n ids D)) {b k id : Nat} (hid : ids[b]? = some id) (hk : k < n) : cel w id (0 + k * 1) = some (.bool (D.at_ b k)) := by
  have hb : b < n := by rw [← hM.il]; exact (List.getElem?_eq_some_iff.1 hid).1
  obtain ⟨id', row, hid', hrow, hrl, hgd, hL, -⟩ := ML.at_ (F := F) (bo := bo) hM hb
  rw [hid] at hid'; cases hid'
  obtain ⟨x, hx⟩ := at_some (l := row) (j := k) (by omega)
  refine h.cl _ hL ?_
  rw [Nat.zero_add, Nat.mul_one, List.getElem?_map, hx]
  simp [Mat.at_, hgd, List.getD_eq_getElem?_getD, hx]
  rw [show D[b]?.getD [] = row by rw [hrow]; rfl, hx]; rfl
theorem ML.clr_ok (hM : MOk n ids D) (b k : Nat) : MOk n ids (D.clr b k) := by
  refine ⟨hM.il, by simp [Mat.clr, hM.dl], fun r hr => ?_⟩
  unfold Mat.clr at hr
  by_cases hb : b < D.length
  · rcases List.mem_or_eq_of_mem_set hr with h1 | rfl
    · exact hM.row r h1
    · rw [List.length_set, List.getD_eq_getElem?_getD, List.getElem?_eq_getElem hb]
      exact hM.row _ (List.getElem_mem hb)
  · rw [List.set_eq_of_length_le (by omega)] at hr
    exact hM.row r hr
theorem fmeet_w {g : Gr} (hg : GOk n g) {p : Option Addr} (hR : RdG w0 p g) (h : Hp w0 w (F ++ ML bo n ids D)) (hM : MOk n ids D) {b : Nat} (hb : b < n) (hn : n ≤ 4294967296) {c : Nat} :
    CallP Pg 64 [.pointer p, .slice (some ⟨bo, 0, none⟩) n c, .int .i64 b] w fun v w' => v = .bool (domMeet g n b D).2 ∧ Hp w0 w' (F ++ ML bo n ids (domMeet g n b D).1) ∧ MOk n ids (domMeet g n b D).1 := by
  have hR0 := hR
  obtain ⟨gb, go, ao, no, co, ai, ni, ci, ar, nr, cr, rfl, hg1, hg2, hg3, hg4, hg5, hg6⟩ := hR
  have hgl : g.reach.length = g.outs.length := by rw [hg.rl, hg.ol]
  have hni := hg5.len
  rw [hg.il] at hni
  obtain ⟨id, hid⟩ := at_some (l := ids) (j := b) (by rw [hM.il]; exact hb)
  refine F64_ok _ _ _ _ _ ?_
  unfold F64
  refine ⟨by omega, by omega, ptAt_of rfl ⟨_, _, _, ML.out hM h hid, ?_⟩⟩
  refine ⟨fun t i w' c => ∃ (k : Nat) (D' : Mat), i = k ∧ k ≤ n ∧ c = n - k ∧ Hp w0 w' (F ++ ML bo n ids D') ∧ MOk n ids D' ∧ domCols g b (n - k) k (D', t) = domMeet g n b D,
    ⟨n, 0, D, rfl, by omega, by omega, h, hM, rfl⟩, ?_⟩
  rintro t i w10 c' ⟨k, D1, rfl, hk, rfl, h10, hM1, hc⟩
  refine sp_dec (fun hlt => ?_) (fun hge => ?_)
  · have hkn : k < n := by omega
    intro K13 hK13 K16 hK16
    rw [show n - k = (n - (k + 1)) + 1 by omega, domCols] at hc
    have hskip : (D1.at_ b k = false ∨ k = b) → K13 t w10 := by
      intro hs
      rw [if_pos hs] at hc
      exact hK13 _ _ ⟨n - (k + 1), by omega, k + 1, D1, wrap_succ (by simp only [maxLen]; omega), by omega, rfl, h10, hM1, hc⟩
    have hgo : ¬ (D1.at_ b k = false ∨ k = b) → K16 w10 := by
      intro hs
      rw [if_neg hs] at hc
      obtain ⟨qs, hqs⟩ := at_some (l := g.ins) (j := b) (by rw [hg.il]; exact hb)
      have hgd : g.ins.getD b [] = qs := by rw [List.getD_eq_getElem?_getD, hqs]; rfl
      rw [hgd] at hc
      obtain ⟨bi, oi, aq, nq, cq, hai, hci, hrq⟩ := RdII.at hg5 hqs
      have hql := hrq.len
      have hqle := hrq.le
      refine hK16 _ (ptAt_of rfl ⟨_, _, _, h10.ext.cel hg2, by omega, by omega, ptAt_of hai ⟨aq, nq, cq, h10.ext.cel (by simpa using hci), ?_⟩⟩)
      refine ⟨fun t' i w' c => ∃ (u : Nat) (D' : Mat), i = u ∧ u ≤ nq ∧ c = nq - u ∧ Hp w0 w' (F ++ ML bo n ids D') ∧ MOk n ids D' ∧ domIn g b k (qs.drop u) (D', t') = domIn g b k qs (D1, t),
        ⟨nq, 0, D1, rfl, by omega, by omega, h10, hM1, rfl⟩, ?_⟩
      rintro t2 i w27 c2 ⟨u, D2, rfl, hu, rfl, h27, hM2, hin⟩
      refine sp_dec (fun hlt2 => ?_) (fun hge2 => ?_)
      · intro K30 hK30
        obtain ⟨q, hq⟩ := at_some (l := qs) (j := u) (by omega)
        rw [drop_cons hq, domIn] at hin
        obtain ⟨bq, oq, haq, hcq⟩ := RdI.at hrq hq
        have hno : ¬ (g.has q = true ∧ D2.at_ q.toNat k = false ∧ D2.at_ b k = true) → K30 t2 w27 := by
          intro hs
          rw [if_neg hs] at hin
          exact hK30 _ _ ⟨nq - (u + 1), by omega, u + 1, D2, wrap_succ (by omega), by omega, rfl, h27, hM2, hin⟩
        refine ⟨by omega, by omega, ptAt_of haq ⟨q, h27.ext.cel hcq, ?_⟩⟩
        refine (in_w (hR0.ext h27.ext) hgl q).mono ?_
        rintro v w37 ⟨rfl, rfl⟩
        refine ⟨_, rfl, sp_of (fun hq1 => ?_) (fun hq1 => hno (fun hh => by rw [hq1] at hh; cases hh.1))⟩
        obtain ⟨hq0, hqn⟩ := has_lt hg hq1
        obtain ⟨idq, hidq⟩ := at_some (l := ids) (j := q.toNat) (by rw [hM.il]; exact hqn)
        refine ⟨hq0, by omega, ptAt_of rfl ⟨_, _, _, ML.out hM2 h27 hidq, by omega, by omega, ptAt_of rfl ⟨D2.at_ q.toNat k, ML.get hM2 h27 hidq hkn, sp_of (fun hx1 => ?_) (fun hx1 => hno (fun hh => by rw [hh.2.1] at hx1; cases hx1))⟩⟩⟩
        refine ⟨by omega, by omega, ptAt_of rfl ⟨_, _, _, ML.out hM2 h27 hid, by omega, by omega, ptAt_of rfl ⟨D2.at_ b k, ML.get hM2 h27 hid hkn, sp_of (fun hx2 => ?_) (fun hx2 => hno (fun hh => by rw [hh.2.2] at hx2; cases hx2))⟩⟩⟩
        refine ⟨by omega, by omega, ptAt_of rfl ⟨_, _, _, ML.out hM2 h27 hid, by omega, by omega, ptAt_of rfl ?_⟩⟩
        have hx1' : D2.at_ q.toNat k = false := by simpa using hx1
        rw [if_pos ⟨hq1, hx1', hx2⟩] at hin
        obtain ⟨id', row, hid', hrow, hrl, hgd2, hL, hset⟩ := ML.at_ (F := F) (bo := bo) hM2 hb
        rw [hid] at hid'; cases hid'
        refine stp h27 (F.length + 1 + b) hL (by simp; omega) rfl fun w56 h56 => ?_
        have hsB := setB (xs := row) (i := k) false (by omega)
        simp only [Int.toNat_natCast] at h56
        rw [hsB, hset] at h56
        have hclr : D2.clr b k = D2.set b (row.set k false) := by unfold Mat.clr; rw [hgd2]
        rw [← hclr] at h56
        exact hK30 _ _ ⟨nq - (u + 1), by omega, u + 1, D2.clr b k, wrap_succ (by omega), by omega, rfl, h56, ML.clr_ok hM2 b k, hin⟩
      · rw [List.drop_of_length_le (by omega), domIn] at hin
        rw [← hin] at hc
        exact hK13 _ _ ⟨n - (k + 1), by omega, k + 1, D2, wrap_succ (by simp only [maxLen]; omega), by omega, rfl, h27, hM2, hc⟩
    refine ⟨by omega, by omega, ptAt_of rfl ⟨_, _, _, ML.out hM1 h10 hid, by omega, by omega, ptAt_of rfl ⟨D1.at_ b k, ML.get hM1 h10 hid hkn, sp_of (fun hx => hskip (.inl (by simpa using hx))) (fun hx => sp_dec (fun hkb => hskip (.inr (by omega))) (fun hkb => hgo ?_))⟩⟩⟩
    rintro (h1 | h1)
    · rw [h1] at hx; cases hx
    · omega
  · have : k = n := by omega
    subst this
    rw [Nat.sub_self, domCols] at hc
    rw [← hc]
    exact ⟨rfl, h10, hM1⟩
theorem slRows : slT Pg 115 75 1 24 = true := by kernel_rfl
theorem zRow : (zeroOf Pg 75).map (·.cells) = some #[.slice none 0 0] := by kernel_rfl
def domRow (g : Gr) (n b : Nat) : List Bool := (List.range n).map fun (k : Nat) => g.has (b : Int) && (decide (0 < b) || decide (k = 0))
theorem domInit_eq (g : Gr) (n : Nat) : domInit g n = (List.range n).map (domRow g n) := rfl
theorem range_take_succ {n j : Nat} (h : j < n) : (List.range n).take (j + 1) = (List.range n).take j ++ [j] := by
  rw [List.take_add_one, List.getElem?_range h]; rfl
theorem doms_w {g : Gr} (hg : GOk n g) {p : Option Addr} (hR : RdG w p g) (hn : n ≤ lim) {fin : Mat} (hgo : ∃ k, domGo g n k (domInit g n) = some fin) :
    CallP Pg 34 [.pointer p] w fun v w' => ∃ bo ids, v = .slice (some ⟨bo, 0, none⟩) n n ∧ Hp w w' (ML bo n ids fin) ∧ MOk n ids fin := by
  obtain ⟨fuel, hgo⟩ := hgo
  simp only [lim] at hn
  have hgl : g.reach.length = g.outs.length := by rw [hg.rl, hg.ol]
  refine F34_ok _ ?_
  unfold F34
  refine (len_w hR).mono ?_
  rintro v w3 ⟨rfl, rfl⟩
  rw [hg.ol]
  refine ⟨_, rfl, ?_⟩
  obtain ⟨bo, w6, hm, h6⟩ := make_run slRows zRow (Hp.refl w3) n (by omega) (by simp only [maxLen]; omega)
  refine ⟨_, _, _, w6, hm, ?_⟩
  refine ⟨fun i w' c => ∃ (j : Nat) (ids : List Nat), i = j ∧ j ≤ n ∧ c = n - j ∧ ids.length = j ∧
      Hp w3 w' ((bo, Cl 75 (ids.map (fun b => Value.slice (some ⟨b, 0, none⟩) n n) ++ List.replicate (n - j) (.slice none 0 0))) :: ids.zip (((List.range n).take j).map fun b => Cl 4 ((domRow g n b).map .bool))),
    ⟨n, 0, [], rfl, by omega, by omega, rfl, h6⟩, ?_⟩
  rintro i w9 c ⟨j, ids, rfl, hj, rfl, hil, h9⟩
  refine sp_dec (fun hlt => ?_) (fun hge => ?_)
  · have hjn : j < n := by omega
    obtain ⟨br, w13, hm2, h13⟩ := make_run slBools zBool h9 n (by omega) (by simp only [maxLen]; omega)
    refine ⟨_, _, _, w13, hm2, by omega, by omega, ptAt_of rfl ?_⟩
    refine stp h13 1 rfl (by simp [hil]; omega) rfl fun w16 h16 => ?_
    have hrow : splice (ids.map (fun b => Value.slice (some ⟨b, 0, none⟩) n n) ++ List.replicate (n - j) (.slice none 0 0)) (0 + (j : Int).toNat * 1) [.slice (some ⟨br, 0, none⟩) n n] =
        (ids ++ [br]).map (fun b => Value.slice (some ⟨b, 0, none⟩) n n) ++ List.replicate (n - (j + 1)) (.slice none 0 0) := by
      have := set_splice (fun v : Value => v) (ids.map (fun b => Value.slice (some ⟨b, 0, none⟩) n n) ++ List.replicate (n - j) (.slice none 0 0)) j (.slice (some ⟨br, 0, none⟩) n n) (by simp [hil]; omega)
      simp only [List.map_id'] at this
      rw [show 0 + (j : Int).toNat * 1 = j by omega, this, List.set_append_right _ _ (by simp [hil])]
      simp only [List.length_map, hil, Nat.sub_self]
      rw [show n - j = (n - (j + 1)) + 1 by omega, List.replicate_succ, List.set_cons_zero]
      simp
    rw [hrow] at h16
    have hout : ∀ {w' X}, Hp w3 w' (X :: (bo, Cl 75 ((ids ++ [br]).map (fun b => Value.slice (some ⟨b, 0, none⟩) n n) ++ List.replicate (n - (j + 1)) (.slice none 0 0))) :: ids.zip (((List.range n).take j).map fun b => Cl 4 ((domRow g n b).map .bool))) → cel w' bo (0 + (j : Int).toNat * 1) = some (.slice (some ⟨br, 0, none⟩) n n) := by
      intro w' X h'
      refine h'.cl 1 rfl ?_
      rw [show 0 + (j : Int).toNat * 1 = j by omega, List.getElem?_append_left (by simp [hil]), List.getElem?_map, List.getElem?_append_right (by omega), hil, Nat.sub_self]
      rfl
    refine ⟨by omega, by omega, ptAt_of rfl ⟨_, _, _, hout h16, ?_⟩⟩
    refine ⟨fun i w' c => ∃ (k : Nat), i = k ∧ k ≤ n ∧ c = n - k ∧ Hp w3 w' ((br, Cl 4 (((domRow g n j).take k ++ List.replicate (n - k) false).map .bool)) :: (bo, Cl 75 ((ids ++ [br]).map (fun b => Value.slice (some ⟨b, 0, none⟩) n n) ++ List.replicate (n - (j + 1)) (.slice none 0 0))) :: ids.zip (((List.range n).take j).map fun b => Cl 4 ((domRow g n b).map .bool))),
      ⟨n, 0, rfl, by omega, by omega, by simpa using h16⟩, ?_⟩
    rintro i w22 c ⟨k, rfl, hk, rfl, h22⟩
    have hdl : (domRow g n j).length = n := by simp [domRow]
    refine sp_dec (fun hlt2 => ?_) (fun hge2 => ?_)
    · intro K25 hK25
      have hkn : k < n := by omega
      have hd := h22.drew
      have hval : (domRow g n j)[k]? = some (g.has (j : Int) && (decide (0 < j) || decide (k = 0))) := by
        unfold domRow; rw [List.getElem?_map, List.getElem?_range hkn]; rfl
      have hfin : ∀ x, x = (g.has (j : Int) && (decide (0 < j) || decide (k = 0))) → StP br (0 + (k : Int).toNat * 1) [.bool x] w22.drew fun w35 => K25 w35 := by
        intro x hx
        refine stp hd 0 rfl (by simp [hdl]; omega) rfl fun w35 h35 => hK25 _ ⟨n - (k + 1), by omega, k + 1, wrap_succ (by simp only [maxLen]; omega), by omega, rfl, ?_⟩
        have hB := setB (xs := (domRow g n j).take k ++ List.replicate (n - k) false) (i := k) x (by simp [hdl]; omega)
        simp only [Int.toNat_natCast] at h35
        rw [hB] at h35
        have hs : ((domRow g n j).take k ++ List.replicate (n - k) false).set k x = (domRow g n j).take (k + 1) ++ List.replicate (n - (k + 1)) false := by
          rw [List.set_append_right _ _ (by simp; omega)]
          simp only [List.length_take, hdl, Nat.min_eq_left (Nat.le_of_lt hkn), Nat.sub_self]
          rw [show n - k = (n - (k + 1)) + 1 by omega, List.replicate_succ, List.set_cons_zero, List.take_add_one, hval, hx]
          simp
        rw [hs] at h35
        exact h35
      refine ⟨by omega, by omega, ptAt_of rfl ⟨_, _, _, hout hd, ?_⟩⟩
      refine (in_w (hR.ext hd.ext) hgl (j : Int)).mono ?_
      rintro v w31 ⟨rfl, rfl⟩
      refine ⟨_, rfl, Ext.refl _, sp_of (fun h1 => sp_dec (fun h2 => ⟨by omega, by omega, ptAt_of rfl (hfin _ ?_)⟩) (fun h2 => ⟨by omega, by omega, ptAt_of rfl (hfin _ ?_)⟩)) (fun h1 => ⟨by omega, by omega, ptAt_of rfl (hfin _ ?_)⟩)⟩
      · rw [h1]; simp; omega
      · rw [h1, Bool.true_and, show decide (0 < j) = false by simp; omega, Bool.false_or]
        exact decide_eq_decide.2 ⟨fun h => by omega, fun h => by omega⟩
      · rw [h1]; rfl
    · have hkn : k = n := by omega
      rw [List.take_of_length_le (by omega), hkn, Nat.sub_self, List.replicate_zero, List.append_nil] at h22
      refine ⟨n - (j + 1), by omega, j + 1, ids ++ [br], wrap_succ (by simp only [maxLen]; omega), by omega, rfl, by simp [hil], ?_⟩
      have e : (((List.range n).take (j + 1)).map fun b => Cl 4 ((domRow g n b).map .bool)) = (((List.range n).take j).map fun b => Cl 4 ((domRow g n b).map .bool)) ++ [Cl 4 ((domRow g n j).map .bool)] := by
        rw [range_take_succ hjn, List.map_append]; rfl
      rw [e, List.zip_append (by simp [hil]; omega)]
      refine h22.perm ?_
      exact (List.perm_append_singleton _ _).symm
  · have hjn : j = n := by omega
    subst hjn
    rw [Nat.sub_self, List.replicate_zero, List.append_nil, List.take_of_length_le (by simp)] at h9
    have h9 : Hp w3 w9 ([] ++ ML bo j ids (domInit g j)) := by
      unfold ML
      rw [domInit_eq, List.map_map]
      exact h9
    have hM : MOk j ids (domInit g j) := ⟨hil, by simp [domInit], fun r hr => by
      rw [domInit_eq] at hr
      obtain ⟨b, -, rfl⟩ := List.mem_map.1 hr
      simp [domRow]⟩
    refine ⟨fun t w' m => ∃ D, Hp w3 w' ([] ++ ML bo j ids D) ∧ MOk j ids D ∧ (if t then domGo g j m D = some fin else D = fin), ⟨fuel, domInit g j, h9, hM, hgo⟩, ?_⟩
    clear h9 hM hgo
    rintro t w44 m ⟨D, h44, hM, hgo⟩
    refine sp_of (fun ht => ?_) (fun ht => ?_)
    · rw [if_pos ht] at hgo
      obtain ⟨m, rfl⟩ : ∃ k, m = k + 1 := by
        cases m with
        | zero => simp [domGo] at hgo
        | succ k => exact ⟨k, rfl⟩
      rw [domGo] at hgo
      obtain ⟨tgt, htgt⟩ : ∃ t, t = domRows g j (j - 1) 1 (D, false) := ⟨_, rfl⟩
      simp only [← htgt] at hgo
      refine ⟨fun t i w' c => ∃ (b : Nat) (D' : Mat), i = b ∧ 1 ≤ b ∧ c = j - b ∧ Hp w3 w' ([] ++ ML bo j ids D') ∧ MOk j ids D' ∧ tgt = domRows g j (j - b) b (D', t), ⟨j - 1, 1, D, rfl, by omega, by omega, h44, hM, htgt⟩, ?_⟩
      rintro t i w50 c ⟨b, D1, rfl, hb1, rfl, h50, hM1, htg⟩
      refine sp_dec (fun hlt => ?_) (fun hge => ?_)
      · intro K53 hK53
        rw [show j - b = (j - (b + 1)) + 1 by omega, domRows] at htg
        refine (in_w (hR.ext h50.ext) hgl (b : Int)).mono ?_
        rintro v w57 ⟨rfl, rfl⟩
        refine ⟨_, rfl, sp_of (fun hin => ?_) (fun hin => ?_)⟩
        · rw [if_pos hin] at htg
          refine (fmeet_w hg (hR) (F := []) h50 hM1 (by omega) (by omega)).mono ?_
          rintro v w60 ⟨rfl, h60, hM2⟩
          refine ⟨_, rfl, sp_of (fun hx => hK53 _ _ ⟨j - (b + 1), by omega, b + 1, _, wrap_succ (by simp only [maxLen]; omega), by omega, rfl, h60, hM2, ?_⟩) (fun hx => hK53 _ _ ⟨j - (b + 1), by omega, b + 1, _, wrap_succ (by simp only [maxLen]; omega), by omega, rfl, h60, hM2, ?_⟩)⟩
          · simp only [hx, Bool.true_or] at htg; exact htg
          · simp only [hx, Bool.false_or] at htg; exact htg
        · rw [if_neg (by rw [hin]; decide)] at htg
          exact hK53 _ _ ⟨j - (b + 1), by omega, b + 1, D1, wrap_succ (by simp only [maxLen]; omega), by omega, rfl, h50, hM1, htg⟩
      · rw [show j - b = 0 by omega, domRows] at htg
        rw [htg] at hgo
        refine ⟨m, by omega, D1, h50, hM1, ?_⟩
        cases t with
        | true => simpa using hgo
        | false => simp only [Bool.false_eq_true, if_false] at hgo ⊢; exact Option.some.inj hgo
    · rw [if_neg (by rw [ht]; decide)] at hgo
      subst hgo
      exact ⟨bo, ids, rfl, h44, hM⟩
end
end Go.Pl.Try

/- What '(*palings/flow.Graph).loop' does, read off its translation by gen.py. -/
namespace Go.Pl.Try
set_option linter.unusedVariables false
set_option maxRecDepth 100000
def F38 (g1 : Option Addr) (top2 : Int) (back3 : Int) (w : World) (R : Value → World → Prop) : Prop :=
  CallP Pg 35 [.pointer g1] w fun v4 w5 => ∃ (x6 : Int), v4 = .int .i64 x6 ∧
  ∃ (ax7 : Option Addr) (nx7 cx7 : Nat), ∃ w8 : World, Sem.run Pg (Instr.makeSlice 75 (.int .i64 x6) (.int .i64 x6)) w5 = .ok (.slice ax7 nx7 cx7) w8 ∧
  0 ≤ (top2 : Int) ∧ (top2 : Int) < (nx7 : Nat) ∧
  ptAt ax7 fun b9 o10 =>
  StP b9 (o10 + top2.toNat * 1) [.bool true] w8 fun w11 =>
  AlP 3 [.int .i64 back3] w11 fun b12 w13 =>
  ∃ J14 : Option Addr → Nat → Nat → World → Nat → Prop, (∃ m17, J14 (some ⟨b12, 0, none⟩) 1 1 w13 m17) ∧
  ∀ (atodo15 : Option Addr) (ntodo15 ctodo15 : Nat), ∀ w16 m17, J14 atodo15 ntodo15 ctodo15 w16 m17 →
  sp (decide ((0 : Int) < (ntodo15 : Nat)))
  (∀ K19 : Option Addr → Nat → Nat → World → Prop, (∀ (atodo20 : Option Addr) (ntodo20 ctodo20 : Nat), ∀ w21, (
  ∃ m18, m18 < m17 ∧ J14 atodo20 ntodo20 ctodo20 w21 m18) → K19 atodo20 ntodo20 ctodo20 w21) →
  0 ≤ (IntKind.wrap .i64 ((ntodo15 : Nat) - 1) : Int) ∧ (IntKind.wrap .i64 ((ntodo15 : Nat) - 1) : Int) < (ntodo15 : Nat) ∧
  ptAt atodo15 fun b22 o23 =>
  ∃ (x24 : Int), cel w16 b22 (o23 + (IntKind.wrap .i64 ((ntodo15 : Nat) - 1)).toNat * 1) = some (.int .i64 x24) ∧
  ∃ (ax25 : Option Addr) (nx25 cx25 : Nat), Sem.run Pg (Instr.sliceAt 34 (.slice atodo15 ntodo15 ctodo15) none (some (.int .i64 (IntKind.wrap .i64 ((ntodo15 : Nat) - 1)))) none) w16 = .ok (.slice ax25 nx25 cx25) w16 ∧
  ∀ K26 : World → Prop, (∀ w27, (
  0 ≤ (x24 : Int) ∧ (x24 : Int) < (nx7 : Nat) ∧
  ptAt ax7 fun b28 o29 =>
  StP b28 (o29 + x24.toNat * 1) [.bool true] w27 fun w30 =>
  ptAt g1 fun b31 o32 =>
  ∃ (ax33 : Option Addr) (nx33 cx33 : Nat), cel w30 b31 (o32 + 1) = some (.slice ax33 nx33 cx33) ∧
  0 ≤ (x24 : Int) ∧ (x24 : Int) < (nx33 : Nat) ∧
  ptAt ax33 fun b34 o35 =>
  ∃ (ax36 : Option Addr) (nx36 cx36 : Nat), cel w30 b34 (o35 + x24.toNat * 1) = some (.slice ax36 nx36 cx36) ∧
  ∃ (ax37 : Option Addr) (nx37 cx37 : Nat), ∃ w38 : World, Sem.run Pg (Builtin.append_ #[34, 34] 34 ⟨[.slice ax25 nx25 cx25, .slice ax36 nx36 cx36]⟩) w30 = .ok (.slice ax37 nx37 cx37) w38 ∧
  K19 ax37 nx37 cx37 w38) → K26 w27) →
  0 ≤ (x24 : Int) ∧ (x24 : Int) < (nx7 : Nat) ∧
  ptAt ax7 fun b39 o40 =>
  ∃ (x41 : Bool), cel w16 b39 (o40 + x24.toNat * 1) = some (.bool x41) ∧
  sp x41
  (K19 ax25 nx25 cx25 w16)
  (CallP Pg 37 [.pointer g1, .int .i64 x24] w16 fun v42 w43 => ∃ (x44 : Bool), v42 = .bool x44 ∧
  sp (!x44)
  (K19 ax25 nx25 cx25 w43)
  (K26 w43)))
  (R (.slice ax7 nx7 cx7) w16)
def T38 : List Sh := [.v (.one .ptr), .v (.one (.int .i64)), .v (.one (.int .i64)), .v (.one .any), .v (.one .any), .v (.one .any), .v (.one .sl), .v (.one .sl), .v (.one .sl), .v (.one (.int .i64)), .v (.one .ptr), .v (.one (.int .i64)), .v (.one .sl), .v (.one .sl), .v (.one (.int .i64)), .v (.one .ptr), .v (.one (.int .i64)), .v (.one .sl), .v (.one .sl), .v (.one (.int .i64)), .v (.one .bool), .v (.one .sl), .v (.one .sl), .v (.one (.int .i64)), .v (.one (.int .i64)), .v (.one .ptr), .v (.one (.int .i64)), .v (.one .sl), .v (.one .sl), .v (.one (.int .i64)), .v (.one (.int .i64)), .v (.one .sl), .v (.one .sl), .v (.one (.int .i64)), .v (.one .ptr), .v (.one .bool), .v (.one .bool), .v (.one .ptr), .v (.one (.int .i64)), .v (.one .bool), .v (.one .bool), .v (.one .bool), .v (.one .sl), .v (.one (.int .i64)), .v (.one .ptr), .v (.one .sl), .v (.one .ptr), .v (.one .ptr), .v (.one .ptr), .v (.one .sl), .v (.one (.int .i64)), .v (.one .ptr), .v (.one .sl), .v (.one .sl), .v (.one .sl)]
def A38 : Ann := (.seq none .z (.seq none .z (.seq none .z (.seq none .z (.seq none (.block none (.loop [8] (.seq none (.seq none .z (.cond .z .z)) (.block (some [8]) (.seq none .z (.seq none .z (.seq (some []) (.ifs none none .z .z) (.seq none .z .z)))))))) (.seq none .z .z))))))
theorem F38_eq (g1 : Option Addr) (top2 : Int) (back3 : Int) (w : World) (R : Value → World → Prop) : F38 g1 top2 back3 w R = denF Go.Proofs.Try.prog T38 Go.Proofs.Try.f38 A38 [.pointer g1, .int .i64 top2, .int .i64 back3] w R := by kernel_rfl
theorem F38_ok (g1 : Option Addr) (top2 : Int) (back3 : Int) {w : World} {R : Value → World → Prop} (h : F38 g1 top2 back3 w R) : CallP Go.Proofs.Try.prog 38 [.pointer g1, .int .i64 top2, .int .i64 back3] w R :=
  calls_den (fun _ => drawn (by kernel_rfl)) Go.Proofs.Try.func38 (Nat.le_of_ble_eq_true (by kernel_rfl)) ((F38_eq g1 top2 back3 w R).mp h)
end Go.Pl.Try

/- What '(*palings/flow.Graph).Depths' does, read off its translation by gen.py. -/
namespace Go.Pl.Try
set_option linter.unusedVariables false
set_option maxRecDepth 100000
def F14 (x1 : Option Addr) (w : World) (R : Value → World → Prop) : Prop :=
  CallP Pg 34 [.pointer x1] w fun v2 w3 => ∃ (ax4 : Option Addr) (nx4 cx4 : Nat), v2 = .slice ax4 nx4 cx4 ∧
  CallP Pg 35 [.pointer x1] w3 fun v5 w6 => ∃ (x7 : Int), v5 = .int .i64 x7 ∧
  ∃ (ax8 : Option Addr) (nx8 cx8 : Nat), ∃ w9 : World, Sem.run Pg (Instr.makeSlice 34 (.int .i64 x7) (.int .i64 x7)) w6 = .ok (.slice ax8 nx8 cx8) w9 ∧
  ∃ J10 : Int → World → Nat → Prop, (∃ m13, J10 0 w9 m13) ∧
  ∀ (x11 : Int), ∀ w12 m13, J10 x11 w12 m13 →
  sp (decide ((x11 : Int) < (nx8 : Nat)))
  (CallP Pg 35 [.pointer x1] w12 fun v15 w16 => ∃ (x17 : Int), v15 = .int .i64 x17 ∧
  ∃ (ax18 : Option Addr) (nx18 cx18 : Nat), ∃ w19 : World, Sem.run Pg (Instr.makeSlice 75 (.int .i64 x17) (.int .i64 x17)) w16 = .ok (.slice ax18 nx18 cx18) w19 ∧
  CallP Pg 36 [.pointer x1, .int .i64 x11] w19 fun v20 w21 => ∃ (ax22 : Option Addr) (nx22 cx22 : Nat), v20 = .slice ax22 nx22 cx22 ∧
  ∃ J23 : Int → World → Nat → Prop, (∃ m26, J23 0 w21 m26) ∧
  ∀ (x24 : Int), ∀ w25 m26, J23 x24 w25 m26 →
  sp (decide ((x24 : Int) < (nx22 : Nat)))
  (∀ K28 : World → Prop, (∀ w29, (
  ∃ m27, m27 < m26 ∧ J23 (IntKind.wrap .i64 (x24 + 1)) w29 m27) → K28 w29) →
  0 ≤ (x24 : Int) ∧ (x24 : Int) < (nx22 : Nat) ∧
  ptAt ax22 fun b30 o31 =>
  ∃ (x32 : Int), cel w25 b30 (o31 + x24.toNat * 1) = some (.int .i64 x32) ∧
  ∀ K33 : World → Prop, (∀ w34, (
  CallP Pg 38 [.pointer x1, .int .i64 x11, .int .i64 x32] w34 fun v35 w36 => ∃ (ax37 : Option Addr) (nx37 cx37 : Nat), v35 = .slice ax37 nx37 cx37 ∧
  ∃ J38 : Int → World → Nat → Prop, (∃ m41, J38 0 w36 m41) ∧
  ∀ (x39 : Int), ∀ w40 m41, J38 x39 w40 m41 →
  sp (decide ((x39 : Int) < (nx37 : Nat)))
  (∀ K43 : World → Prop, (∀ w44, (
  ∃ m42, m42 < m41 ∧ J38 (IntKind.wrap .i64 (x39 + 1)) w44 m42) → K43 w44) →
  0 ≤ (x39 : Int) ∧ (x39 : Int) < (nx37 : Nat) ∧
  ptAt ax37 fun b45 o46 =>
  ∃ (x47 : Bool), cel w40 b45 (o46 + x39.toNat * 1) = some (.bool x47) ∧
  0 ≤ (x39 : Int) ∧ (x39 : Int) < (nx18 : Nat) ∧
  ptAt ax18 fun b48 o49 =>
  ∃ (x50 : Bool), cel w40 b48 (o49 + x39.toNat * 1) = some (.bool x50) ∧
  sp x50
  (0 ≤ (x39 : Int) ∧ (x39 : Int) < (nx18 : Nat) ∧
  ptAt ax18 fun b51 o52 =>
  StP b51 (o52 + x39.toNat * 1) [.bool true] w40 fun w53 =>
  K43 w53)
  (0 ≤ (x39 : Int) ∧ (x39 : Int) < (nx18 : Nat) ∧
  ptAt ax18 fun b54 o55 =>
  StP b54 (o55 + x39.toNat * 1) [.bool x47] w40 fun w56 =>
  K43 w56))
  (K28 w40)) → K33 w34) →
  CallP Pg 37 [.pointer x1, .int .i64 x32] w25 fun v57 w58 => ∃ (x59 : Bool), v57 = .bool x59 ∧
  sp (!x59)
  (K28 w58)
  (0 ≤ (x32 : Int) ∧ (x32 : Int) < (nx4 : Nat) ∧
  ptAt ax4 fun b60 o61 =>
  ∃ (ax62 : Option Addr) (nx62 cx62 : Nat), cel w58 b60 (o61 + x32.toNat * 1) = some (.slice ax62 nx62 cx62) ∧
  0 ≤ (x11 : Int) ∧ (x11 : Int) < (nx62 : Nat) ∧
  ptAt ax62 fun b63 o64 =>
  ∃ (x65 : Bool), cel w58 b63 (o64 + x11.toNat * 1) = some (.bool x65) ∧
  sp (!x65)
  (K28 w58)
  (K33 w58)))
  (∃ J66 : Int → World → Nat → Prop, (∃ m69, J66 0 w25 m69) ∧
  ∀ (x67 : Int), ∀ w68 m69, J66 x67 w68 m69 →
  sp (decide ((x67 : Int) < (nx18 : Nat)))
  (∀ K71 : World → Prop, (∀ w72, (
  ∃ m70, m70 < m69 ∧ J66 (IntKind.wrap .i64 (x67 + 1)) w72 m70) → K71 w72) →
  0 ≤ (x67 : Int) ∧ (x67 : Int) < (nx18 : Nat) ∧
  ptAt ax18 fun b73 o74 =>
  ∃ (x75 : Bool), cel w68 b73 (o74 + x67.toNat * 1) = some (.bool x75) ∧
  sp x75
  (0 ≤ (x67 : Int) ∧ (x67 : Int) < (nx8 : Nat) ∧
  ptAt ax8 fun b76 o77 =>
  ∃ (x78 : Int), cel w68 b76 (o77 + x67.toNat * 1) = some (.int .i64 x78) ∧
  0 ≤ (x67 : Int) ∧ (x67 : Int) < (nx8 : Nat) ∧
  ptAt ax8 fun b79 o80 =>
  StP b79 (o80 + x67.toNat * 1) [.int .i64 (IntKind.wrap .i64 (x78 + 1))] w68 fun w81 =>
  K71 w81)
  (K71 w68))
  (∃ m14, m14 < m13 ∧ J10 (IntKind.wrap .i64 (x11 + 1)) w68 m14)))
  (R (.slice ax8 nx8 cx8) w12)
def T14 : List Sh := [.v (.one .ptr), .v (.one .any), .v (.one .sl), .v (.one .sl), .v (.one .sl), .v (.one (.int .i64)), .v (.one .sl), .v (.one .any), .v (.one (.int .i64)), .v (.one (.int .i64)), .v (.one .bool), .v (.one (.int .i64)), .v (.one .bool), .v (.one .ptr), .v (.one .sl), .v (.one .ptr), .v (.one (.int .i64)), .v (.one .sl), .v (.one .sl), .v (.one (.int .i64)), .v (.one (.int .i64)), .v (.one .bool), .v (.one (.int .i64)), .v (.one .ptr), .v (.one (.int .i64)), .v (.one .sl), .v (.one .ptr), .v (.one (.int .i64)), .v (.one .sl), .v (.one (.int .i64)), .v (.one (.int .i64)), .v (.one .bool), .v (.one .ptr), .v (.one (.int .i64)), .v (.one .ptr), .v (.one (.int .i64)), .v (.one .bool), .v (.one .bool), .v (.one .bool), .v (.one .sl), .v (.one (.int .i64)), .v (.one .ptr), .v (.one .sl), .v (.one (.int .i64)), .v (.one .ptr), .v (.one .bool), .v (.one .bool), .v (.one .bool), .v (.one .ptr), .v (.one (.int .i64)), .v (.one (.int .i64)), .v (.one .sl), .v (.one (.int .i64)), .v (.one (.int .i64)), .v (.one .bool), .v (.one (.int .i64)), .v (.one .ptr), .v (.one .bool), .v (.one .sl), .v (.one (.int .i64)), .v (.one .sl), .v (.one (.int .i64)), .v (.one .ptr), .v (.one .bool), .v (.one .bool), .v (.one .bool), .v (.one .bool), .v (.one .ptr), .v (.one (.int .i64)), .v (.one (.int .i64)), .v (.one .sl), .v (.one (.int .i64)), .v (.one (.int .i64)), .v (.one .bool), .v (.one (.int .i64)), .v (.one .ptr), .v (.one .bool), .v (.one .bool), .v (.one .sl), .v (.one (.int .i64)), .v (.one .ptr), .v (.one (.int .i64)), .v (.one (.int .i64)), .v (.one .ptr), .v (.one (.int .i64)), .v (.one (.int .i64)), .v (.one .sl)]
def A14 : Ann := (.seq none .z (.seq none .z (.seq none .z (.seq none (.seq none .z (.block none (.loop [20] (.seq none .z (.seq none (.cond .z .z) (.seq none (.block none (.seq none .z (.seq none .z (.seq none (.seq none .z (.block none (.loop [30] (.seq none .z (.seq none (.cond .z .z) (.seq none (.block (some []) (.seq none .z (.seq (some []) (.ifs none none .z .z) (.seq none .z (.block none (.loop [53] (.seq none .z (.seq none (.cond .z .z) (.seq none (.block (some []) (.seq none .z .z)) .z))))))))) .z)))))) (.seq none .z (.block none (.loop [72] (.seq none .z (.seq none (.cond .z .z) (.seq none (.block (some []) (.seq none .z (.seq none .z (.cond .z .z)))) .z)))))))))) .z)))))) (.seq none .z .z)))))
theorem F14_eq (x1 : Option Addr) (w : World) (R : Value → World → Prop) : F14 x1 w R = denF Go.Proofs.Try.prog T14 Go.Proofs.Try.f14 A14 [.pointer x1] w R := by kernel_rfl
theorem F14_ok (x1 : Option Addr) {w : World} {R : Value → World → Prop} (h : F14 x1 w R) : CallP Go.Proofs.Try.prog 14 [.pointer x1] w R :=
  calls_den (fun _ => drawn (by kernel_rfl)) Go.Proofs.Try.func14 (Nat.le_of_ble_eq_true (by kernel_rfl)) ((F14_eq x1 w R).mp h)
end Go.Pl.Try

/- Loops and depths: walked. -/
namespace Go.Pl.M
theorem loopGo_snoc (g : Gr) (k : Nat) (out : List Bool) (rest : List Int) (l : Int) :
    loopGo g (k + 1) out (rest ++ [l]) = if out.getD l.toNat false = true ∨ g.has l = false then loopGo g k out rest else loopGo g k (out.set l.toNat true) (rest ++ g.ins.getD l.toNat []) := by
  cases rest with
  | nil => rfl
  | cons r rs =>
    rw [List.cons_append, loopGo]
    simp only [← List.cons_append, List.dropLast_concat]
    rw [show (r :: rs ++ [l]).getLast (by simp) = l from List.getLast_concat]
theorem loopGo_len (g : Gr) : ∀ (k : Nat) (out : List Bool) (todo : List Int) (r : List Bool), loopGo g k out todo = some r → todo.length < k
  | 0, _, _, _, h => by simp [loopGo] at h
  | k + 1, out, [], r, _ => by simp
  | k + 1, out, t :: todo, r, h => by
    rw [loopGo] at h
    have hl : ((t :: todo).dropLast).length = todo.length := by simp
    split at h
    · have := loopGo_len g k _ _ _ h
      rw [hl] at this
      simp; omega
    · have := loopGo_len g k _ _ _ h
      rw [List.length_append, hl] at this
      simp; omega
end Go.Pl.M
namespace Go.Pl.Try
open M
set_option linter.unusedVariables false
theorem loop_w {w : World} {g : Gr} {n : Nat} (hg : GOk n g) {p : Option Addr} (hR : RdG w p g) (hn : n ≤ lim) (hin : ∀ xs ∈ g.ins, ∀ x ∈ xs, 0 ≤ x ∧ x < (n : Int)) (hsz : ∀ xs ∈ g.ins, xs.length ≤ 4294967296) {top : Nat} (ht : top < n) {back : Int} (hb : 0 ≤ back ∧ back < (n : Int)) {fin : List Bool}
    (hgo : ∃ k, k ≤ 4294967296 ∧ loopGo g k ((List.replicate n false).set top true) [back] = some fin) :
    CallP Pg 38 [.pointer p, .int .i64 top, .int .i64 back] w fun v w' => ∃ b, v = .slice (some ⟨b, 0, none⟩) n n ∧ Hp w w' [(b, Cl 4 (fin.map .bool))] ∧ fin.length = n := by
  obtain ⟨fuel, hfuel, hgo⟩ := hgo
  simp only [lim] at hn
  have hgl : g.reach.length = g.outs.length := by rw [hg.rl, hg.ol]
  have hR0 := hR
  obtain ⟨gb, go, ao, no, co, ai, ni, ci, ar, nr, cr, rfl, hg1, hg2, hg3, hg4, hg5, hg6⟩ := hR
  have hni := hg5.len
  rw [hg.il] at hni
  refine F38_ok _ _ _ ?_
  unfold F38
  refine (len_w hR0).mono ?_
  rintro v w3 ⟨rfl, rfl⟩
  rw [hg.ol]
  refine ⟨_, rfl, ?_⟩
  obtain ⟨bo, w8, hm, h8⟩ := make_run slBools zBool (Hp.refl w3) n (by omega) (by simp only [maxLen]; omega)
  refine ⟨_, _, _, w8, hm, by omega, by omega, ptAt_of rfl ?_⟩
  refine stp h8 0 rfl (by simp; omega) rfl fun w11 h11 => ?_
  have hB := setB (xs := List.replicate n false) (i := top) true (by simpa using ht)
  rw [List.map_replicate] at hB
  simp only [Int.toNat_natCast, hB] at h11
  refine alp h11 fun b12 w13 h13 => ?_
  refine ⟨fun a nn c w' m => ∃ (out : List Bool) (todo : List Int) (r : Rw), Sls 1 a nn c (todo.map (Value.int .i64)) r ∧ Hp w3 w' ([(bo, Cl 4 (out.map .bool))] ++ (r.L 3 (todo.map (Value.int .i64)) ++ [])) ∧ out.length = n ∧ (∀ x ∈ todo, 0 ≤ x ∧ x < (n : Int)) ∧ m ≤ 4294967296 ∧ loopGo g m out todo = some fin,
    ⟨fuel, (List.replicate n false).set top true, [back], .at b12 [] [], ⟨rfl, rfl, rfl, by simp only [maxLen]; omega, Nat.le_refl _⟩, h13.perm (List.Perm.swap _ _ _), by simp, by simpa using hb, hfuel, hgo⟩, ?_⟩
  rintro a nn c w16 m ⟨out, todo, r, hs, h16, hol, htd, hmf, hgo⟩
  have hnn := hs.n_eq
  rw [List.length_map] at hnn
  refine sp_dec (fun hlt => ?_) (fun hge => ?_)
  · intro K19 hK19
    obtain ⟨rest, l, rfl⟩ : ∃ rest l, todo = rest ++ [l] := by
      have hne : todo ≠ [] := by intro e; subst e; simp at hnn; omega
      exact ⟨todo.dropLast, todo.getLast hne, (List.dropLast_concat_getLast hne).symm⟩
    obtain ⟨m, rfl⟩ : ∃ k, m = k + 1 := by
      cases m with
      | zero => simp [loopGo] at hgo
      | succ k => exact ⟨k, rfl⟩
    have hbig := loopGo_len _ _ _ _ _ hgo
    rw [loopGo_snoc] at hgo
    simp only [List.length_append, List.length_cons, List.length_nil] at hnn hbig
    have hwr : IntKind.wrap .i64 ((nn : Nat) - 1 : Int) = (rest.length : Nat) := by rw [wrap_in (by omega) (by omega)]; omega
    rw [hwr]
    obtain ⟨hl0, hln⟩ := htd l (by simp)
    obtain ⟨bt, ot, hat, hct⟩ := hs.cel_at [_] h16 (j := rest.length) (v := .int .i64 l) (by simp)
    subst hat
    refine ⟨by omega, by omega, ptAt_of rfl ⟨l, by simpa using hct, ?_⟩⟩
    obtain ⟨r2, hrun, hs2, h2⟩ := head_run (k := rest.length) slInts hs [_] h16 (by omega)
    have htk : ((rest ++ [l]).map (Value.int .i64)).take (rest.length * 1) = rest.map (Value.int .i64) := by simp
    rw [htk] at hs2 h2
    refine ⟨_, _, _, hrun, ?_⟩
    intro K26 hK26
    obtain ⟨x, hx⟩ := at_some (l := out) (j := l.toNat) (by omega)
    have hxd : out.getD l.toNat false = x := by rw [List.getD_eq_getElem?_getD, hx]; rfl
    rw [hxd] at hgo
    have hskip : (x = true ∨ g.has l = false) → K19 (some ⟨bt, ot, none⟩) rest.length c w16 := by
      intro hsk
      rw [if_pos hsk] at hgo
      exact hK19 _ _ _ _ ⟨m, by omega, out, rest, r2, hs2, h2, hol, fun y hy => htd y (by simp [hy]), by omega, hgo⟩
    refine ⟨by omega, by omega, ptAt_of rfl ⟨x, h16.cl 0 rfl (by simp [hx]), sp_of (fun hxt => hskip (.inl hxt)) (fun hxt => ?_)⟩⟩
    refine (in_w (hR0.ext h16.ext) hgl l).mono ?_
    rintro v w43 ⟨rfl, rfl⟩
    refine ⟨_, rfl, sp_of (fun hh => hskip (.inr (by simpa using hh))) (fun hh => ?_)⟩
    have hh' : g.has l = true := by simpa using hh
    rw [if_neg (by
      rintro (e | e)
      · rw [hxt] at e; cases e
      · rw [hh'] at e; cases e)] at hgo
    obtain ⟨qs, hqs⟩ := at_some (l := g.ins) (j := l.toNat) (by rw [hg.il]; omega)
    have hgd : g.ins.getD l.toNat [] = qs := by rw [List.getD_eq_getElem?_getD, hqs]; rfl
    rw [hgd] at hgo
    obtain ⟨bi, oi, aq, nq, cq, hai, hci, hrq⟩ := RdII.at hg5 hqs
    have hql := hrq.len
    have hqsz := hsz qs (List.mem_of_getElem? hqs)
    refine hK26 _ ⟨by omega, by omega, ptAt_of rfl ?_⟩
    refine stp h2 0 rfl (by simp; omega) rfl fun w30 h30 => ptAt_of rfl ⟨_, _, _, h30.ext.cel hg2, by omega, by omega, ptAt_of hai ⟨aq, nq, cq, h30.ext.cel hci, ?_⟩⟩
    have hB2 := setB (xs := out) (i := l.toNat) true (by omega)
    simp only [hB2] at h30
    obtain ⟨a', c', w38, r', happ, hs38, h38⟩ := app2 (ty := 34) slInts (by omega) hs2 [_] h30 (srcI (RdI.ext hrq h30.ext)) (one_ints qs) (by simp only [maxLen]; omega) (by omega) (cx := cq)
    refine ⟨_, _, _, w38, happ, hK19 _ _ _ _ ⟨m, by omega, out.set l.toNat true, rest ++ qs, r', ?_, ?_, by simpa using hol, ?_, by omega, hgo⟩⟩
    · rw [List.map_append]; exact hs38
    · rw [List.map_append]; exact h38
    · intro y hy
      rcases List.mem_append.1 hy with h1 | h1
      · exact htd y (by simp [h1])
      · exact hin qs (List.mem_of_getElem? hqs) y h1
  · have : todo = [] := List.eq_nil_of_length_eq_zero (by omega)
    subst this
    cases m with
    | zero => simp [loopGo] at hgo
    | succ m =>
      simp only [loopGo, Option.some.injEq] at hgo
      subst hgo
      exact ⟨bo, rfl, h16.sub (by simp), hol⟩
end Go.Pl.Try

/- What '(*palings/taint.solver).raise' does, read off its translation by gen.py. -/
namespace Go.Pl.Try
set_option linter.unusedVariables false
set_option maxRecDepth 100000
def F62 (s1 : Option Addr) (l2 : Option Addr) (to3 : Int) (w : World) (R : Value → World → Prop) : Prop :=
  ptAt l2 fun b4 o5 =>
  ∃ (x6 : Int), cel w b4 o5 = some (.int .i64 x6) ∧
  sp (decide ((x6 : Int) < to3))
  (ptAt l2 fun b7 o8 =>
  StP b7 o8 [.int .i64 to3] w fun w9 =>
  ptAt s1 fun b10 o11 =>
  StP b10 (o11 + 8) [.bool true] w9 fun w12 =>
  R (.tuple ⟨[]⟩) w12)
  (R (.tuple ⟨[]⟩) w)
def T62 : List Sh := [.v (.one .ptr), .v (.one .ptr), .v (.one (.int .i64)), .v (.one .any), .v (.one .any), .v (.one .any), .v (.one .ptr), .v (.one .ptr), .v (.one (.int .i64)), .v (.one (.int .i64)), .v (.one .bool), .v (.one .ptr), .v (.one (.int .i64)), .v (.one .ptr), .v (.one .ptr), .v (.one .ptr), .v (.one .ptr)]
def A62 : Ann := (.seq none .z (.cond (.seq none .z .z) .z))
theorem F62_eq (s1 : Option Addr) (l2 : Option Addr) (to3 : Int) (w : World) (R : Value → World → Prop) : F62 s1 l2 to3 w R = denF Go.Proofs.Try.prog T62 Go.Proofs.Try.f62 A62 [.pointer s1, .pointer l2, .int .i64 to3] w R := by kernel_rfl
theorem F62_ok (s1 : Option Addr) (l2 : Option Addr) (to3 : Int) {w : World} {R : Value → World → Prop} (h : F62 s1 l2 to3 w R) : CallP Go.Proofs.Try.prog 62 [.pointer s1, .pointer l2, .int .i64 to3] w R :=
  calls_den (fun _ => drawn (by kernel_rfl)) Go.Proofs.Try.func62 (Nat.le_of_ble_eq_true (by kernel_rfl)) ((F62_eq s1 l2 to3 w R).mp h)
end Go.Pl.Try

/- What '(*palings/taint.solver).val' does, read off its translation by gen.py. -/
namespace Go.Pl.Try
set_option linter.unusedVariables false
set_option maxRecDepth 100000
def F61 (s1 : Option Addr) (f2 : Int) (v3 : Int) (to4 : Int) (w : World) (R : Value → World → Prop) : Prop :=
  ∀ K5 : Int → World → Prop, (∀ (to6 : Int), ∀ w7, (
  ptAt s1 fun b8 o9 =>
  ∃ (ax10 : Option Addr) (nx10 cx10 : Nat), cel w7 b8 (o9 + 3) = some (.slice ax10 nx10 cx10) ∧
  0 ≤ (f2 : Int) ∧ (f2 : Int) < (nx10 : Nat) ∧
  ptAt ax10 fun b11 o12 =>
  ∃ (x13 : Option Nat), cel w7 b11 (o12 + f2.toNat * 1) = some (.map x13) ∧
  ∃ (x14 : Int), Sem.run Pg (Instr.lookup 80 (.map x13) (.int .i64 v3) false) w7 = .ok (.int .i64 x14) w7 ∧
  AlP 79 [.int .i64 0] w7 fun b15 w16 =>
  StP b15 0 [.int .i64 x14] w16 fun w17 =>
  CallP Pg 62 [.pointer s1, .pointer (some ⟨b15, 0, none⟩), .int .i64 to6] w17 fun v18 w19 => v18 = .tuple ⟨[]⟩ ∧
  ptAt s1 fun b20 o21 =>
  ∃ (ax22 : Option Addr) (nx22 cx22 : Nat), cel w19.drew b20 (o21 + 3) = some (.slice ax22 nx22 cx22) ∧
  0 ≤ (f2 : Int) ∧ (f2 : Int) < (nx22 : Nat) ∧
  ptAt ax22 fun b23 o24 =>
  ∃ (x25 : Option Nat), cel w19.drew b23 (o24 + f2.toNat * 1) = some (.map x25) ∧
  ∃ (x26 : Int), cel w19.drew b15 0 = some (.int .i64 x26) ∧
  ∃ w27 : World, Sem.run Pg (Instr.mapUpdate 80 (.map x25) (.int .i64 v3) (.int .i64 x26)) w19.drew = .ok () w27 ∧
  R (.tuple ⟨[]⟩) w27) → K5 to6 w7) →
  ptAt s1 fun b28 o29 =>
  ∃ (ax30 : Option Addr) (nx30 cx30 : Nat), cel w b28 (o29 + 3 + 3) = some (.slice ax30 nx30 cx30) ∧
  0 ≤ (f2 : Int) ∧ (f2 : Int) < (nx30 : Nat) ∧
  ptAt ax30 fun b31 o32 =>
  ∃ (x33 : Option Nat), cel w b31 (o32 + f2.toNat * 1) = some (.map x33) ∧
  ∃ (x34 : Bool), Sem.run Pg (Instr.lookup 56 (.map x33) (.int .i64 v3) false) w = .ok (.bool x34) w ∧
  sp x34
  (CallP Pg 63 [.int .i64 to4] w fun v35 w36 => ∃ (x37 : Int), v35 = .int .i64 x37 ∧
  K5 x37 w36)
  (K5 to4 w)
def T61 : List Sh := [.v (.one .ptr), .v (.one (.int .i64)), .v (.one (.int .i64)), .v (.one (.int .i64)), .v (.one .any), .v (.one .any), .v (.one .any), .v (.one .any), .v (.one .ptr), .v (.one .ptr), .v (.one .ptr), .v (.one .ptr), .v (.one .ptr), .v (.one .sl), .v (.one (.int .i64)), .v (.one .ptr), .v (.one .map), .v (.one (.int .i64)), .v (.one .bool), .v (.one (.int .i64)), .v (.one (.int .i64)), .v (.one .ptr), .v (.one .ptr), .v (.one .ptr), .v (.one .ptr), .v (.one .sl), .v (.one (.int .i64)), .v (.one .ptr), .v (.one .map), .v (.one (.int .i64)), .v (.one (.int .i64)), .v (.one .ptr), .v (.one (.int .i64)), .t [], .v (.one .ptr), .v (.one .ptr), .v (.one .ptr), .v (.one .ptr), .v (.one .sl), .v (.one (.int .i64)), .v (.one .ptr), .v (.one .map), .v (.one (.int .i64)), .v (.one (.int .i64))]
def A61 : Ann := (.seq (some [3]) (.seq none .z (.cond .z .z)) (.seq none .z (.seq none .z (.dr [0, 0, 0, 0, 1, 0, 0, 1, 0, 1, 3] [0, 1, 2, 3, 4, 5, 6, 7, 8, 9, 10]))))
theorem F61_eq (s1 : Option Addr) (f2 : Int) (v3 : Int) (to4 : Int) (w : World) (R : Value → World → Prop) : F61 s1 f2 v3 to4 w R = denF Go.Proofs.Try.prog T61 Go.Proofs.Try.f61 A61 [.pointer s1, .int .i64 f2, .int .i64 v3, .int .i64 to4] w R := by kernel_rfl
theorem F61_ok (s1 : Option Addr) (f2 : Int) (v3 : Int) (to4 : Int) {w : World} {R : Value → World → Prop} (h : F61 s1 f2 v3 to4 w R) : CallP Go.Proofs.Try.prog 61 [.pointer s1, .int .i64 f2, .int .i64 v3, .int .i64 to4] w R :=
  calls_den (fun _ => drawn (by kernel_rfl)) Go.Proofs.Try.func61 (Nat.le_of_ble_eq_true (by kernel_rfl)) ((F61_eq s1 f2 v3 to4 w R).mp h)
end Go.Pl.Try

/- What '(*palings/taint.solver).of' does, read off its translation by gen.py. -/
namespace Go.Pl.Try
set_option linter.unusedVariables false
set_option maxRecDepth 100000
def F80 (s1 : Option Addr) (f2 : Int) (alist3 : Option Addr) (nlist3 clist3 : Nat) (w : World) (R : Value → World → Prop) : Prop :=
  ∃ J4 : Int → Int → World → Nat → Prop, (∃ m8, J4 0 0 w m8) ∧
  ∀ (out5 : Int) (x6 : Int), ∀ w7 m8, J4 out5 x6 w7 m8 →
  sp (decide ((x6 : Int) < (nlist3 : Nat)))
  (0 ≤ (x6 : Int) ∧ (x6 : Int) < (nlist3 : Nat) ∧
  ptAt alist3 fun b10 o11 =>
  ∃ (x12 : Int), cel w7 b10 (o11 + x6.toNat * 1) = some (.int .i64 x12) ∧
  ptAt s1 fun b13 o14 =>
  ∃ (ax15 : Option Addr) (nx15 cx15 : Nat), cel w7 b13 (o14 + 3) = some (.slice ax15 nx15 cx15) ∧
  0 ≤ (f2 : Int) ∧ (f2 : Int) < (nx15 : Nat) ∧
  ptAt ax15 fun b16 o17 =>
  ∃ (x18 : Option Nat), cel w7 b16 (o17 + f2.toNat * 1) = some (.map x18) ∧
  ∃ (x19 : Int), Sem.run Pg (Instr.lookup 80 (.map x18) (.int .i64 x12) false) w7 = .ok (.int .i64 x19) w7 ∧
  ∃ m9, m9 < m8 ∧ J4 (mxI out5 x19) (IntKind.wrap .i64 (x6 + 1)) w7 m9)
  (R (.int .i64 out5) w7)
def T80 : List Sh := [.v (.one .ptr), .v (.one (.int .i64)), .v (.one .sl), .v (.one .any), .v (.one .any), .v (.one .any), .v (.one (.int .i64)), .v (.one (.int .i64)), .v (.one .any), .v (.one (.int .i64)), .v (.one .sl), .v (.one (.int .i64)), .v (.one (.int .i64)), .v (.one .bool), .v (.one .ptr), .v (.one (.int .i64)), .v (.one (.int .i64)), .v (.one .ptr), .v (.one .ptr), .v (.one .ptr), .v (.one .ptr), .v (.one .sl), .v (.one (.int .i64)), .v (.one .ptr), .v (.one .map), .v (.one (.int .i64)), .v (.one (.int .i64)), .v (.one (.int .i64)), .v (.one (.int .i64)), .v (.one (.int .i64))]
def A80 : Ann := (.seq none .z (.seq none .z (.seq none (.seq none .z (.block none (.loop [7, 12] (.seq none .z (.seq none (.cond .z .z) (.seq none (.block none (.seq none .z .z)) .z)))))) (.seq none .z .z))))
theorem F80_eq (s1 : Option Addr) (f2 : Int) (alist3 : Option Addr) (nlist3 clist3 : Nat) (w : World) (R : Value → World → Prop) : F80 s1 f2 alist3 nlist3 clist3 w R = denF Go.Proofs.Try.prog T80 Go.Proofs.Try.f80 A80 [.pointer s1, .int .i64 f2, .slice alist3 nlist3 clist3] w R := by kernel_rfl
theorem F80_ok (s1 : Option Addr) (f2 : Int) (alist3 : Option Addr) (nlist3 clist3 : Nat) {w : World} {R : Value → World → Prop} (h : F80 s1 f2 alist3 nlist3 clist3 w R) : CallP Go.Proofs.Try.prog 80 [.pointer s1, .int .i64 f2, .slice alist3 nlist3 clist3] w R :=
  calls_den (fun _ => drawn (by kernel_rfl)) Go.Proofs.Try.func80 (Nat.le_of_ble_eq_true (by kernel_rfl)) ((F80_eq s1 f2 alist3 nlist3 clist3 w R).mp h)
end Go.Pl.Try
