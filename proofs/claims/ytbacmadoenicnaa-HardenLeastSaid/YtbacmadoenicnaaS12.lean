/- Joined texts of the proof, part 12: WFlow3, Mem5, F13, WFlow4, F48, F78, WHard1, F46. -/
import Derived.Test.YtbacmadoenicnaaS11
set_option maxRecDepth 2000
set_option linter.unusedVariables false
set_option linter.unusedSimpArgs false
set_option linter.unusedSectionVars false
/- Depths: walked. -/
namespace Go.Pl.Try
open M
set_option linter.unusedVariables false
theorem ins_own {p : Option Addr} {g : Gr} {w0 w : World} (h : RdG w0 p g) (hx0 : Ext w0 w) (hl : g.ins.length = g.outs.length) (hs : ∀ xs ∈ g.ins, xs.length ≤ 4294967296) (i : Nat) :
    CallP Pg 36 [.pointer p, .int .i64 i] w fun v w' => ∃ a' n' c' L, v = .slice a' n' c' ∧ Hp w w' L ∧ ∀ w2, Owns w2 L → RdI w2 a' n' (g.ins.getD i []) := by
  refine F36_ok _ _ ?_
  intro K0 hK0 K hK
  refine sp_dec (fun h0 => by omega) (fun h0 => ?_)
  refine (len_w (h.ext hx0)).mono ?_
  rintro v w' ⟨rfl, rfl⟩
  refine ⟨_, rfl, sp_dec (fun hlt => hK _ ⟨none, 0, 0, [], rfl, Hp.refl _, fun w2 _ => ?_⟩) (fun hlt => ?_)⟩
  · rw [List.getD_eq_getElem?_getD, List.getElem?_eq_none (by omega)]; exact RdS.nil _ _ _ _
  obtain ⟨b, o, ao, no, co, ai, ni, ci, ar, nr, cr, rfl, h1, h2, h3, h4, h5, h6⟩ := h.ext hx0
  obtain ⟨x, hx⟩ := at_some (l := g.ins) (j := i) (by omega)
  obtain ⟨bb, ob, a', n', c', ha, hc, hr⟩ := h5.at hx
  have hsz := hs _ (List.mem_of_getElem? hx)
  obtain ⟨a2, c2, w2, r2, hrun, hs2, h2'⟩ := copy_own (c := c') hr (by rw [← hr.len]; exact hsz)
  refine hK0 _ (ptAt_of rfl ⟨_, _, _, h2, by omega, by rw [← h5.len]; omega, ptAt_of ha ⟨_, _, _, by simpa using hc, _, _, _, w2, hrun, a2, n', c2, _, rfl, h2', fun w3 ho => ?_⟩⟩)
  rw [List.getD_eq_getElem?_getD, hx]
  exact rdI_owns hs2 ho
def intsD (l : List Nat) : List Value := l.map fun (d : Nat) => Value.int .i64 (d : Int)
theorem zipIdx_step {α β γ : Type} (f : α → β → γ) {a : List α} {b : List β} {k : Nat} {x : α} {y : β} (hx : a[k]? = some x) (hy : b[k]? = some y) : (List.zipWith f a b)[k]? = some (f x y) := by
  rw [List.getElem?_zipWith, hx, hy]
/-- A list that turns into another one, place by place. -/
theorem turn_at {α : Type} {old new : List α} {k : Nat} {x y : α} (hl : old.length = new.length) (hx : old[k]? = some x) (hy : new[k]? = some y) :
    (new.take k ++ old.drop k)[k]? = some x ∧ (new.take k ++ old.drop k).set k y = new.take (k + 1) ++ old.drop (k + 1) ∧ (new.take k ++ old.drop k).length = old.length := by
  have hk := (List.getElem?_eq_some_iff.1 hx).1
  have hlen : (new.take k).length = k := by rw [List.length_take]; omega
  refine ⟨?_, ?_, ?_⟩
  · rw [List.getElem?_append_right (by omega), hlen, Nat.sub_self, drop_cons hx]; rfl
  · rw [List.set_append_right _ _ (by omega), hlen, Nat.sub_self, drop_cons hx, List.set_cons_zero, List.take_add_one, hy]
    simp
  · simp; omega
theorem depths_w {w : World} {g : Gr} {n : Nat} (hg : GOk n g) {p : Option Addr} (hR : RdG w p g) (hn : n ≤ lim) (hin : ∀ xs ∈ g.ins, ∀ x ∈ xs, 0 ≤ x ∧ x < (n : Int)) (hsz : ∀ xs ∈ g.ins, xs.length ≤ 4294967296)
    (hd : ∃ k, domGo g n k (domInit g n) = some g.doms) (hlp : ∀ top b, top < n → 0 ≤ b → b < (n : Int) → ∃ k, k ≤ 4294967296 ∧ loopGo g k ((List.replicate n false).set top true) [b] = some (loopOf g top b)) :
    CallP Pg 14 [.pointer p] w fun v w' => ∃ b, v = .slice (some ⟨b, 0, none⟩) n n ∧ Hp w w' [(b, Cl 3 (intsD g.depths))] ∧ g.depths.length = n := by
  have hn' := hn
  simp only [lim] at hn
  have hgl : g.ins.length = g.outs.length := by rw [hg.il, hg.ol]
  have hgr : g.reach.length = g.outs.length := by rw [hg.rl, hg.ol]
  refine F14_ok _ ?_
  unfold F14
  refine (doms_w hg hR hn' hd).mono ?_
  rintro v w3 ⟨bo, ids, rfl, h3, hM⟩
  refine ⟨_, _, _, rfl, ?_⟩
  refine (len_w (hR.ext h3.ext)).mono ?_
  rintro v w6 ⟨rfl, rfl⟩
  rw [hg.ol]
  refine ⟨_, rfl, ?_⟩
  obtain ⟨bt, w9, hm, h9⟩ := make_run slInts zInt h3 n (by omega) (by simp only [maxLen]; omega)
  refine ⟨_, _, _, w9, hm, ?_⟩
  have hfin : g.depths = depthGo g g.doms n 0 (List.replicate n 0) := by rw [Gr.depths, hg.ol]
  refine ⟨fun i w' c => ∃ (top : Nat) (out : List Nat), i = top ∧ top ≤ n ∧ c = n - top ∧ Hp w w' ([(bt, Cl 3 (intsD out))] ++ ML bo n ids g.doms) ∧ out.length = n ∧ (∀ d ∈ out, d ≤ top) ∧ depthGo g g.doms (n - top) top out = g.depths,
    ⟨n, 0, List.replicate n 0, rfl, by omega, by omega, by simpa [intsD] using h9, by simp, fun d hd => by have := List.eq_of_mem_replicate hd; omega, by rw [hfin]; rfl⟩, ?_⟩
  rintro i w12 c ⟨top, out, rfl, htop, rfl, h12, hol, hle, hgo⟩
  refine sp_dec (fun hlt => ?_) (fun hge => ?_)
  · have htn : top < n := by omega
    rw [show n - top = (n - (top + 1)) + 1 by omega, depthGo] at hgo
    refine (len_w (hR.ext h12.ext)).mono ?_
    rintro v w16 ⟨rfl, rfl⟩
    rw [hg.ol] at hgo ⊢
    refine ⟨_, rfl, ?_⟩
    obtain ⟨bi, w19, hm2, h19⟩ := make_run slBools zBool h12 n (by omega) (by simp only [maxLen]; omega)
    refine ⟨_, _, _, w19, hm2, ?_⟩
    refine (ins_own hR h19.ext hgl hsz top).mono ?_
    rintro v w21 ⟨aq, nq, cq, LQ, rfl, h21', hrd⟩
    have h21 := h19.call h21'
    refine ⟨_, _, _, rfl, ?_⟩
    obtain ⟨qs, hqs⟩ : ∃ l, l = g.ins.getD top [] := ⟨_, rfl⟩
    rw [← hqs] at hrd hgo
    have hqmem : qs ∈ g.ins := by
      obtain ⟨x, hx⟩ := at_some (l := g.ins) (j := top) (by rw [hg.il]; exact htn)
      rw [hqs, List.getD_eq_getElem?_getD, hx]; exact List.mem_of_getElem? hx
    have hrd21 := hrd w21 fun p hp => (h21'.own p hp).2
    have hql := hrd21.len
    have hqle := hrd21.le
    obtain ⟨tgt, htgt⟩ : ∃ t, t = depthIn g g.doms top qs (List.replicate n false) := ⟨_, rfl⟩
    rw [← htgt] at hgo
    refine ⟨fun i w' c => ∃ (u : Nat) (l : List Bool), i = u ∧ u ≤ nq ∧ c = nq - u ∧ Hp w w' ((LQ ++ [(bi, Cl 4 (l.map .bool)), (bt, Cl 3 (intsD out))]) ++ ML bo n ids g.doms) ∧ l.length = n ∧ tgt = depthIn g g.doms top (qs.drop u) l,
      ⟨nq, 0, List.replicate n false, rfl, by omega, by omega, by rw [List.append_assoc, List.map_replicate]; exact h21, by simp, htgt⟩, ?_⟩
    rintro i w25 c ⟨u, l, rfl, hu, rfl, h25, hll, htg⟩
    refine sp_dec (fun hlt2 => ?_) (fun hge2 => ?_)
    · intro K28 hK28
      obtain ⟨q, hq⟩ := at_some (l := qs) (j := u) (by omega)
      obtain ⟨hq0, hqn⟩ := hin qs hqmem q (List.mem_of_getElem? hq)
      rw [drop_cons hq, depthIn] at htg
      obtain ⟨bq, oq, haq, hcq⟩ := RdI.at (hrd w25 (h25.owns fun p hp => by simp [hp])) hq
      have hskip : (g.has q = false ∨ Mat.at_ g.doms q.toNat top = false) → K28 w25 := by
        intro hs
        rw [if_pos hs] at htg
        exact hK28 _ ⟨nq - (u + 1), by omega, u + 1, l, wrap_succ (by omega), by omega, rfl, h25, hll, htg⟩
      refine ⟨by omega, by omega, ptAt_of haq ⟨q, hcq, ?_⟩⟩
      intro K33 hK33
      have hgo33 : ¬ (g.has q = false ∨ Mat.at_ g.doms q.toNat top = false) → K33 w25 := by
        intro hs
        rw [if_neg hs] at htg
        refine hK33 _ ?_
        refine (loop_w hg (hR.ext h25.ext) hn' hin hsz htn ⟨hq0, hqn⟩ (hlp top q htn hq0 hqn)).mono ?_
        rintro v w36 ⟨bl, rfl, h36', hlpl⟩
        have h36 := h25.call h36'
        refine ⟨_, _, _, rfl, ?_⟩
        have horl : (orL l (loopOf g top q)).length = n := by unfold orL; rw [List.length_zipWith]; omega
        refine ⟨fun i w' c => ∃ (k : Nat), i = k ∧ k ≤ n ∧ c = n - k ∧ Hp w w' (((bl, Cl 4 ((loopOf g top q).map .bool)) :: (LQ ++ [(bi, Cl 4 (((orL l (loopOf g top q)).take k ++ l.drop k).map .bool)), (bt, Cl 3 (intsD out))])) ++ ML bo n ids g.doms),
          ⟨n, 0, rfl, by omega, by omega, by simpa using h36⟩, ?_⟩
        rintro i w40 c ⟨k, rfl, hk, rfl, h40⟩
        refine sp_dec (fun hlt3 => ?_) (fun hge3 => ?_)
        · intro K43 hK43
          obtain ⟨x, hx⟩ := at_some (l := l) (j := k) (by omega)
          obtain ⟨y, hy⟩ := at_some (l := loopOf g top q) (j := k) (by omega)
          obtain ⟨ht1, ht2, ht3⟩ := turn_at (new := orL l (loopOf g top q)) (by rw [horl, hll]) hx (zipIdx_step (· || ·) hx hy)
          change ((orL l (loopOf g top q)).take k ++ l.drop k).set k (x || y) = (orL l (loopOf g top q)).take (k + 1) ++ l.drop (k + 1) at ht2
          have hL : (((bl, Cl 4 ((loopOf g top q).map .bool)) :: (LQ ++ [(bi, Cl 4 (((orL l (loopOf g top q)).take k ++ l.drop k).map .bool)), (bt, Cl 3 (intsD out))])) ++ ML bo n ids g.doms : List (Nat × Obj))[LQ.length + 1]? = some (bi, Cl 4 (((orL l (loopOf g top q)).take k ++ l.drop k).map .bool)) := by
            rw [List.cons_append, List.getElem?_cons_succ, List.append_assoc, List.getElem?_append_right (Nat.le_refl _), Nat.sub_self]; rfl
          have hset : ∀ o, (((bl, Cl 4 ((loopOf g top q).map .bool)) :: (LQ ++ [(bi, Cl 4 (((orL l (loopOf g top q)).take k ++ l.drop k).map .bool)), (bt, Cl 3 (intsD out))])) ++ ML bo n ids g.doms : List (Nat × Obj)).set (LQ.length + 1) (bi, o) = ((bl, Cl 4 ((loopOf g top q).map .bool)) :: (LQ ++ [(bi, o), (bt, Cl 3 (intsD out))])) ++ ML bo n ids g.doms := by
            intro o
            rw [List.cons_append, List.set_cons_succ, List.append_assoc, List.set_append_right _ _ (Nat.le_refl _), Nat.sub_self]
            simp
          have key : ∀ z, z = (x || y) → StP bi (0 + (k : Int).toNat * 1) [.bool z] w40 fun w53 => K43 w53 := by
            intro z hz
            refine stp h40 (LQ.length + 1) hL (by simp; omega) rfl fun w53 h53 => hK43 _ ⟨n - (k + 1), by omega, k + 1, wrap_succ (by simp only [maxLen]; omega), by omega, rfl, ?_⟩
            have hB := setB (xs := (orL l (loopOf g top q)).take k ++ l.drop k) (i := k) z (by rw [ht3, hll]; omega)
            simp only [Int.toNat_natCast] at h53
            rw [hB, hset, hz, ht2] at h53
            exact h53
          refine ⟨by omega, by omega, ptAt_of rfl ⟨y, h40.cl 0 rfl (by simp [hy]), by omega, by omega, ptAt_of rfl ⟨x, h40.cl _ hL (by simp only [Int.toNat_natCast, Nat.zero_add, Nat.mul_one]; rw [List.getElem?_map, ht1]; rfl), sp_of (fun hxt => ⟨by omega, by omega, ptAt_of rfl (key _ (by rw [hxt]; rfl))⟩) (fun hxt => ⟨by omega, by omega, ptAt_of rfl (key _ (by rw [hxt]; rfl))⟩)⟩⟩⟩
        · have hkn : k = n := by omega
          rw [List.take_of_length_le (by omega), List.drop_of_length_le (by omega), List.append_nil] at h40
          exact hK28 _ ⟨nq - (u + 1), by omega, u + 1, orL l (loopOf g top q), wrap_succ (by omega), by omega, rfl, h40.drop 1, horl, htg⟩
      refine (in_w (hR.ext h25.ext) hgr q).mono ?_
      rintro v w58 ⟨rfl, rfl⟩
      refine ⟨_, rfl, sp_of (fun hh => hskip (.inl (by simpa using hh))) (fun hh => ?_)⟩
      obtain ⟨idq, hidq⟩ := at_some (l := ids) (j := q.toNat) (by rw [hM.il]; omega)
      refine ⟨hq0, hqn, ptAt_of rfl ⟨_, _, _, ML.out hM h25 hidq, by omega, by omega, ptAt_of rfl ⟨Mat.at_ g.doms q.toNat top, ML.get hM h25 hidq htn, sp_of (fun hx => hskip (.inr (by simpa using hx))) (fun hx => hgo33 ?_)⟩⟩⟩
      rintro (e | e)
      · rw [e] at hh; cases hh
      · rw [e] at hx; cases hx
    · rw [List.drop_of_length_le (by omega), depthIn] at htg
      subst htg
      have hzl : (List.zipWith (fun (d : Nat) (i : Bool) => if i then d + 1 else d) out tgt).length = n := by rw [List.length_zipWith]; omega
      have h26 : Hp w w25 ([(bi, Cl 4 (tgt.map .bool)), (bt, Cl 3 (intsD out))] ++ ML bo n ids g.doms) := by
        rw [List.append_assoc] at h25
        have := h25.drop LQ.length
        rw [List.drop_left] at this
        exact this
      obtain ⟨nw, hnw⟩ : ∃ l, l = List.zipWith (fun (d : Nat) (i : Bool) => if i then d + 1 else d) out tgt := ⟨_, rfl⟩
      rw [← hnw] at hzl hgo
      refine ⟨fun i w' c => ∃ (k : Nat), i = k ∧ k ≤ n ∧ c = n - k ∧ Hp w w' ([(bi, Cl 4 (tgt.map .bool)), (bt, Cl 3 (intsD (nw.take k ++ out.drop k)))] ++ ML bo n ids g.doms),
        ⟨n, 0, rfl, by omega, by omega, by simpa using h26⟩, ?_⟩
      rintro i w68 c ⟨k, rfl, hk, rfl, h68⟩
      refine sp_dec (fun hlt3 => ?_) (fun hge3 => ?_)
      · intro K71 hK71
        obtain ⟨x, hx⟩ := at_some (l := tgt) (j := k) (by omega)
        obtain ⟨d, hdk⟩ := at_some (l := out) (j := k) (by omega)
        have hnk : nw[k]? = some (if x then d + 1 else d) := by rw [hnw]; exact zipIdx_step _ hdk hx
        obtain ⟨ht1, ht2, ht3⟩ := turn_at (by rw [hzl, hol]) hdk hnk
        have hdle := hle d (List.mem_of_getElem? hdk)
        refine ⟨by omega, by omega, ptAt_of rfl ⟨x, h68.cl 0 rfl (by simp [hx]), sp_of (fun hxt => ?_) (fun hxt => ?_)⟩⟩
        · refine ⟨by omega, by omega, ptAt_of rfl ⟨(d : Nat), h68.cl 1 rfl (by simp only [Int.toNat_natCast, Nat.zero_add, Nat.mul_one, intsD]; rw [List.getElem?_map, ht1]; rfl), by omega, by omega, ptAt_of rfl ?_⟩⟩
          refine stp h68 1 rfl (by simp [intsD]; omega) rfl fun w81 h81 => hK71 _ ⟨n - (k + 1), by omega, k + 1, wrap_succ (by simp only [maxLen]; omega), by omega, rfl, ?_⟩
          rw [hxt] at ht2
          have hB := set_splice (fun (d : Nat) => Value.int .i64 (d : Int)) (nw.take k ++ out.drop k) k (d + 1) (by omega)
          rw [wrap_succ (by simp only [maxLen]; omega)] at h81
          have e : splice (intsD (nw.take k ++ out.drop k)) (0 + (k : Int).toNat * 1) [.int .i64 ((d + 1 : Nat) : Int)] = intsD (nw.take (k + 1) ++ out.drop (k + 1)) := by
            rw [show 0 + (k : Int).toNat * 1 = k by omega]
            unfold intsD
            rw [hB]
            simp only [if_true] at ht2
            rw [ht2]
          rw [e] at h81
          exact h81
        · rw [hxt] at ht2
          have hsame : (nw.take k ++ out.drop k).set k d = nw.take k ++ out.drop k := by
            apply List.ext_getElem?
            intro j
            rw [List.getElem?_set]
            split
            · rename_i e1; subst e1; rw [if_pos (by omega), ht1]
            · rfl
          simp only [Bool.false_eq_true, if_false] at ht2
          refine hK71 _ ⟨n - (k + 1), by omega, k + 1, wrap_succ (by simp only [maxLen]; omega), by omega, rfl, ?_⟩
          rw [← ht2, hsame]; exact h68
      · have hkn : k = n := by omega
        rw [List.take_of_length_le (by omega), List.drop_of_length_le (by omega), List.append_nil] at h68
        refine ⟨n - (top + 1), by omega, top + 1, nw, wrap_succ (by simp only [maxLen]; omega), by omega, rfl, h68.drop 1, hzl, fun d hd => ?_, hgo⟩
        obtain ⟨j, hj⟩ := List.mem_iff_getElem?.1 hd
        rw [hnw, List.getElem?_zipWith] at hj
        cases ho : out[j]? with
        | none => rw [ho] at hj; cases hj
        | some a =>
          cases ht : tgt[j]? with
          | none => rw [ho, ht] at hj; cases hj
          | some b =>
            rw [ho, ht] at hj
            simp only [Option.some.injEq] at hj
            have := hle a (List.mem_of_getElem? ho)
            subst hj
            split <;> omega
  · have : top = n := by omega
    subst this
    rw [Nat.sub_self, depthGo] at hgo
    subst hgo
    exact ⟨bt, rfl, h12.sub (by simp), hol⟩
end Go.Pl.Try

/- Rows: a slice of slices of whole numbers, each appended to by itself; blocks that may turn. -/
namespace Go.Pl
set_option linter.unusedVariables false
section
variable {w0 w w1 : World} {F L L' : List (Nat × Obj)}
/-- What may turn: all but what stood ahead, and some blocks of the call's own. -/
def Xf (w0 : World) (F : List (Nat × Obj)) : Nat → Prop := fun b => w0.heap.size ≤ b ∧ ∀ p ∈ F, p.1 ≠ b
theorem Xf.mem {p : Nat × Obj} (h : p ∈ F) : ¬ Xf w0 F p.1 := fun hx => hx.2 p h rfl
theorem Xf.at_ {i b : Nat} {o : Obj} (h : F[i]? = some (b, o)) : ¬ Xf w0 F b := Xf.mem (List.mem_of_getElem? h)
theorem Xf.old {b : Nat} (h : b < w0.heap.size) : ¬ Xf w0 F b := fun hx => by have := hx.1; omega
theorem Hp.xf (h : Hp w0 w L) (h' : Hp w0 w1 L') (hF : ∀ p ∈ F, p ∈ L) (hF' : ∀ p ∈ F, p ∈ L') : ExtX (Xf w0 F) w w1 := by
  refine ⟨fun b hb hx => ?_⟩
  by_cases hlt : b < w0.heap.size
  · rw [h'.ext.blk b hlt, h.ext.blk b hlt]
  · by_cases hm : ∃ p ∈ F, p.1 = b
    · obtain ⟨p, hp, rfl⟩ := hm
      rw [(h.own p (hF p hp)).2, (h'.own p (hF' p hp)).2]
    · exact absurd ⟨by omega, fun p hp e => hm ⟨p, hp, e⟩⟩ hx
theorem Hp.sel (h : Hp w0 w L) (hs : ∀ p ∈ L', p ∈ L) (hn : (L'.map Prod.fst).Nodup) : Hp w0 w L' := ⟨h.ext, hn, fun p hp => h.own p (hs p hp)⟩
structure RowV where
  a : Option Addr
  n : Nat
  c : Nat
  r : Rw
def RowV.val (s : RowV) : Value := .slice s.a s.n s.c
def RowV.emp : RowV := ⟨none, 0, 0, .emp⟩
def RowV.Ok (size : Nat) (s : RowV) (vs : List Value) : Prop := Sls size s.a s.n s.c vs s.r
abbrev ints (l : List Int) : List Value := l.map (Value.int .i64)
def rowsL (e : TypeId) : List RowV → List (List Int) → List (Nat × Obj)
  | s :: ss, l :: ls => s.r.L e (ints l) ++ rowsL e ss ls
  | _, _ => []
structure RowsOk (ss : List RowV) (ls : List (List Int)) : Prop where
  len : ss.length = ls.length
  ok : ∀ (i : Nat) (s : RowV) (l : List Int), ss[i]? = some s → ls[i]? = some l → s.Ok 1 (ints l)
theorem rowsL_split (e : TypeId) : ∀ {ss : List RowV} {ls : List (List Int)} {i : Nat} {s : RowV} {l : List Int}, ss[i]? = some s → ls[i]? = some l →
    rowsL e ss ls = rowsL e (ss.take i) (ls.take i) ++ (s.r.L e (ints l) ++ rowsL e (ss.drop (i + 1)) (ls.drop (i + 1)))
  | [], _, i, _, _, h, _ => by simp at h
  | _ :: _, [], i, _, _, _, h => by simp at h
  | s0 :: ss, l0 :: ls, 0, s, l, h, h' => by
    simp only [List.getElem?_cons_zero, Option.some.injEq] at h h'
    subst h h'
    simp [rowsL]
  | s0 :: ss, l0 :: ls, i + 1, s, l, h, h' => by
    simp only [List.getElem?_cons_succ] at h h'
    simp only [rowsL, List.take_succ_cons, List.drop_succ_cons]
    rw [rowsL_split e h h', List.append_assoc]
theorem rowsL_set (e : TypeId) {ss : List RowV} {ls : List (List Int)} {i : Nat} (hs : i < ss.length) (hl : i < ls.length) (s : RowV) (l : List Int) :
    rowsL e (ss.set i s) (ls.set i l) = rowsL e (ss.take i) (ls.take i) ++ (s.r.L e (ints l) ++ rowsL e (ss.drop (i + 1)) (ls.drop (i + 1))) := by
  rw [rowsL_split e (ss := ss.set i s) (ls := ls.set i l) (i := i) (s := s) (l := l) (by simp [hs]) (by simp [hl])]
  rw [List.take_set_of_le (Nat.le_refl _), List.take_set_of_le (Nat.le_refl _), List.drop_set_of_lt (by omega), List.drop_set_of_lt (by omega)]
/-- A block of rows, and the rows. -/
def RO (et e bo : Nat) (ss : List RowV) (ls : List (List Int)) : List (Nat × Obj) := (bo, Cl et (ss.map RowV.val)) :: rowsL e ss ls
theorem RowsOk.new (n : Nat) : RowsOk (List.replicate n RowV.emp) (List.replicate n []) := by
  refine ⟨by simp, fun i s l h h' => ?_⟩
  rw [List.getElem?_replicate] at h h'
  split at h
  · rename_i hlt
    rw [if_pos hlt] at h'
    cases h; cases h'
    exact Sls.nil 1 none
  · cases h
theorem RO.new (et e bo n : Nat) : RO et e bo (List.replicate n RowV.emp) (List.replicate n []) = [(bo, Cl et (List.replicate n (.slice none 0 0)))] := by
  unfold RO
  have : rowsL e (List.replicate n RowV.emp) (List.replicate n []) = [] := by
    induction n with
    | zero => rfl
    | succ n ih => rw [List.replicate_succ, List.replicate_succ, rowsL, ih]; rfl
  rw [this, List.map_replicate]
  rfl
theorem RowsOk.set {ss : List RowV} {ls : List (List Int)} (h : RowsOk ss ls) {i : Nat} {s : RowV} {l : List Int} (hs : s.Ok 1 (ints l)) : RowsOk (ss.set i s) (ls.set i l) := by
  refine ⟨by simp [h.len], fun j s' l' h1 h2 => ?_⟩
  rw [List.getElem?_set] at h1 h2
  by_cases e : i = j
  · rw [if_pos e] at h1 h2
    split at h1
    · split at h2
      · cases h1; cases h2; exact hs
      · cases h2
    · cases h1
  · rw [if_neg e] at h1 h2
    exact h.ok j _ _ h1 h2
theorem RowsOk.get {ss : List RowV} {ls : List (List Int)} (h : RowsOk ss ls) {i : Nat} {l : List Int} (hl : ls[i]? = some l) : ∃ s, ss[i]? = some s ∧ s.Ok 1 (ints l) ∧ s.n = l.length := by
  have hi := (List.getElem?_eq_some_iff.1 hl).1
  have hs : ss[i]? = some (ss[i]'(by rw [h.len]; exact hi)) := List.getElem?_eq_getElem _
  refine ⟨_, hs, h.ok i _ _ hs hl, ?_⟩
  have := (h.ok i _ _ hs hl).n_eq
  simpa using this
/-- The cell of a row. -/
theorem RO.cel {et e bo : Nat} {ss : List RowV} {ls : List (List Int)} {i : Nat} {s : RowV} (h : Hp w0 w (F ++ RO et e bo ss ls)) (hs : ss[i]? = some s) : cel w bo (0 + i * 1) = some (.slice s.a s.n s.c) := by
  refine h.cl F.length (b := bo) (e := et) (vs := ss.map RowV.val) (by rw [List.getElem?_append_right (Nat.le_refl _), Nat.sub_self]; rfl) ?_
  rw [show 0 + i * 1 = i by omega, List.getElem?_map, hs]
  rfl
/-- A row's cells. -/
theorem RO.row {et e bo : Nat} {ss : List RowV} {ls : List (List Int)} (hok : RowsOk ss ls) {i : Nat} {s : RowV} {l : List Int} (h : Hp w0 w (F ++ RO et e bo ss ls)) (hs : ss[i]? = some s) (hl : ls[i]? = some l) : RdI w s.a s.n l := by
  have hS := hok.ok i s l hs hl
  have h2 : Hp w0 w ((F ++ (bo, Cl et (ss.map RowV.val)) :: rowsL e (ss.take i) (ls.take i)) ++ (s.r.L e (ints l) ++ rowsL e (ss.drop (i + 1)) (ls.drop (i + 1)))) := by
    have e2 := rowsL_split e hs hl
    unfold RO at h
    rw [e2] at h
    simpa using h
  refine Sls.rd hS _ h2 (by have := Sls.n_eq hS; simpa using this.symm) fun j x hj => ?_
  show _ = _
  rw [Nat.mul_one]
  have hjl := (List.getElem?_eq_some_iff.1 hj).1
  have hx : (ints l)[j]? = some (.int .i64 x) := by simp [hj]
  rw [List.take_one, List.head?_drop, hx]
  rfl
/-- What the rows read as. -/
theorem RO.rd {et e bo : Nat} {ss : List RowV} {ls : List (List Int)} (hok : RowsOk ss ls) (h : Hp w0 w (F ++ RO et e bo ss ls)) (hm : ls.length ≤ maxLen) : RdII w (some ⟨bo, 0, none⟩) ls.length ls := by
  refine ⟨rfl, hm, fun i l hl => ?_⟩
  obtain ⟨s, hs, _, _⟩ := hok.get hl
  refine ⟨bo, 0, [.slice s.a s.n s.c], rfl, fun j v hj => ?_, rfl, s.a, s.n, s.c, rfl, RO.row hok h hs hl⟩
  cases j with
  | zero => cases hj; exact RO.cel h hs
  | succ j => simp at hj
theorem RO.rdo {et e bo : Nat} {ss : List RowV} {ls : List (List Int)} (hok : RowsOk ss ls) (h : ∀ p ∈ RO et e bo ss ls, w.heap[p.1]? = some p.2) (hm : ls.length ≤ maxLen) : RdII w (some ⟨bo, 0, none⟩) ls.length ls := by
  refine ⟨rfl, hm, fun i l hl => ?_⟩
  obtain ⟨s, hs, hS, hn⟩ := hok.get hl
  refine ⟨bo, 0, [.slice s.a s.n s.c], rfl, fun j v hj => ?_, rfl, s.a, s.n, s.c, rfl, ⟨hn.symm, ?_, fun j x hj => ?_⟩⟩
  · cases j with
    | zero =>
      cases hj
      have h1 := h (bo, Cl et (ss.map RowV.val)) (by simp [RO])
      exact cel_of h1 (by rw [show 0 + i * 1 + 0 = i by omega, List.getElem?_map, hs]; rfl)
    | succ j => simp at hj
  · have h1 := Sls.c_le hS
    have h2 := Sls.n_eq hS
    cases hr : s.r with
    | emp =>
      unfold RowV.Ok Sls at hS
      rw [hr] at hS
      have : s.n = 0 := hS.2.1
      omega
    | «at» b pre sp =>
      unfold RowV.Ok Sls at hS
      rw [hr] at hS
      exact Nat.le_trans hS.2.2.2.2 h1
  · have hjl := (List.getElem?_eq_some_iff.1 hj).1
    cases hr : s.r with
    | emp =>
      unfold RowV.Ok Sls at hS
      rw [hr] at hS
      have : s.n = 0 := hS.2.1
      omega
    | «at» b pre sp =>
      have hS' := hS
      unfold RowV.Ok Sls at hS
      rw [hr] at hS
      have h1 := h (b, Cl e (pre ++ ints l ++ sp)) (by
        have e2 := rowsL_split e hs hl
        unfold RO
        rw [e2, hr]
        simp [Rw.L])
      refine ⟨b, pre.length, [.int .i64 x], hS.2.1, fun k v hk => ?_, rfl, rfl⟩
      cases k with
      | zero =>
        cases hk
        refine cel_of h1 ?_
        rw [List.append_assoc, List.getElem?_append_right (by omega), List.getElem?_append_left (by simp; omega)]
        rw [show pre.length + j * 1 + 0 - pre.length = j by omega]
        simp [hj]
      | succ k => simp at hk
/-- One more in a row. -/
theorem RO.app {P : Program} {t ty et e bytes : Nat} (hT : slT P t e 1 bytes = true) {bo : Nat} {ss : List RowV} {ls : List (List Int)} (hok : RowsOk ss ls) {i : Nat} {s : RowV} {l : List Int} (h : Hp w0 w (F ++ RO et e bo ss ls))
    (hs : ss[i]? = some s) (hl : ls[i]? = some l) {k b : Nat} {x : Int} (hk : F[k]? = some (b, Cl e [.int .i64 x])) (hm : l.length + 1 ≤ maxLen) (hby : (l.length + 1) * bytes ≤ 140737488355328) :
    ∃ s' w', (Builtin.append_ #[t, t] ty ⟨[.slice s.a s.n s.c, .slice (some ⟨b, 0, none⟩) 1 1]⟩).run P w = .ok (.slice s'.a s'.n s'.c) w' ∧ RowsOk (ss.set i s') (ls.set i (l ++ [x])) ∧
      Hp w0 w' (F ++ ((bo, Cl et (ss.map RowV.val)) :: rowsL e (ss.set i s') (ls.set i (l ++ [x])))) ∧
      ∀ {K : World → Prop}, (∀ w2, Hp w0 w2 (F ++ RO et e bo (ss.set i s') (ls.set i (l ++ [x]))) → K w2) → StP bo (0 + i * 1) [.slice s'.a s'.n s'.c] w' K := by
  have hS := hok.ok i s l hs hl
  have hil := (List.getElem?_eq_some_iff.1 hl).1
  have his := (List.getElem?_eq_some_iff.1 hs).1
  have hn : s.n = l.length := by have := Sls.n_eq hS; simpa using this
  have h2 : Hp w0 w ((F ++ (bo, Cl et (ss.map RowV.val)) :: rowsL e (ss.take i) (ls.take i)) ++ (s.r.L e (ints l) ++ rowsL e (ss.drop (i + 1)) (ls.drop (i + 1)))) := by
    have e2 := rowsL_split e hs hl
    unfold RO at h
    rw [e2] at h
    simpa using h
  obtain ⟨a', c', w', r', hrun, hS', h3⟩ := app1 (ty := ty) hT (by omega) hS _ h2 k (by rw [List.getElem?_append_left (List.getElem?_eq_some_iff.1 hk).1]; exact hk) rfl rfl (by rw [hn]; exact hm) (by rw [hn]; exact hby)
  have hS'' : (⟨a', s.n + 1, c', r'⟩ : RowV).Ok 1 (ints (l ++ [x])) := by
    show Sls 1 a' (s.n + 1) c' (ints (l ++ [x])) r'
    unfold ints
    rw [List.map_append]; exact hS'
  have h4 : Hp w0 w' (F ++ ((bo, Cl et (ss.map RowV.val)) :: rowsL e (ss.set i ⟨a', s.n + 1, c', r'⟩) (ls.set i (l ++ [x])))) := by
    rw [rowsL_set e his hil]
    unfold ints
    rw [List.map_append]
    simpa using h3
  refine ⟨⟨a', s.n + 1, c', r'⟩, w', hrun, hok.set hS'', h4, fun {K} hK => ?_⟩
  refine stp h4 F.length (b := bo) (e := et) (old := ss.map RowV.val) (by rw [List.getElem?_append_right (Nat.le_refl _), Nat.sub_self]; rfl) (by simp; omega) rfl fun w2 h5 => hK w2 ?_
  rw [List.set_append_right _ _ (Nat.le_refl _), Nat.sub_self, List.set_cons_zero] at h5
  have e5 : splice (ss.map RowV.val) (0 + i * 1) [.slice a' (s.n + 1) c'] = (ss.set i ⟨a', s.n + 1, c', r'⟩).map RowV.val := by
    rw [show 0 + i * 1 = i by omega]
    exact set_splice RowV.val ss i ⟨a', s.n + 1, c', r'⟩ his
  rw [e5] at h5
  exact h5
end
end Go.Pl

/- What 'palings/flow.New' does, read off its translation by gen.py. -/
namespace Go.Pl.Try
set_option linter.unusedVariables false
set_option maxRecDepth 100000
def F13 (x1 : ByteArray) (ax2 : Option Addr) (nx2 cx2 : Nat) (w : World) (R : Value → World → Prop) : Prop :=
  AlP 29 [.string x1, .slice ax2 nx2 cx2] w fun b3 w4 =>
  ∃ (ax5 : Option Addr) (nx5 cx5 : Nat), cel w4 b3 1 = some (.slice ax5 nx5 cx5) ∧
  ∀ K6 : Option Addr → World → Prop, (∀ (x7 : Option Addr), ∀ w8, (
  ∃ (ax9 : Option Addr) (nx9 cx9 : Nat), cel w8 b3 1 = some (.slice ax9 nx9 cx9) ∧
  ∃ J10 : Int → World → Nat → Prop, (∃ m13, J10 0 w8 m13) ∧
  ∀ (x11 : Int), ∀ w12 m13, J10 x11 w12 m13 →
  sp (decide ((x11 : Int) < (nx9 : Nat)))
  (0 ≤ (x11 : Int) ∧ (x11 : Int) < (nx9 : Nat) ∧
  ptAt ax9 fun b15 o16 =>
  ∃ (ax17 : Option Addr) (nx17 cx17 : Nat) (ax18 : Option Addr) (nx18 cx18 : Nat) (x19 : Int) (x20 : Int) (ax21 : Option Addr) (nx21 cx21 : Nat) (x22 : Int), Row w12 b15 (o16 + x11.toNat * 6) [.slice ax17 nx17 cx17, .slice ax18 nx18 cx18, .int .i64 x19, .int .i64 x20, .slice ax21 nx21 cx21, .int .i64 x22] ∧
  AlP 47 [.slice none 0 0, .slice none 0 0, .int .i64 0, .int .i64 0, .slice none 0 0, .int .i64 0] w12 fun b23 w24 =>
  StP b23 0 [.slice ax17 nx17 cx17, .slice ax18 nx18 cx18, .int .i64 x19, .int .i64 x20, .slice ax21 nx21 cx21, .int .i64 x22] w24 fun w25 =>
  ∃ (ax26 : Option Addr) (nx26 cx26 : Nat), cel w25 b23 4 = some (.slice ax26 nx26 cx26) ∧
  ∃ J27 : Int → World → Nat → Prop, (∃ m30, J27 0 w25 m30) ∧
  ∀ (x28 : Int), ∀ w29 m30, J27 x28 w29 m30 →
  sp (decide ((x28 : Int) < (nx26 : Nat)))
  (∀ K32 : World → Prop, (∀ w33, (
  ∃ m31, m31 < m30 ∧ J27 (IntKind.wrap .i64 (x28 + 1)) w33 m31) → K32 w33) →
  0 ≤ (x28 : Int) ∧ (x28 : Int) < (nx26 : Nat) ∧
  ptAt ax26 fun b34 o35 =>
  ∃ (x36 : Int) (ax37 : Option Addr) (nx37 cx37 : Nat), Row w29 b34 (o35 + x28.toNat * 2) [.int .i64 x36, .slice ax37 nx37 cx37] ∧
  AlP 41 [.int .i64 0, .slice none 0 0] w29 fun b38 w39 =>
  StP b38 0 [.int .i64 x36, .slice ax37 nx37 cx37] w39 fun w40 =>
  ∃ (x41 : Int), cel w40 b38 0 = some (.int .i64 x41) ∧
  sp (decide ((0 : Int) ≤ x41))
  (∃ (x42 : Int), cel w40 b38 0 = some (.int .i64 x42) ∧
  sp (decide ((x42 : Int) < (nx5 : Nat)))
  (∃ X43 : Nat → Prop,
  ptAt x7 fun b44 o45 =>
  ¬ X43 b44 ∧
  ∃ (ax46 : Option Addr) (nx46 cx46 : Nat), cel w40.drew b44 o45 = some (.slice ax46 nx46 cx46) ∧
  ptAt x7 fun b47 o48 =>
  ¬ X43 b47 ∧
  ∃ (ax49 : Option Addr) (nx49 cx49 : Nat), cel w40.drew b47 o48 = some (.slice ax49 nx49 cx49) ∧
  0 ≤ (x11 : Int) ∧ (x11 : Int) < (nx49 : Nat) ∧
  ptAt ax49 fun b50 o51 =>
  ¬ X43 b50 ∧
  ∃ (ax52 : Option Addr) (nx52 cx52 : Nat), cel w40.drew b50 (o51 + x11.toNat * 1) = some (.slice ax52 nx52 cx52) ∧
  ¬ X43 b38 ∧
  ∃ (x53 : Int), cel w40.drew b38 0 = some (.int .i64 x53) ∧
  AlP 3 [.int .i64 x53] w40.drew fun b54 w55 =>
  ExtX X43 w40.drew w55 ∧
  ∃ (ax56 : Option Addr) (nx56 cx56 : Nat), ∃ w57 : World, Sem.run Pg (Builtin.append_ #[34, 34] 34 ⟨[.slice ax52 nx52 cx52, .slice (some ⟨b54, 0, none⟩) 1 1]⟩) w55 = .ok (.slice ax56 nx56 cx56) w57 ∧
  ExtX X43 w40.drew w57 ∧
  0 ≤ (x11 : Int) ∧ (x11 : Int) < (nx46 : Nat) ∧
  ptAt ax46 fun b58 o59 =>
  StP b58 (o59 + x11.toNat * 1) [.slice ax56 nx56 cx56] w57 fun w60 =>
  ∃ X61 : Nat → Prop,
  ptAt x7 fun b62 o63 =>
  ¬ X61 b62 ∧
  ∃ (ax64 : Option Addr) (nx64 cx64 : Nat), cel w60.drew b62 (o63 + 1) = some (.slice ax64 nx64 cx64) ∧
  ¬ X61 b38 ∧
  ∃ (x65 : Int), cel w60.drew b38 0 = some (.int .i64 x65) ∧
  ptAt x7 fun b66 o67 =>
  ¬ X61 b66 ∧
  ∃ (ax68 : Option Addr) (nx68 cx68 : Nat), cel w60.drew b66 (o67 + 1) = some (.slice ax68 nx68 cx68) ∧
  ¬ X61 b38 ∧
  ∃ (x69 : Int), cel w60.drew b38 0 = some (.int .i64 x69) ∧
  0 ≤ (x69 : Int) ∧ (x69 : Int) < (nx68 : Nat) ∧
  ptAt ax68 fun b70 o71 =>
  ¬ X61 b70 ∧
  ∃ (ax72 : Option Addr) (nx72 cx72 : Nat), cel w60.drew b70 (o71 + x69.toNat * 1) = some (.slice ax72 nx72 cx72) ∧
  AlP 3 [.int .i64 x11] w60.drew fun b73 w74 =>
  ExtX X61 w60.drew w74 ∧
  ∃ (ax75 : Option Addr) (nx75 cx75 : Nat), ∃ w76 : World, Sem.run Pg (Builtin.append_ #[34, 34] 34 ⟨[.slice ax72 nx72 cx72, .slice (some ⟨b73, 0, none⟩) 1 1]⟩) w74 = .ok (.slice ax75 nx75 cx75) w76 ∧
  ExtX X61 w60.drew w76 ∧
  0 ≤ (x65 : Int) ∧ (x65 : Int) < (nx64 : Nat) ∧
  ptAt ax64 fun b77 o78 =>
  StP b77 (o78 + x65.toNat * 1) [.slice ax75 nx75 cx75] w76 fun w79 =>
  K32 w79)
  (K32 w40))
  (K32 w40))
  (∃ m14, m14 < m13 ∧ J10 (IntKind.wrap .i64 (x11 + 1)) w29 m14))
  (R (.pointer x7) w12)) → K6 x7 w8) →
  ∃ X80 : Nat → Prop,
  ¬ X80 b3 ∧
  ∃ (x81 : ByteArray) (ax82 : Option Addr) (nx82 cx82 : Nat), Row w4.drew b3 0 [.string x81, .slice ax82 nx82 cx82] ∧
  (∃ (ax83 : Option Addr) (nx83 cx83 : Nat), ∃ w84 : World, Sem.run Pg (Instr.makeSlice 112 (.int .i64 (nx5 : Nat)) (.int .i64 (nx5 : Nat))) w4.drew = .ok (.slice ax83 nx83 cx83) w84 ∧
  ExtX X80 w4.drew w84 ∧
  (∃ (ax85 : Option Addr) (nx85 cx85 : Nat), ∃ w86 : World, Sem.run Pg (Instr.makeSlice 112 (.int .i64 (nx5 : Nat)) (.int .i64 (nx5 : Nat))) w84 = .ok (.slice ax85 nx85 cx85) w86 ∧
  ExtX X80 w4.drew w86 ∧
  CallP Pg 16 [.agg ⟨[.string x81, .slice ax82 nx82 cx82]⟩] w86 fun v87 w88 => ∃ (ax89 : Option Addr) (nx89 cx89 : Nat), v87 = .slice ax89 nx89 cx89 ∧
  AlP 114 [.slice ax83 nx83 cx83, .slice ax85 nx85 cx85, .slice ax89 nx89 cx89] w88 fun b90 w91 =>
  K6 (some ⟨b90, 0, none⟩) w91) ∧
  (CallP Pg 16 [.agg ⟨[.string x81, .slice ax82 nx82 cx82]⟩] w84 fun v92 w93 => ∃ (ax94 : Option Addr) (nx94 cx94 : Nat), v92 = .slice ax94 nx94 cx94 ∧
  ∃ (ax95 : Option Addr) (nx95 cx95 : Nat), ∃ w96 : World, Sem.run Pg (Instr.makeSlice 112 (.int .i64 (nx5 : Nat)) (.int .i64 (nx5 : Nat))) w93 = .ok (.slice ax95 nx95 cx95) w96 ∧
  ExtX X80 w4.drew w96 ∧
  AlP 114 [.slice ax83 nx83 cx83, .slice ax95 nx95 cx95, .slice ax94 nx94 cx94] w96 fun b97 w98 =>
  K6 (some ⟨b97, 0, none⟩) w98)) ∧
  ((∃ (ax99 : Option Addr) (nx99 cx99 : Nat), ∃ w100 : World, Sem.run Pg (Instr.makeSlice 112 (.int .i64 (nx5 : Nat)) (.int .i64 (nx5 : Nat))) w4.drew = .ok (.slice ax99 nx99 cx99) w100 ∧
  ExtX X80 w4.drew w100 ∧
  (∃ (ax101 : Option Addr) (nx101 cx101 : Nat), ∃ w102 : World, Sem.run Pg (Instr.makeSlice 112 (.int .i64 (nx5 : Nat)) (.int .i64 (nx5 : Nat))) w100 = .ok (.slice ax101 nx101 cx101) w102 ∧
  ExtX X80 w4.drew w102 ∧
  CallP Pg 16 [.agg ⟨[.string x81, .slice ax82 nx82 cx82]⟩] w102 fun v103 w104 => ∃ (ax105 : Option Addr) (nx105 cx105 : Nat), v103 = .slice ax105 nx105 cx105 ∧
  AlP 114 [.slice ax101 nx101 cx101, .slice ax99 nx99 cx99, .slice ax105 nx105 cx105] w104 fun b106 w107 =>
  K6 (some ⟨b106, 0, none⟩) w107) ∧
  (CallP Pg 16 [.agg ⟨[.string x81, .slice ax82 nx82 cx82]⟩] w100 fun v108 w109 => ∃ (ax110 : Option Addr) (nx110 cx110 : Nat), v108 = .slice ax110 nx110 cx110 ∧
  ∃ (ax111 : Option Addr) (nx111 cx111 : Nat), ∃ w112 : World, Sem.run Pg (Instr.makeSlice 112 (.int .i64 (nx5 : Nat)) (.int .i64 (nx5 : Nat))) w109 = .ok (.slice ax111 nx111 cx111) w112 ∧
  ExtX X80 w4.drew w112 ∧
  AlP 114 [.slice ax111 nx111 cx111, .slice ax99 nx99 cx99, .slice ax110 nx110 cx110] w112 fun b113 w114 =>
  K6 (some ⟨b113, 0, none⟩) w114)) ∧
  (CallP Pg 16 [.agg ⟨[.string x81, .slice ax82 nx82 cx82]⟩] w4.drew fun v115 w116 => ∃ (ax117 : Option Addr) (nx117 cx117 : Nat), v115 = .slice ax117 nx117 cx117 ∧
  (∃ (ax118 : Option Addr) (nx118 cx118 : Nat), ∃ w119 : World, Sem.run Pg (Instr.makeSlice 112 (.int .i64 (nx5 : Nat)) (.int .i64 (nx5 : Nat))) w116 = .ok (.slice ax118 nx118 cx118) w119 ∧
  ExtX X80 w4.drew w119 ∧
  ∃ (ax120 : Option Addr) (nx120 cx120 : Nat), ∃ w121 : World, Sem.run Pg (Instr.makeSlice 112 (.int .i64 (nx5 : Nat)) (.int .i64 (nx5 : Nat))) w119 = .ok (.slice ax120 nx120 cx120) w121 ∧
  ExtX X80 w4.drew w121 ∧
  AlP 114 [.slice ax118 nx118 cx118, .slice ax120 nx120 cx120, .slice ax117 nx117 cx117] w121 fun b122 w123 =>
  K6 (some ⟨b122, 0, none⟩) w123) ∧
  (∃ (ax124 : Option Addr) (nx124 cx124 : Nat), ∃ w125 : World, Sem.run Pg (Instr.makeSlice 112 (.int .i64 (nx5 : Nat)) (.int .i64 (nx5 : Nat))) w116 = .ok (.slice ax124 nx124 cx124) w125 ∧
  ExtX X80 w4.drew w125 ∧
  ∃ (ax126 : Option Addr) (nx126 cx126 : Nat), ∃ w127 : World, Sem.run Pg (Instr.makeSlice 112 (.int .i64 (nx5 : Nat)) (.int .i64 (nx5 : Nat))) w125 = .ok (.slice ax126 nx126 cx126) w127 ∧
  ExtX X80 w4.drew w127 ∧
  AlP 114 [.slice ax126 nx126 cx126, .slice ax124 nx124 cx124, .slice ax117 nx117 cx117] w127 fun b128 w129 =>
  K6 (some ⟨b128, 0, none⟩) w129)))
def T13 : List Sh := [.v (.agg [.str, .sl]), .v (.one .ptr), .v (.one .ptr), .v (.one (.int .i64)), .v (.one .ptr), .v (.one (.int .i64)), .v (.one .ptr), .v (.one .any), .v (.one .ptr), .v (.one .ptr), .v (.one .sl), .v (.one (.int .i64)), .v (.one (.int .i64)), .v (.one .sl), .v (.one (.int .i64)), .v (.one .sl), .v (.agg [.str, .sl]), .v (.one .sl), .v (.agg [.sl, .sl, .sl]), .v (.one .ptr), .v (.one .ptr), .v (.one .sl), .v (.one (.int .i64)), .v (.one (.int .i64)), .v (.one .bool), .v (.one (.int .i64)), .v (.one .ptr), .v (.agg [.sl, .sl, (.int .i64), (.int .i64), .sl, (.int .i64)]), .v (.one .ptr), .v (.one .ptr), .v (.one .sl), .v (.one (.int .i64)), .v (.one (.int .i64)), .v (.one .bool), .v (.one .ptr), .v (.agg [(.int .i64), .sl]), .v (.one .ptr), .v (.one (.int .i64)), .v (.one .bool), .v (.one .bool), .v (.one .ptr), .v (.one (.int .i64)), .v (.one (.int .i64)), .v (.one .bool), .v (.one .bool), .v (.one .ptr), .v (.one .ptr), .v (.one .ptr), .v (.one .sl), .v (.one (.int .i64)), .v (.one .ptr), .v (.one .ptr), .v (.one .ptr), .v (.one .sl), .v (.one (.int .i64)), .v (.one .ptr), .v (.one .sl), .v (.one .ptr), .v (.one (.int .i64)), .v (.one .sl), .v (.one .sl), .v (.one .ptr), .v (.one .ptr), .v (.one .ptr), .v (.one .ptr), .v (.one .sl), .v (.one .ptr), .v (.one (.int .i64)), .v (.one .ptr), .v (.one .ptr), .v (.one .ptr), .v (.one .sl), .v (.one .ptr), .v (.one (.int .i64)), .v (.one .ptr), .v (.one .sl), .v (.one (.int .i64)), .v (.one .sl), .v (.one .sl), .v (.one .ptr), .v (.one (.int .i64)), .v (.one (.int .i64)), .v (.one .ptr)]
def A13 : Ann := (.seq none .z (.seq none .z (.seq (some [4]) (.drt true [0, 2, 0, 2, 1, 3, 0, 3, 0] (.op 0 (.op 2 (.op 4 (.alt 1 (.alt 3 (.op 5 (.op 6 (.op 7 (.op 8 .nil)))) (.op 5 (.op 3 (.op 6 (.op 7 (.op 8 .nil)))))) (.alt 3 (.alt 1 (.op 5 (.op 6 (.op 7 (.op 8 .nil)))) (.op 5 (.op 1 (.op 6 (.op 7 (.op 8 .nil)))))) (.op 5 (.alt 1 (.op 3 (.op 6 (.op 7 (.op 8 .nil)))) (.op 3 (.op 1 (.op 6 (.op 7 (.op 8 .nil))))))))))))) (.seq none (.seq none .z (.block none (.loop [23] (.seq none .z (.seq none (.cond .z .z) (.seq none (.block none (.seq none .z (.seq none .z (.block none (.loop [32] (.seq none .z (.seq none (.cond .z .z) (.seq none (.block (some []) (.seq none .z (.ifs none none (.seq none (.drt true [0, 0, 0, 1, 0, 0, 0, 0, 1, 0, 0, 1, 0, 1, 2, 2, 0, 3] (.op 0 (.op 1 (.op 2 (.op 3 (.op 4 (.op 5 (.op 6 (.op 7 (.op 8 (.op 9 (.op 10 (.op 11 (.op 12 (.op 13 (.op 14 (.op 15 (.op 16 (.op 17 .nil))))))))))))))))))) (.drt true [0, 0, 0, 1, 0, 1, 0, 0, 0, 1, 0, 1, 0, 1, 0, 2, 2, 0, 3] (.op 0 (.op 1 (.op 2 (.op 3 (.op 4 (.op 5 (.op 6 (.op 7 (.op 8 (.op 9 (.op 10 (.op 11 (.op 12 (.op 13 (.op 14 (.op 15 (.op 16 (.op 17 (.op 18 .nil))))))))))))))))))))) .z))) .z)))))))) .z)))))) (.seq none .z .z)))))
theorem F13_eq (x1 : ByteArray) (ax2 : Option Addr) (nx2 cx2 : Nat) (w : World) (R : Value → World → Prop) : F13 x1 ax2 nx2 cx2 w R = denF Go.Proofs.Try.prog T13 Go.Proofs.Try.f13 A13 [.agg ⟨[.string x1, .slice ax2 nx2 cx2]⟩] w R := by kernel_rfl
theorem F13_ok (x1 : ByteArray) (ax2 : Option Addr) (nx2 cx2 : Nat) {w : World} {R : Value → World → Prop} (h : F13 x1 ax2 nx2 cx2 w R) : CallP Go.Proofs.Try.prog 13 [.agg ⟨[.string x1, .slice ax2 nx2 cx2]⟩] w R :=
  calls_den (fun _ => drawn (by kernel_rfl)) Go.Proofs.Try.func13 (Nat.le_of_ble_eq_true (by kernel_rfl)) ((F13_eq x1 ax2 nx2 cx2 w R).mp h)
end Go.Pl.Try

/- A function's graph: walked. -/
namespace Go.Pl.M
set_option linter.unusedVariables false
theorem Rows.app_at {r : Rows} {k : Nat} {l : List Int} (h : r[k]? = some l) (x : Int) : Rows.app r k x = r.set k (l ++ [x]) := by
  unfold Rows.app
  rw [List.getD_eq_getElem?_getD, h]; rfl
theorem Rows.app_len (r : Rows) (k : Nat) (x : Int) : (Rows.app r k x).length = r.length := by simp [Rows.app]
theorem Rows.app_le {r : Rows} {m : Nat} (h : ∀ l ∈ r, l.length ≤ m) (k : Nat) (x : Int) : ∀ l ∈ Rows.app r k x, l.length ≤ m + 1 := by
  intro l hl
  unfold Rows.app at hl
  rcases List.mem_or_eq_of_mem_set hl with hl | rfl
  · have := h l hl; omega
  · rw [List.length_append, List.getD_eq_getElem?_getD]
    cases hk : r[k]? with
    | none => simp
    | some l0 => have := h l0 (List.mem_of_getElem? hk); simp; omega
theorem grWays_len (n b : Nat) : ∀ (ws : List Edg) (r : Rows × Rows), (grWays n b ws r).1.length = r.1.length ∧ (grWays n b ws r).2.length = r.2.length
  | [], r => ⟨rfl, rfl⟩
  | w :: ws, r => by
    rw [grWays]
    have := grWays_len n b ws (if 0 ≤ w.to ∧ w.to < n then (Rows.app r.1 b w.to, Rows.app r.2 w.to.toNat b) else r)
    rw [this.1, this.2]
    split <;> simp [Rows.app_len]
theorem grWays_le (n b : Nat) : ∀ (ws : List Edg) (r : Rows × Rows) (m : Nat), (∀ l ∈ r.1, l.length ≤ m) → (∀ l ∈ r.2, l.length ≤ m) → (∀ l ∈ (grWays n b ws r).1, l.length ≤ m + ws.length) ∧ (∀ l ∈ (grWays n b ws r).2, l.length ≤ m + ws.length)
  | [], r, m, h1, h2 => ⟨h1, h2⟩
  | w :: ws, r, m, h1, h2 => by
    rw [grWays]
    have := grWays_le n b ws (if 0 ≤ w.to ∧ w.to < n then (Rows.app r.1 b w.to, Rows.app r.2 w.to.toNat b) else r) (m + 1)
      (by split
          · exact Rows.app_le h1 _ _
          · intro l hl; have := h1 l hl; omega)
      (by split
          · exact Rows.app_le h2 _ _
          · intro l hl; have := h2 l hl; omega)
    simp only [List.length_cons]
    rw [show m + (ws.length + 1) = m + 1 + ws.length by omega]
    exact this
theorem grBlks_len (n : Nat) : ∀ (bs : List Blk) (b : Nat) (r : Rows × Rows), (grBlks n b bs r).1.length = r.1.length ∧ (grBlks n b bs r).2.length = r.2.length
  | [], b, r => ⟨rfl, rfl⟩
  | x :: xs, b, r => by
    rw [grBlks]
    have := grBlks_len n xs (b + 1) (grWays n b x.fin.ways r)
    have h2 := grWays_len n b x.fin.ways r
    exact ⟨this.1.trans h2.1, this.2.trans h2.2⟩
theorem grBlks_le (n : Nat) : ∀ (bs : List Blk) (b : Nat) (r : Rows × Rows) (m : Nat), (∀ x ∈ bs, x.fin.ways.length ≤ lim) → (∀ l ∈ r.1, l.length ≤ m) → (∀ l ∈ r.2, l.length ≤ m) → (∀ l ∈ (grBlks n b bs r).1, l.length ≤ m + bs.length * lim) ∧ (∀ l ∈ (grBlks n b bs r).2, l.length ≤ m + bs.length * lim)
  | [], b, r, m, _, h1, h2 => by simpa [grBlks] using ⟨h1, h2⟩
  | x :: xs, b, r, m, hw, h1, h2 => by
    rw [grBlks]
    have h3 := grWays_le n b x.fin.ways r m h1 h2
    have hx := hw x (by simp)
    have := grBlks_le n xs (b + 1) (grWays n b x.fin.ways r) (m + lim) (fun y hy => hw y (by simp [hy])) (fun l hl => by have := h3.1 l hl; omega) (fun l hl => by have := h3.2 l hl; omega)
    simp only [List.length_cons, Nat.add_one_mul]
    rw [show m + (xs.length * lim + lim) = m + lim + xs.length * lim by omega]
    exact this
theorem Fnc.gr_facts (f : Fnc) (hl : f.Lim) : f.gr.outs.length = f.blocks.length ∧ f.gr.ins.length = f.blocks.length ∧ f.gr.reach.length = f.blocks.length ∧ (∀ l ∈ f.gr.outs, l.length ≤ lim * lim) ∧ (∀ l ∈ f.gr.ins, l.length ≤ lim * lim) := by
  have h1 := grBlks_len f.blocks.length f.blocks 0 (List.replicate f.blocks.length [], List.replicate f.blocks.length [])
  have h2 := grBlks_le f.blocks.length f.blocks 0 (List.replicate f.blocks.length [], List.replicate f.blocks.length []) 0 (fun x hx => (hl.each x hx).ways)
    (fun l h => by rw [List.eq_of_mem_replicate h]; simp) (fun l h => by rw [List.eq_of_mem_replicate h]; simp)
  have h3 : f.blocks.length * lim ≤ lim * lim := Nat.mul_le_mul_right _ hl.blocks
  refine ⟨by rw [Fnc.gr]; simpa using h1.1, by rw [Fnc.gr]; simpa using h1.2, f.reach_length, fun l h => ?_, fun l h => ?_⟩
  · have := h2.1 l h; omega
  · have := h2.2 l h; omega
end Go.Pl.M
namespace Go.Pl.Try
open M
set_option linter.unusedVariables false
theorem slIntss : slT Pg 112 34 1 24 = true := by kernel_rfl
theorem zIntss : (zeroOf Pg 34).map (·.cells) = some #[.slice none 0 0] := by kernel_rfl
theorem new_w {w : World} {f : Fnc} {a : Option Addr} {n c : Nat} (nm : ByteArray) (h : RdBlocks w a n f.blocks) (hl : f.Lim) :
    CallP Pg 13 [.agg ⟨[.string nm, .slice a n c]⟩] w fun v w' => ∃ p L, v = .pointer p ∧ Hp w w' L ∧ ∀ w2, Owns w2 L → RdG w2 p f.gr := by
  have hn := h.len
  have hnl := hl.blocks
  rw [hn] at hnl
  have hnl' := hnl
  simp only [lim] at hnl'
  refine F13_ok _ _ _ _ ?_
  unfold F13
  refine alp (Hp.refl w) fun b3 w4 h4 => ⟨_, _, _, h4.cl 0 rfl rfl, ?_⟩
  intro K6 hK6
  have key : ∀ bg w8 bo bi br L8, Hp w4.drew w8 L8 → (bg, Cl 114 [.slice (some ⟨bo, 0, none⟩) n n, .slice (some ⟨bi, 0, none⟩) n n, .slice (some ⟨br, 0, none⟩) n n]) ∈ L8 → (bo, Cl 34 (List.replicate n (.slice none 0 0))) ∈ L8 →
      (bi, Cl 34 (List.replicate n (.slice none 0 0))) ∈ L8 → (br, Cl 4 (f.reach.map .bool)) ∈ L8 → [bg, bo, bi, br].Nodup → K6 (some ⟨bg, 0, none⟩) w8 := by
    intro bg w8 bo bi br L8 h8' m1 m2 m3 m4 hnd
    have h8a := h8'.sel (L' := [(bg, Cl 114 [.slice (some ⟨bo, 0, none⟩) n n, .slice (some ⟨bi, 0, none⟩) n n, .slice (some ⟨br, 0, none⟩) n n]), (bo, Cl 34 (List.replicate n (.slice none 0 0))), (bi, Cl 34 (List.replicate n (.slice none 0 0))), (br, Cl 4 (f.reach.map .bool))])
      (by intro p hp; simp only [List.mem_cons, List.not_mem_nil, or_false] at hp; rcases hp with rfl | rfl | rfl | rfl <;> assumption) hnd
    obtain ⟨G, hG⟩ : ∃ G : List (Nat × Obj), G = [(bg, Cl 114 [.slice (some ⟨bo, 0, none⟩) n n, .slice (some ⟨bi, 0, none⟩) n n, .slice (some ⟨br, 0, none⟩) n n]), (br, Cl 4 (f.reach.map .bool)), (b3, Cl 29 [.string nm, .slice a n c])] := ⟨_, rfl⟩
    have h8 : Hp w w8 (G ++ (RO 34 3 bo (List.replicate n RowV.emp) (List.replicate n []) ++ RO 34 3 bi (List.replicate n RowV.emp) (List.replicate n []))) := by
      rw [RO.new, RO.new, hG]
      have hc := h4.drew.call h8a
      refine hc.sel (fun p hp => ?_) ?_
      · simp only [List.mem_append, List.mem_cons, List.not_mem_nil, or_false] at hp ⊢
        rcases hp with (rfl | rfl | rfl) | rfl | rfl <;> simp
      · have := hc.nd
        simp only [List.map_append, List.map_cons, List.map_nil, List.cons_append, List.nil_append, List.nodup_cons, List.mem_cons, List.not_mem_nil, or_false, not_or] at this ⊢
        simp only [List.nodup_nil, and_true, not_false_eq_true] at this ⊢
        refine ⟨⟨?_, ?_, ?_, ?_⟩, ⟨?_, ?_, ?_⟩, ⟨?_, ?_⟩, ?_⟩ <;> omega
    obtain ⟨fin, hfin⟩ : ∃ r, r = grBlks n 0 f.blocks (List.replicate n [], List.replicate n []) := ⟨_, rfl⟩
    have hfg : f.gr = ⟨fin.1, fin.2, f.reach⟩ := by rw [Fnc.gr, hfin, hn]
    have hbg : ∀ {w1 : World} {L1}, Hp w w1 (G ++ L1) → cel w1 bg 0 = some (.slice (some ⟨bo, 0, none⟩) n n) ∧ cel w1 bg 1 = some (.slice (some ⟨bi, 0, none⟩) n n) ∧ cel w1 bg 2 = some (.slice (some ⟨br, 0, none⟩) n n) := by
      intro w1 L1 h1
      subst hG
      exact ⟨h1.cl 0 rfl rfl, h1.cl 0 rfl rfl, h1.cl 0 rfl rfl⟩
    have hc3 : ∀ {w1 : World} {L1}, Hp w w1 (G ++ L1) → cel w1 b3 1 = some (.slice a n c) := by
      intro w1 L1 h1
      subst hG
      exact h1.cl 2 rfl rfl
    refine hK6 _ _ ⟨_, _, _, hc3 h8, ?_⟩
    refine ⟨fun i w' m => ∃ (j : Nat) (outs ins : M.Rows) (so si : List RowV), i = j ∧ j ≤ n ∧ m = n - j ∧ outs.length = n ∧ ins.length = n ∧ RowsOk so outs ∧ RowsOk si ins ∧ (∀ l ∈ outs, l.length ≤ j * lim) ∧ (∀ l ∈ ins, l.length ≤ j * lim) ∧
        Hp w w' (G ++ (RO 34 3 bo so outs ++ RO 34 3 bi si ins)) ∧ grBlks n j (f.blocks.drop j) (outs, ins) = fin,
      ⟨n, 0, List.replicate n [], List.replicate n [], List.replicate n RowV.emp, List.replicate n RowV.emp, rfl, by omega, by omega, by simp, by simp, RowsOk.new n, RowsOk.new n,
        fun l hl => (by rw [List.eq_of_mem_replicate hl]; simp), fun l hl => (by rw [List.eq_of_mem_replicate hl]; simp), h8, hfin.symm⟩, ?_⟩
    rintro i w12 m ⟨j, outs, ins, so, si, rfl, hj, rfl, hol, hil, hso, hsi, hle1, hle2, h12, hgo⟩
    refine sp_dec (fun hlt => ?_) (fun hge => ?_)
    · obtain ⟨b, hy⟩ := at_some (l := f.blocks) (j := j) (by omega)
      rw [drop_cons hy, grBlks] at hgo
      have hblim := hl.each b (List.mem_of_getElem? hy)
      have hwl := hblim.ways
      obtain ⟨bt, ot, ap, np, cp, ai, ni, ci, ae, ne, ce, hat, hrowt, hp, hi, he⟩ := blkOf h hy
      have hel := he.len
      have hele := he.le
      rw [hel] at hwl
      refine ⟨by omega, by omega, ptAt_of hat ⟨_, _, _, _, _, _, _, _, _, _, _, _, h12.ext.row hrowt, ?_⟩⟩
      refine alp h12 fun b23 w24 h24 => ?_
      refine stp h24 0 rfl (by simp) rfl fun w25 h25 => ⟨_, _, _, h25.cl 0 rfl rfl, ?_⟩
      generalize hb23 : (b23, Cl 47 (splice [.slice none 0 0, .slice none 0 0, .int .i64 0, .int .i64 0, .slice none 0 0, .int .i64 0] 0 [.slice ap np cp, .slice ai ni ci, .int .i64 b.fin.kind, .int .i64 b.fin.val, .slice ae ne ce, .int .i64 b.fin.trap])) = B23 at *
      have hstep : j * lim + lim = (j + 1) * lim := by rw [Nat.add_one_mul]
      refine ⟨fun i w' m => ∃ (u : Nat) (outs ins : M.Rows) (so si : List RowV), i = u ∧ u ≤ ne ∧ m = ne - u ∧ outs.length = n ∧ ins.length = n ∧ RowsOk so outs ∧ RowsOk si ins ∧ (∀ l ∈ outs, l.length ≤ j * lim + u) ∧ (∀ l ∈ ins, l.length ≤ j * lim + u) ∧
          Hp w w' (B23 :: (G ++ (RO 34 3 bo so outs ++ RO 34 3 bi si ins))) ∧ grBlks n (j + 1) (f.blocks.drop (j + 1)) (grWays n j (b.fin.ways.drop u) (outs, ins)) = fin,
        ⟨ne, 0, outs, ins, so, si, rfl, by omega, by omega, hol, hil, hso, hsi, fun l hl => (by have := hle1 l hl; omega), fun l hl => (by have := hle2 l hl; omega), h25, hgo⟩, ?_⟩
      clear hol hil hso hsi hle1 hle2 h12 h24 h25 hgo
      rintro i w29 m ⟨u, outs, ins, so, si, rfl, hu, rfl, hol, hil, hso, hsi, hle1, hle2, h29, hgo⟩
      have hjn : j * lim + ne ≤ 1048576 := by
        have : j * lim ≤ 1023 * 1024 := Nat.mul_le_mul (by omega) (Nat.le_refl _)
        simp only [lim] at hwl; omega
      refine sp_dec (fun hlt2 => ?_) (fun hge2 => ?_)
      · intro K32 hK32
        obtain ⟨e, hz⟩ := at_some (l := b.fin.ways) (j := u) (by omega)
        rw [drop_cons hz, grWays] at hgo
        obtain ⟨bw, ow, vs, haw, hroww, hvlw, aa, na, ca, rfl, hargs⟩ := he.at_ _ _ hz
        refine ⟨by omega, by omega, ptAt_of haw ⟨_, _, _, _, h29.ext.row hroww, ?_⟩⟩
        refine alp h29 fun b38 w39 h39 => ?_
        refine stp h39 0 rfl (by simp) rfl fun w40 h40 => ⟨_, h40.cl 0 rfl rfl, ?_⟩
        have hskip : ¬ (0 ≤ e.to ∧ e.to < n) → K32 w40 := by
          intro hno
          rw [if_neg hno] at hgo
          exact hK32 _ ⟨ne - (u + 1), by omega, u + 1, outs, ins, so, si, wrap_succ (by omega), by omega, rfl, hol, hil, hso, hsi, fun l hl => by have := hle1 l hl; omega, fun l hl => by have := hle2 l hl; omega, h40.drop 1, hgo⟩
        refine sp_dec (fun h0 => ⟨_, h40.cl 0 rfl rfl, sp_dec (fun hlt3 => ?_) (fun hge3 => hskip (fun h => by omega))⟩) (fun h0 => hskip (fun h => by omega))
        rw [if_pos ⟨h0, hlt3⟩] at hgo
        generalize hb38 : (b38, Cl 41 (splice [.int .i64 0, .slice none 0 0] 0 [.int .i64 e.to, .slice aa na ca])) = B38 at *
        obtain ⟨lo, hlo⟩ := at_some (l := outs) (j := j) (by omega)
        obtain ⟨li, hli⟩ := at_some (l := ins) (j := e.to.toNat) (by omega)
        rw [Rows.app_at hlo, Rows.app_at hli] at hgo
        obtain ⟨s, hs, hsok, hsn⟩ := hso.get hlo
        obtain ⟨t, ht, htok, htn⟩ := hsi.get hli
        have hlo1 := hle1 lo (List.mem_of_getElem? hlo)
        have hli1 := hle2 li (List.mem_of_getElem? hli)
        have hc38 : ∀ {w1 : World} {L1}, Hp w w1 (B38 :: L1) → cel w1 b38 0 = some (.int .i64 e.to) := by
          intro w1 L1 h1
          subst hb38
          exact h1.cl 0 rfl rfl
        -- the outer rows
        have hA : Hp w w40.drew ((B38 :: B23 :: (G ++ RO 34 3 bi si ins)) ++ RO 34 3 bo so outs) := h40.drew.perm (by
          simp only [List.cons_append]
          refine List.Perm.cons _ (List.Perm.cons _ ?_)
          rw [List.append_assoc]
          exact List.Perm.append_left _ List.perm_append_comm)
        have hbgA : ∀ {w1 : World} {L1}, Hp w w1 ((B38 :: B23 :: (G ++ L1))) → cel w1 bg 0 = some (.slice (some ⟨bo, 0, none⟩) n n) ∧ cel w1 bg 1 = some (.slice (some ⟨bi, 0, none⟩) n n) := by
          intro w1 L1 h1
          have h2 := hbg (h1.drop 2)
          exact ⟨h2.1, h2.2.1⟩
        obtain ⟨FX, hFX⟩ : ∃ FX : List (Nat × Obj), FX = (bo, Cl 34 (so.map RowV.val)) :: (B38 :: B23 :: G) := ⟨_, rfl⟩
        have xg : ¬ Xf w FX bg := by subst hFX hG; exact Xf.at_ (i := 3) rfl
        have xo : ¬ Xf w FX bo := by subst hFX; exact Xf.at_ (i := 0) rfl
        have x38 : ¬ Xf w FX b38 := by subst hFX hb38; exact Xf.at_ (i := 1) rfl
        have hsubA : ∀ p ∈ FX, p ∈ (B38 :: B23 :: (G ++ RO 34 3 bi si ins)) ++ RO 34 3 bo so outs := by
          intro p hp
          subst hFX
          simp only [RO, List.mem_cons, List.mem_append] at hp ⊢
          rcases hp with h | h | h | h <;> simp [h]
        refine ⟨Xf w FX, ptAt_of rfl ⟨xg, _, _, _, (hbgA h40.drew).1, ptAt_of rfl ⟨xg, _, _, _, (hbgA h40.drew).1, by omega, by omega, ptAt_of rfl ⟨xo, _, _, _, RO.cel hA hs, x38, _, hc38 h40.drew, ?_⟩⟩⟩⟩
        refine alp hA fun b54 w55 h55 => ⟨hA.xf h55 hsubA (fun p hp => List.mem_cons_of_mem _ (hsubA p hp)), ?_⟩
        obtain ⟨s', w57, hrun, hso', h57, hst⟩ := RO.app (F := (b54, Cl 3 [.int .i64 e.to]) :: (B38 :: B23 :: (G ++ RO 34 3 bi si ins))) (ty := 34) slInts hso h55 hs hlo (k := 0) rfl (by simp only [maxLen]; omega) (by omega)
        refine ⟨_, _, _, w57, hrun, hA.xf h57 hsubA (fun p hp => ?_), by omega, by omega, ptAt_of rfl (hst fun w60 h60 => ?_)⟩
        · subst hFX
          simp only [List.mem_cons, List.mem_append] at hp ⊢
          rcases hp with h | h | h | h <;> simp [h]
        -- the inner rows
        have hB : Hp w w60.drew ((B38 :: B23 :: (G ++ RO 34 3 bo (so.set j s') (outs.set j (lo ++ [e.to])))) ++ RO 34 3 bi si ins) := (h60.drop 1).drew.perm (by
          simp only [List.drop_succ_cons, List.drop_zero, List.cons_append]
          refine List.Perm.cons _ (List.Perm.cons _ ?_)
          rw [List.append_assoc, List.append_assoc]
          exact List.Perm.append_left _ List.perm_append_comm)
        have hB' : Hp w w60.drew (B38 :: B23 :: (G ++ (RO 34 3 bo (so.set j s') (outs.set j (lo ++ [e.to])) ++ RO 34 3 bi si ins))) := by
          rw [← List.append_assoc G]; exact hB
        obtain ⟨FY, hFY⟩ : ∃ FX : List (Nat × Obj), FX = (bi, Cl 34 (si.map RowV.val)) :: (B38 :: B23 :: G) := ⟨_, rfl⟩
        have yg : ¬ Xf w FY bg := by subst hFY hG; exact Xf.at_ (i := 3) rfl
        have yi : ¬ Xf w FY bi := by subst hFY; exact Xf.at_ (i := 0) rfl
        have y38 : ¬ Xf w FY b38 := by subst hFY hb38; exact Xf.at_ (i := 1) rfl
        have hsubB : ∀ p ∈ FY, p ∈ (B38 :: B23 :: (G ++ RO 34 3 bo (so.set j s') (outs.set j (lo ++ [e.to])))) ++ RO 34 3 bi si ins := by
          intro p hp
          subst hFY
          simp only [RO, List.mem_cons, List.mem_append] at hp ⊢
          rcases hp with h | h | h | h <;> simp [h]
        refine ⟨Xf w FY, ptAt_of rfl ⟨yg, _, _, _, (hbgA hB').2, y38, _, hc38 hB', ptAt_of rfl ⟨yg, _, _, _, (hbgA hB').2, y38, _, hc38 hB', by omega, by omega, ptAt_of rfl ⟨yi, _, _, _, RO.cel hB ht, ?_⟩⟩⟩⟩
        refine alp hB fun b73 w74 h74 => ⟨hB.xf h74 hsubB (fun p hp => List.mem_cons_of_mem _ (hsubB p hp)), ?_⟩
        obtain ⟨t', w76, hrun2, hsi', h76, hst2⟩ := RO.app (F := (b73, Cl 3 [.int .i64 (j : Int)]) :: (B38 :: B23 :: (G ++ RO 34 3 bo (so.set j s') (outs.set j (lo ++ [e.to]))))) (ty := 34) slInts hsi h74 ht hli (k := 0) rfl (by simp only [maxLen]; omega) (by omega)
        refine ⟨_, _, _, w76, hrun2, hB.xf h76 hsubB (fun p hp => ?_), by omega, by omega, ptAt_of rfl (hst2 fun w79 h79 => ?_)⟩
        · subst hFY
          simp only [List.mem_cons, List.mem_append] at hp ⊢
          rcases hp with h | h | h | h <;> simp [h]
        refine hK32 _ ⟨ne - (u + 1), by omega, u + 1, outs.set j (lo ++ [e.to]), ins.set e.to.toNat (li ++ [(j : Int)]), so.set j s', si.set e.to.toNat t', wrap_succ (by omega), by omega, rfl, by simp [hol], by simp [hil], hso', hsi', ?_, ?_, ?_, hgo⟩
        · intro l hl
          have := Rows.app_le hle1 j e.to l (by rw [Rows.app_at hlo]; exact hl)
          omega
        · intro l hl
          have := Rows.app_le hle2 e.to.toNat (j : Int) l (by rw [Rows.app_at hli]; exact hl)
          omega
        · have := h79.drop 2
          simp only [List.cons_append, List.drop_succ_cons, List.drop_zero] at this
          rw [← List.append_assoc G]; exact this
      · have hun : u = ne := by omega
        subst hun
        have hd : b.fin.ways.drop u = [] := List.drop_of_length_le (by omega)
        rw [hd, grWays] at hgo
        exact ⟨n - (j + 1), by omega, j + 1, outs, ins, so, si, wrap_succ (by simp only [maxLen]; omega), by omega, rfl, hol, hil, hso, hsi, fun l hl => by have := hle1 l hl; omega, fun l hl => by have := hle2 l hl; omega, h29.drop 1, hgo⟩
    · have hjn : j = n := by omega
      subst hjn
      have hd : f.blocks.drop j = [] := List.drop_of_length_le (by omega)
      rw [hd, grBlks] at hgo
      subst hgo
      refine ⟨_, _, rfl, h12, fun w2 ho => ?_⟩
      have h2 : Hp w2 w2 [] := Hp.refl w2
      have hown : ∀ L', (∀ p ∈ L', p ∈ G ++ (RO 34 3 bo so outs ++ RO 34 3 bi si ins)) → Owns w2 L' := fun L' hs p hp => ho p (hs p hp)
      have hcl : ∀ {b : Nat} {e : TypeId} {vs : List Value} {o : Nat} {v : Value}, (b, Cl e vs) ∈ G ++ (RO 34 3 bo so outs ++ RO 34 3 bi si ins) → vs[o]? = some v → cel w2 b o = some v := fun hm hv => cel_of (ho _ hm) hv
      have hgm : (bg, Cl 114 [.slice (some ⟨bo, 0, none⟩) j j, .slice (some ⟨bi, 0, none⟩) j j, .slice (some ⟨br, 0, none⟩) j j]) ∈ G := by subst hG; simp
      have hrm : (br, Cl 4 (f.reach.map .bool)) ∈ G := by subst hG; simp
      rw [hfg]
      refine ⟨bg, 0, _, _, _, _, _, _, _, _, _, rfl, hcl (List.mem_append_left _ hgm) rfl, hcl (List.mem_append_left _ hgm) rfl, hcl (List.mem_append_left _ hgm) rfl, ?_, ?_, ?_⟩
      · exact hol ▸ RO.rdo (et := 34) (e := 3) hso (fun p hp => ho p (by simp [hp])) (by rw [hol]; simp only [maxLen]; omega)
      · exact hil ▸ RO.rdo (et := 34) (e := 3) hsi (fun p hp => ho p (by simp [hp])) (by rw [hil]; simp only [maxLen]; omega)
      · refine ⟨by rw [Fnc.reach_length, hn], by simp only [maxLen]; omega, fun i x hi => ⟨br, 0, [.bool x], rfl, fun k v hk => ?_, rfl, rfl⟩⟩
        cases k with
        | zero => cases hk; exact hcl (List.mem_append_left _ hrm) (by simp [hi])
        | succ k => simp at hk
  have hmk : ∀ {w0 w1 : World} {L}, Hp w0 w1 L → ∃ b w2, (Instr.makeSlice 112 (.int .i64 (n : Int)) (.int .i64 (n : Int))).run Pg w1 = .ok (.slice (some ⟨b, 0, none⟩) n n) w2 ∧ Hp w0 w2 ((b, Cl 34 (List.replicate n (.slice none 0 0))) :: L) :=
    fun h1 => make_run slIntss zIntss h1 n (by omega) (by simp only [maxLen]; omega)
  have hre : ∀ {w1 : World}, Ext w w1 → CallP Pg 16 [.agg ⟨[.string nm, .slice a n c]⟩] w1 fun v w' => ∃ b, v = .slice (some ⟨b, 0, none⟩) n n ∧ Hp w1 w' [(b, Cl 4 (f.reach.map .bool))] :=
    fun hx => reach_w nm (h.ext hx) (by omega) f.reach (fun h0 => Fnc.reach_nil (by omega)) (fun h0 => by rw [← hn]; exact Fnc.reach_go (by omega))
  have hx4 : Ext w w4.drew := h4.drew.ext
  have nd4 : ∀ {w' : World} {a b c d : Nat × Obj}, Hp w4.drew w' [a, b, c, d] → [a.1, b.1, c.1, d.1].Nodup := fun h => h.nd
  have fin2 : ∀ {w5 : World} {bg b1 b2 br : Nat} {L : List (Nat × Obj)}, Hp w4.drew w5 L → L.map Prod.fst = [bg, b1, b2, br] ∨ L.map Prod.fst = [bg, br, b1, b2] ∨ L.map Prod.fst = [bg, b1, br, b2] → ([bg, b1, b2, br].Nodup ∧ [bg, b2, b1, br].Nodup) := by
    intro w5 bg b1 b2 br L h5 hm
    have hnd := h5.nd
    rcases hm with hm | hm | hm <;> rw [hm] at hnd <;> simp at hnd ⊢ <;> omega
  have hre' : ∀ {w1 : World} {L}, Hp w4.drew w1 L → CallP Pg 16 [.agg ⟨[.string nm, .slice a n c]⟩] w1 fun v w' => ∃ b, v = .slice (some ⟨b, 0, none⟩) n n ∧ Hp w4.drew w' ((b, Cl 4 (f.reach.map .bool)) :: L) :=
    fun h1 => (hre (hx4.trans h1.ext)).mono fun v w' ⟨b, hv, h2⟩ => ⟨b, hv, h1.call h2⟩
  refine ⟨fun _ => False, id, _, _, _, _, h4.drew.row 0 rfl, ?_, ?_, ?_⟩
  · obtain ⟨b1, w1, hm1, h1⟩ := hmk (Hp.refl w4.drew)
    refine ⟨_, _, _, w1, hm1, h1.ext.x _, ?_, ?_⟩
    · obtain ⟨b2, w2, hm2, h2⟩ := hmk h1
      refine ⟨_, _, _, w2, hm2, h2.ext.x _, (hre' h2).mono ?_⟩
      rintro v w3 ⟨b, rfl, h3⟩
      exact ⟨_, _, _, rfl, alp h3 fun bg w5 h5 => key bg w5 b1 b2 b _ h5 (by simp) (by simp) (by simp) (by simp) (fin2 (b1 := b2) (b2 := b1) h5 (.inr (.inl rfl))).2⟩
    · refine (hre' h1).mono ?_
      rintro v w3 ⟨b, rfl, h3⟩
      obtain ⟨b2, w2, hm2, h2⟩ := hmk h3
      exact ⟨_, _, _, rfl, _, _, _, w2, hm2, h2.ext.x _, alp h2 fun bg w5 h5 => key bg w5 b1 b2 b _ h5 (by simp) (by simp) (by simp) (by simp) (fin2 (b1 := b2) (b2 := b1) h5 (.inr (.inr rfl))).2⟩
  · obtain ⟨b1, w1, hm1, h1⟩ := hmk (Hp.refl w4.drew)
    refine ⟨_, _, _, w1, hm1, h1.ext.x _, ?_, ?_⟩
    · obtain ⟨b2, w2, hm2, h2⟩ := hmk h1
      refine ⟨_, _, _, w2, hm2, h2.ext.x _, (hre' h2).mono ?_⟩
      rintro v w3 ⟨b, rfl, h3⟩
      exact ⟨_, _, _, rfl, alp h3 fun bg w5 h5 => key bg w5 b2 b1 b _ h5 (by simp) (by simp) (by simp) (by simp) (fin2 (b1 := b2) (b2 := b1) h5 (.inr (.inl rfl))).1⟩
    · refine (hre' h1).mono ?_
      rintro v w3 ⟨b, rfl, h3⟩
      obtain ⟨b2, w2, hm2, h2⟩ := hmk h3
      exact ⟨_, _, _, rfl, _, _, _, w2, hm2, h2.ext.x _, alp h2 fun bg w5 h5 => key bg w5 b2 b1 b _ h5 (by simp) (by simp) (by simp) (by simp) (fin2 (b1 := b2) (b2 := b1) h5 (.inr (.inr rfl))).1⟩
  · refine (hre' (Hp.refl w4.drew)).mono ?_
    rintro v w3 ⟨b, rfl, h3⟩
    refine ⟨_, _, _, rfl, ?_, ?_⟩
    · obtain ⟨b1, w1, hm1, h1⟩ := hmk h3
      obtain ⟨b2, w2, hm2, h2⟩ := hmk h1
      exact ⟨_, _, _, w1, hm1, h1.ext.x _, _, _, _, w2, hm2, h2.ext.x _, alp h2 fun bg w5 h5 => key bg w5 b1 b2 b _ h5 (by simp) (by simp) (by simp) (by simp) (fin2 (b1 := b2) (b2 := b1) h5 (.inl rfl)).2⟩
    · obtain ⟨b1, w1, hm1, h1⟩ := hmk h3
      obtain ⟨b2, w2, hm2, h2⟩ := hmk h1
      exact ⟨_, _, _, w1, hm1, h1.ext.x _, _, _, _, w2, hm2, h2.ext.x _, alp h2 fun bg w5 h5 => key bg w5 b2 b1 b _ h5 (by simp) (by simp) (by simp) (by simp) (fin2 (b1 := b2) (b2 := b1) h5 (.inl rfl)).1⟩
end Go.Pl.Try

/- What '(*palings/harden.hazard).node' does, read off its translation by gen.py. -/
namespace Go.Pl.Try
set_option linter.unusedVariables false
set_option maxRecDepth 100000
def F48 (h1 : Option Addr) (v2 : Int) (w : World) (R : Value → World → Prop) : Prop :=
  ptAt h1 fun b3 o4 =>
  ∃ (x5 : Option Nat), cel w b3 (o4 + 5) = some (.map x5) ∧
  ∃ (x6 : Int) (x7 : Bool), Sem.run Pg (Instr.lookup 77 (.map x5) (.int .i64 v2) true) w = .ok (.tuple ⟨[.int .i64 x6, .bool x7]⟩) w ∧
  R (.tuple ⟨[.int .i64 x6, .bool x7]⟩) w
def T48 : List Sh := [.v (.one .ptr), .v (.one (.int .i64)), .v (.one .any), .v (.one .any), .v (.one (.int .i64)), .v (.one .bool), .v (.one (.int .i64)), .v (.one .bool), .t [(.one (.int .i64)), (.one .bool)], .v (.one .ptr), .v (.one .ptr), .v (.one .ptr), .v (.one .map), .v (.one (.int .i64)), .t [(.one (.int .i64)), (.one .bool)], .v (.one (.int .i64)), .v (.one .bool), .v (.one (.int .i64)), .v (.one .bool)]
def A48 : Ann := (.seq none .z (.seq none .z (.seq none .z .z)))
theorem F48_eq (h1 : Option Addr) (v2 : Int) (w : World) (R : Value → World → Prop) : F48 h1 v2 w R = denF Go.Proofs.Try.prog T48 Go.Proofs.Try.f48 A48 [.pointer h1, .int .i64 v2] w R := by kernel_rfl
theorem F48_ok (h1 : Option Addr) (v2 : Int) {w : World} {R : Value → World → Prop} (h : F48 h1 v2 w R) : CallP Go.Proofs.Try.prog 48 [.pointer h1, .int .i64 v2] w R :=
  calls_den (fun _ => drawn (by kernel_rfl)) Go.Proofs.Try.func48 (Nat.le_of_ble_eq_true (by kernel_rfl)) ((F48_eq h1 v2 w R).mp h)
end Go.Pl.Try

/- What '(*palings/harden.hazard).way' does, read off its translation by gen.py. -/
namespace Go.Pl.Try
set_option linter.unusedVariables false
set_option maxRecDepth 100000
def F78 (h1 : Option Addr) (from2 : Int) (to3 : Int) (w : World) (R : Value → World → Prop) : Prop :=
  CallP Pg 48 [.pointer h1, .int .i64 from2] w fun v4 w5 => ∃ (x6 : Int) (x7 : Bool), v4 = .tuple ⟨[.int .i64 x6, .bool x7]⟩ ∧
  CallP Pg 48 [.pointer h1, .int .i64 to3] w5 fun v8 w9 => ∃ (x10 : Int) (x11 : Bool), v8 = .tuple ⟨[.int .i64 x10, .bool x11]⟩ ∧
  sp x7
  (sp x11
  (ptAt h1 fun b12 o13 =>
  ∃ (ax14 : Option Addr) (nx14 cx14 : Nat), cel w9 b12 (o13 + 1) = some (.slice ax14 nx14 cx14) ∧
  AlP 84 [.int .i64 x6, .int .i64 x10] w9 fun b15 w16 =>
  ∃ (ax17 : Option Addr) (nx17 cx17 : Nat), ∃ w18 : World, Sem.run Pg (Builtin.append_ #[60, 60] 60 ⟨[.slice ax14 nx14 cx14, .slice (some ⟨b15, 0, none⟩) 1 1]⟩) w16 = .ok (.slice ax17 nx17 cx17) w18 ∧
  ptAt h1 fun b19 o20 =>
  StP b19 (o20 + 1) [.slice ax17 nx17 cx17] w18 fun w21 =>
  R (.tuple ⟨[]⟩) w21)
  (R (.tuple ⟨[]⟩) w9))
  (R (.tuple ⟨[]⟩) w9)
def T78 : List Sh := [.v (.one .ptr), .v (.one (.int .i64)), .v (.one (.int .i64)), .v (.one .any), .v (.one .any), .v (.one .any), .v (.one (.int .i64)), .v (.one .bool), .v (.one (.int .i64)), .v (.one .bool), .t [(.one (.int .i64)), (.one .bool)], .v (.one .ptr), .v (.one (.int .i64)), .t [(.one (.int .i64)), (.one .bool)], .v (.one (.int .i64)), .v (.one .bool), .t [(.one (.int .i64)), (.one .bool)], .v (.one .ptr), .v (.one (.int .i64)), .t [(.one (.int .i64)), (.one .bool)], .v (.one (.int .i64)), .v (.one .bool), .v (.one .bool), .v (.one .bool), .v (.one .bool), .v (.one .bool), .v (.one .ptr), .v (.one .ptr), .v (.one .ptr), .v (.one .ptr), .v (.one .ptr), .v (.one .sl), .v (.one (.int .i64)), .v (.one (.int .i64)), .v (.agg [(.int .i64), (.int .i64)]), .v (.one .sl), .v (.one .sl), .v (.one .ptr), .v (.one .ptr), .v (.one .ptr)]
def A78 : Ann := (.seq none .z (.seq none .z (.ifs none none .z .z)))
theorem F78_eq (h1 : Option Addr) (from2 : Int) (to3 : Int) (w : World) (R : Value → World → Prop) : F78 h1 from2 to3 w R = denF Go.Proofs.Try.prog T78 Go.Proofs.Try.f78 A78 [.pointer h1, .int .i64 from2, .int .i64 to3] w R := by kernel_rfl
theorem F78_ok (h1 : Option Addr) (from2 : Int) (to3 : Int) {w : World} {R : Value → World → Prop} (h : F78 h1 from2 to3 w R) : CallP Go.Proofs.Try.prog 78 [.pointer h1, .int .i64 from2, .int .i64 to3] w R :=
  calls_den (fun _ => drawn (by kernel_rfl)) Go.Proofs.Try.func78 (Nat.le_of_ble_eq_true (by kernel_rfl)) ((F78_eq h1 from2 to3 w R).mp h)
end Go.Pl.Try

/- Hazards: a value's place, a way: walked. -/
namespace Go.Pl.Try
open M
set_option linter.unusedVariables false
/-- Where the parts of a net of hazards lie. -/
structure HzM where
  bh : Nat
  bm : Nat
  sw : RowV
  sy : RowV
  sf : RowV
  st : RowV
  sv : RowV
  om : Obj
def twos (l : List (Int × Int)) : List Value := l.flatMap fun p => [.int .i64 p.1, .int .i64 p.2]
def HzM.cells (m : HzM) : List Value := [m.sw.val, m.sy.val, m.sf.val, m.st.val, m.sv.val, .map (some m.bm)]
def HzL (m : HzM) (z : Hz) : List (Nat × Obj) :=
  (m.bh, Cl 98 m.cells) :: (m.bm, m.om) :: (m.sw.r.L 2 (ints z.weights) ++ (m.sy.r.L 84 (twos z.ways) ++ (m.sf.r.L 3 (ints z.frm) ++ (m.st.r.L 3 (ints z.to) ++ m.sv.r.L 3 (ints z.vals)))))
structure HzOk (m : HzM) (z : Hz) : Prop where
  w : m.sw.Ok 1 (ints z.weights)
  y : m.sy.Ok 2 (twos z.ways)
  f : m.sf.Ok 1 (ints z.frm)
  t : m.st.Ok 1 (ints z.to)
  v : m.sv.Ok 1 (ints z.vals)
  m : MapO (fun k => (z.at_ k).map (Value.int .i64)) m.om
theorem twos_len (l : List (Int × Int)) : (twos l).length = l.length * 2 := by
  induction l with
  | nil => rfl
  | cons a l ih => simp only [twos] at ih ⊢; rw [List.flatMap_cons, List.length_append, ih]; simp; omega
theorem okN {s : RowV} {l : List Int} (h : s.Ok 1 (ints l)) : s.n = l.length := by have := Sls.n_eq h; simpa using this
theorem okN2 {s : RowV} {l : List (Int × Int)} (h : s.Ok 2 (twos l)) : s.n = l.length := by have := h.1; rw [twos_len] at this; omega
theorem mpAt : mpT Pg 77 3 = true := by kernel_rfl
theorem zIntV : zeroOf Pg 3 = some (.int .i64 0) := by kernel_rfl
theorem slTwos : slT Pg 60 84 2 16 = true := by kernel_rfl
theorem slI64 : slT Pg 59 2 1 8 = true := by kernel_rfl
section
variable {w0 w : World} {F : List (Nat × Obj)} {m : HzM} {z : Hz}
theorem HzL.cell (h : Hp w0 w (F ++ HzL m z)) {i : Nat} {v : Value} (hv : m.cells[i]? = some v) : cel w m.bh (0 + i) = some v := by
  rw [Nat.zero_add]
  exact h.cl F.length (b := m.bh) (e := 98) (vs := m.cells) (by rw [List.getElem?_append_right (Nat.le_refl _), Nat.sub_self]; rfl) hv
theorem HzL.map (h : Hp w0 w (F ++ HzL m z)) (hok : HzOk m z) : RMap w (some m.bm) (fun k => (z.at_ k).map (Value.int .i64)) :=
  h.rmap (F.length + 1) (o := m.om) (by rw [List.getElem?_append_right (by omega), show F.length + 1 - F.length = 1 by omega]; rfl) hok.m
theorem node_w (h : Hp w0 w (F ++ HzL m z)) (hok : HzOk m z) (v : Int) :
    CallP Pg 48 [.pointer (some ⟨m.bh, 0, none⟩), .int .i64 v] w fun u w' => u = .tuple ⟨[.int .i64 ((z.at_ v).getD 0), .bool (z.at_ v).isSome]⟩ ∧ w' = w := by
  refine F48_ok _ _ ?_
  refine ptAt_of rfl ⟨_, HzL.cell h rfl, _, _, ?_, rfl, rfl⟩
  rw [look_map2 mpAt zIntV (HzL.map h hok)]
  cases z.at_ v <;> rfl
/-- A store of one of the net's slices. -/
theorem HzL.put {m' : HzM} (hb : m'.bh = m.bh) {z' : Hz} {L : List (Nat × Obj)} (h : Hp w0 w (F ++ (m.bh, Cl 98 m.cells) :: L)) {i : Nat} {v : Value} (hv : m.cells.set i v = m'.cells) (hi : i < 6) (h1 : v.oneCell' = true)
    (hL : (m'.bh, Cl 98 m'.cells) :: L = HzL m' z') {K : World → Prop} (k : ∀ w1, Hp w0 w1 (F ++ HzL m' z') → K w1) : StP m.bh (0 + i) [v] w K := by
  refine stp h F.length (b := m.bh) (e := 98) (old := m.cells) (by rw [List.getElem?_append_right (Nat.le_refl _), Nat.sub_self]; rfl) (by simp [HzM.cells]; omega) (by simp [h1]) fun w1 h2 => k w1 ?_
  rw [List.set_append_right _ _ (Nat.le_refl _), Nat.sub_self, List.set_cons_zero] at h2
  have e : splice m.cells (0 + i) [v] = m'.cells := by
    have := set_splice (fun x : Value => x) m.cells i v (by simp [HzM.cells]; omega)
    rw [Nat.zero_add, ← hv]
    simpa using this
  rw [e, ← hb, hL] at h2
  exact h2
theorem way_w (h : Hp w0 w (F ++ HzL m z)) (hok : HzOk m z) (a b : Int) (hn : z.ways.length ≤ 4398046511104) :
    CallP Pg 78 [.pointer (some ⟨m.bh, 0, none⟩), .int .i64 a, .int .i64 b] w fun u w' => u = .tuple ⟨[]⟩ ∧ ∃ m', m'.bh = m.bh ∧ Hp w0 w' (F ++ HzL m' (z.way a b)) ∧ HzOk m' (z.way a b) := by
  refine F78_ok _ _ _ ?_
  refine (node_w h hok a).mono ?_
  rintro v w5 ⟨rfl, rfl⟩
  refine ⟨_, _, rfl, (node_w h hok b).mono ?_⟩
  rintro v w9 ⟨rfl, rfl⟩
  have hskip : z.at_ a = none ∨ z.at_ b = none → z.way a b = z := by
    intro ho
    unfold Hz.way
    rcases ho with ho | ho
    · rw [ho]
    · rw [ho]; cases z.at_ a <;> rfl
  refine ⟨_, _, rfl, sp_of (fun ha => sp_of (fun hb => ?_) (fun hb => ?_)) (fun ha => ?_)⟩
  · obtain ⟨x, hx⟩ := Option.isSome_iff_exists.1 ha
    obtain ⟨y, hy⟩ := Option.isSome_iff_exists.1 hb
    have hw : z.way a b = { z with ways := z.ways ++ [(x, y)] } := by unfold Hz.way; rw [hx, hy]
    rw [hw, hx, hy]
    refine ptAt_of rfl ⟨_, _, _, HzL.cell h (i := 1) rfl, ?_⟩
    refine alp h fun b15 w16 h16 => ?_
    obtain ⟨a', c', w18, r', hrun, hs, h18⟩ := app1 (ty := 60) slTwos (by omega) hok.y ((b15, Cl 84 [.int .i64 x, .int .i64 y]) :: (F ++ (m.bh, Cl 98 m.cells) :: (m.bm, m.om) :: m.sw.r.L 2 (ints z.weights)))
      (L := m.sf.r.L 3 (ints z.frm) ++ (m.st.r.L 3 (ints z.to) ++ m.sv.r.L 3 (ints z.vals))) (by simpa [HzL] using h16) 0 rfl rfl rfl (by rw [okN2 hok.y]; simp only [maxLen]; omega) (by rw [okN2 hok.y]; omega)
    refine ⟨_, _, _, w18, hrun, ptAt_of rfl ?_⟩
    have ht : twos z.ways ++ [.int .i64 x, .int .i64 y] = twos (z.ways ++ [(x, y)]) := by simp [twos]
    rw [ht] at hs h18
    refine HzL.put (m := m) (m' := { m with sy := ⟨a', m.sy.n + 1, c', r'⟩ }) (z' := { z with ways := z.ways ++ [(x, y)] }) rfl (L := (m.bm, m.om) :: (m.sw.r.L 2 (ints z.weights) ++ (r'.L 84 (twos (z.ways ++ [(x, y)])) ++ (m.sf.r.L 3 (ints z.frm) ++ (m.st.r.L 3 (ints z.to) ++ m.sv.r.L 3 (ints z.vals))))))
      (F := (b15, Cl 84 [.int .i64 x, .int .i64 y]) :: F) (by simpa using h18) (i := 1) rfl (by omega) rfl rfl fun w21 h21 => ⟨rfl, { m with sy := ⟨a', m.sy.n + 1, c', r'⟩ }, rfl, h21.drop 1, hok.w, hs, hok.f, hok.t, hok.v, hok.m⟩
  · rw [hskip (.inr (by simpa using hb))]
    exact ⟨rfl, m, rfl, h, hok⟩
  · rw [hskip (.inl (by simpa using ha))]
    exact ⟨rfl, m, rfl, h, hok⟩
end
end Go.Pl.Try

/- What '(*palings/harden.hazard).values' does, read off its translation by gen.py. -/
namespace Go.Pl.Try
set_option linter.unusedVariables false
set_option maxRecDepth 100000
def F46 (x1 : Option Addr) (x2 : ByteArray) (ax3 : Option Addr) (nx3 cx3 : Nat) (x4 : Option Nat) (w : World) (R : Value → World → Prop) : Prop :=
  AlP 29 [.string x2, .slice ax3 nx3 cx3] w fun b5 w6 =>
  ∃ (x7 : ByteArray) (ax8 : Option Addr) (nx8 cx8 : Nat), Row w6 b5 0 [.string x7, .slice ax8 nx8 cx8] ∧
  CallP Pg 13 [.agg ⟨[.string x7, .slice ax8 nx8 cx8]⟩] w6 fun v9 w10 => ∃ (x11 : Option Addr), v9 = .pointer x11 ∧
  CallP Pg 14 [.pointer x11] w10 fun v12 w13 => ∃ (ax14 : Option Addr) (nx14 cx14 : Nat), v12 = .slice ax14 nx14 cx14 ∧
  ∃ (x15 : ByteArray) (ax16 : Option Addr) (nx16 cx16 : Nat), Row w13 b5 0 [.string x15, .slice ax16 nx16 cx16] ∧
  CallP Pg 16 [.agg ⟨[.string x15, .slice ax16 nx16 cx16]⟩] w13 fun v17 w18 => ∃ (ax19 : Option Addr) (nx19 cx19 : Nat), v17 = .slice ax19 nx19 cx19 ∧
  ∃ (ax20 : Option Addr) (nx20 cx20 : Nat), cel w18 b5 1 = some (.slice ax20 nx20 cx20) ∧
  ∃ J21 : Int → World → Nat → Prop, (∃ m24, J21 0 w18 m24) ∧
  ∀ (x22 : Int), ∀ w23 m24, J21 x22 w23 m24 →
  sp (decide ((x22 : Int) < (nx20 : Nat)))
  (∀ K26 : World → Prop, (∀ w27, (
  ∃ m25, m25 < m24 ∧ J21 (IntKind.wrap .i64 (x22 + 1)) w27 m25) → K26 w27) →
  0 ≤ (x22 : Int) ∧ (x22 : Int) < (nx20 : Nat) ∧
  ptAt ax20 fun b28 o29 =>
  ∃ (ax30 : Option Addr) (nx30 cx30 : Nat) (ax31 : Option Addr) (nx31 cx31 : Nat) (x32 : Int) (x33 : Int) (ax34 : Option Addr) (nx34 cx34 : Nat) (x35 : Int), Row w23 b28 (o29 + x22.toNat * 6) [.slice ax30 nx30 cx30, .slice ax31 nx31 cx31, .int .i64 x32, .int .i64 x33, .slice ax34 nx34 cx34, .int .i64 x35] ∧
  AlP 47 [.slice none 0 0, .slice none 0 0, .int .i64 0, .int .i64 0, .slice none 0 0, .int .i64 0] w23 fun b36 w37 =>
  StP b36 0 [.slice ax30 nx30 cx30, .slice ax31 nx31 cx31, .int .i64 x32, .int .i64 x33, .slice ax34 nx34 cx34, .int .i64 x35] w37 fun w38 =>
  0 ≤ (x22 : Int) ∧ (x22 : Int) < (nx19 : Nat) ∧
  ptAt ax19 fun b39 o40 =>
  ∃ (x41 : Bool), cel w38 b39 (o40 + x22.toNat * 1) = some (.bool x41) ∧
  sp (!x41)
  (K26 w38)
  (∃ (ax42 : Option Addr) (nx42 cx42 : Nat), cel w38 b36 0 = some (.slice ax42 nx42 cx42) ∧
  CallP Pg 52 [.slice ax42 nx42 cx42] w38 fun v43 w44 => ∃ (ax45 : Option Addr) (nx45 cx45 : Nat), v43 = .slice ax45 nx45 cx45 ∧
  ∃ (ax46 : Option Addr) (nx46 cx46 : Nat), cel w44 b36 1 = some (.slice ax46 nx46 cx46) ∧
  ∃ J47 : Option Addr → Nat → Nat → Int → World → Nat → Prop, (∃ m51, J47 ax45 nx45 cx45 0 w44 m51) ∧
  ∀ (ax48 : Option Addr) (nx48 cx48 : Nat) (x49 : Int), ∀ w50 m51, J47 ax48 nx48 cx48 x49 w50 m51 →
  sp (decide ((x49 : Int) < (nx46 : Nat)))
  (∀ K53 : Option Addr → Nat → Nat → World → Prop, (∀ (ax54 : Option Addr) (nx54 cx54 : Nat), ∀ w55, (
  ∃ m52, m52 < m51 ∧ J47 ax54 nx54 cx54 (IntKind.wrap .i64 (x49 + 1)) w55 m52) → K53 ax54 nx54 cx54 w55) →
  0 ≤ (x49 : Int) ∧ (x49 : Int) < (nx46 : Nat) ∧
  ptAt ax46 fun b56 o57 =>
  ∃ (x58 : Int) (x59 : Int) (ax60 : Option Addr) (nx60 cx60 : Nat) (x61 : Int) (x62 : Int) (x63 : Int) (x64 : Int), Row w50 b56 (o57 + x49.toNat * 7) [.int .i64 x58, .int .i64 x59, .slice ax60 nx60 cx60, .int .i64 x61, .int .i64 x62, .int .i64 x63, .int .i64 x64] ∧
  AlP 37 [.int .i64 0, .int .i64 0, .slice none 0 0, .int .i64 0, .int .i64 0, .int .i64 0, .int .i64 0] w50 fun b65 w66 =>
  StP b65 0 [.int .i64 x58, .int .i64 x59, .slice ax60 nx60 cx60, .int .i64 x61, .int .i64 x62, .int .i64 x63, .int .i64 x64] w66 fun w67 =>
  ∃ (x68 : Int), cel w67 b65 1 = some (.int .i64 x68) ∧
  sp (!decide ((x68 : Int) = 0))
  (∃ (x69 : Int), cel w67 b65 1 = some (.int .i64 x69) ∧
  AlP 3 [.int .i64 x69] w67 fun b70 w71 =>
  ∃ (ax72 : Option Addr) (nx72 cx72 : Nat), ∃ w73 : World, Sem.run Pg (Builtin.append_ #[34, 34] 34 ⟨[.slice ax48 nx48 cx48, .slice (some ⟨b70, 0, none⟩) 1 1]⟩) w71 = .ok (.slice ax72 nx72 cx72) w73 ∧
  K53 ax72 nx72 cx72 w73)
  (K53 ax48 nx48 cx48 w67))
  (∃ J74 : Int → World → Nat → Prop, (∃ m77, J74 0 w50 m77) ∧
  ∀ (x75 : Int), ∀ w76 m77, J74 x75 w76 m77 →
  sp (decide ((x75 : Int) < (nx48 : Nat)))
  (∀ K79 : World → Prop, (∀ w80, (
  ∃ m78, m78 < m77 ∧ J74 (IntKind.wrap .i64 (x75 + 1)) w80 m78) → K79 w80) →
  0 ≤ (x75 : Int) ∧ (x75 : Int) < (nx48 : Nat) ∧
  ptAt ax48 fun b81 o82 =>
  ∃ (x83 : Int), cel w76 b81 (o82 + x75.toNat * 1) = some (.int .i64 x83) ∧
  ∃ (x84 : Int), Sem.run Pg (Instr.lookup 80 (.map x4) (.int .i64 x83) false) w76 = .ok (.int .i64 x84) w76 ∧
  sp (decide ((x84 : Int) = 1))
  (ptAt x1 fun b85 o86 =>
  ∃ (x87 : Option Nat), cel w76.drew b85 (o86 + 5) = some (.map x87) ∧
  ptAt x1 fun b88 o89 =>
  ∃ (ax90 : Option Addr) (nx90 cx90 : Nat), cel w76.drew b88 (o89 + 4) = some (.slice ax90 nx90 cx90) ∧
  ∃ w91 : World, Sem.run Pg (Instr.mapUpdate 77 (.map x87) (.int .i64 x83) (.int .i64 (nx90 : Nat))) w76.drew = .ok () w91 ∧
  ptAt x1 fun b92 o93 =>
  ∃ (ax94 : Option Addr) (nx94 cx94 : Nat), cel w91 b92 (o93 + 4) = some (.slice ax94 nx94 cx94) ∧
  AlP 3 [.int .i64 x83] w91 fun b95 w96 =>
  ∃ (ax97 : Option Addr) (nx97 cx97 : Nat), ∃ w98 : World, Sem.run Pg (Builtin.append_ #[34, 34] 34 ⟨[.slice ax94 nx94 cx94, .slice (some ⟨b95, 0, none⟩) 1 1]⟩) w96 = .ok (.slice ax97 nx97 cx97) w98 ∧
  ptAt x1 fun b99 o100 =>
  StP b99 (o100 + 4) [.slice ax97 nx97 cx97] w98 fun w101 =>
  ptAt x1 fun b102 o103 =>
  ∃ (ax104 : Option Addr) (nx104 cx104 : Nat), cel w101.drew b102 o103 = some (.slice ax104 nx104 cx104) ∧
  0 ≤ (x22 : Int) ∧ (x22 : Int) < (nx14 : Nat) ∧
  ptAt ax14 fun b105 o106 =>
  ∃ (x107 : Int), cel w101.drew b105 (o106 + x22.toNat * 1) = some (.int .i64 x107) ∧
  CallP Pg 77 [.int .i64 x107] w101.drew fun v108 w109 => ∃ (x110 : Int), v108 = .int .i64 x110 ∧
  Ext w101.drew w109 ∧
  AlP 2 [.int .i64 x110] w109 fun b111 w112 =>
  Ext w101.drew w112 ∧
  ∃ (ax113 : Option Addr) (nx113 cx113 : Nat), ∃ w114 : World, Sem.run Pg (Builtin.append_ #[59, 59] 59 ⟨[.slice ax104 nx104 cx104, .slice (some ⟨b111, 0, none⟩) 1 1]⟩) w112 = .ok (.slice ax113 nx113 cx113) w114 ∧
  ptAt x1 fun b115 o116 =>
  StP b115 o116 [.slice ax113 nx113 cx113] w114 fun w117 =>
  K79 w117)
  (K79 w76))
  (K26 w76))))
  (R (.tuple ⟨[]⟩) w23)
def T46 : List Sh := [.v (.one .ptr), .v (.agg [.str, .sl]), .v (.one .map), .v (.one .any), .v (.one .ptr), .v (.one .any), .v (.one .sl), .v (.one .sl), .v (.one (.int .i64)), .v (.one .ptr), .v (.one .sl), .v (.one .any), .v (.one .ptr), .v (.one .any), .v (.one (.int .i64)), .v (.agg [.str, .sl]), .v (.one .ptr), .v (.one .sl), .v (.agg [.str, .sl]), .v (.one .sl), .v (.one .ptr), .v (.one .sl), .v (.one (.int .i64)), .v (.one (.int .i64)), .v (.one .bool), .v (.one (.int .i64)), .v (.one .ptr), .v (.agg [.sl, .sl, (.int .i64), (.int .i64), .sl, (.int .i64)]), .v (.one .sl), .v (.one (.int .i64)), .v (.one .ptr), .v (.one .bool), .v (.one .bool), .v (.one .ptr), .v (.one .sl), .v (.one .sl), .v (.one .ptr), .v (.one .sl), .v (.one (.int .i64)), .v (.one (.int .i64)), .v (.one .bool), .v (.one .ptr), .v (.agg [(.int .i64), (.int .i64), .sl, (.int .i64), (.int .i64), (.int .i64), (.int .i64)]), .v (.one .ptr), .v (.one (.int .i64)), .v (.one .bool), .v (.one .sl), .v (.one .ptr), .v (.one (.int .i64)), .v (.one .sl), .v (.one .sl), .v (.one (.int .i64)), .v (.one .sl), .v (.one (.int .i64)), .v (.one (.int .i64)), .v (.one .bool), .v (.one .ptr), .v (.one (.int .i64)), .v (.one .map), .v (.one (.int .i64)), .v (.one (.int .i64)), .v (.one .bool), .v (.one .ptr), .v (.one .ptr), .v (.one .ptr), .v (.one .map), .v (.one (.int .i64)), .v (.one .ptr), .v (.one .ptr), .v (.one .ptr), .v (.one .sl), .v (.one (.int .i64)), .v (.one .ptr), .v (.one .ptr), .v (.one .ptr), .v (.one .ptr), .v (.one .sl), .v (.one (.int .i64)), .v (.one .sl), .v (.one .sl), .v (.one .ptr), .v (.one .ptr), .v (.one .ptr), .v (.one .ptr), .v (.one .ptr), .v (.one .ptr), .v (.one .ptr), .v (.one .sl), .v (.one .sl), .v (.one (.int .i64)), .v (.one .ptr), .v (.one (.int .i64)), .v (.one (.int .i64)), .v (.one .sl), .v (.one .sl), .v (.one .ptr), .v (.one .ptr), .v (.one .ptr), .v (.one (.int .i64)), .v (.one (.int .i64))]
def A46 : Ann := (.seq none .z (.seq none .z (.seq none .z (.seq none .z (.block none (.loop [23] (.seq none .z (.seq none (.cond .z .z) (.seq none (.block (some []) (.seq none .z (.seq none (.seq none .z (.cond .z .z)) (.seq none .z (.seq none (.seq none .z (.block none (.loop [10, 39] (.seq none .z (.seq none (.cond .z .z) (.seq none (.block (some [10]) (.seq none .z (.seq none .z (.cond .z .z)))) .z)))))) (.seq none .z (.block none (.loop [54] (.seq none .z (.seq none (.cond .z .z) (.seq none (.block (some []) (.seq none .z (.seq none .z (.cond (.seq none (.dr [0, 0, 0, 1, 0, 0, 0, 0, 1, 0, 3] [0, 1, 2, 3, 4, 5, 6, 7, 8, 9, 10]) (.seq none .z (.dr [0, 0, 0, 0, 0, 1, 0, 0, 0, 1, 2, 2, 3, 0, 0, 0, 3] [0, 1, 2, 3, 4, 5, 6, 7, 8, 9, 10, 11, 12, 13, 14, 15, 16]))) .z)))) .z))))))))))) .z)))))))))
theorem F46_eq (x1 : Option Addr) (x2 : ByteArray) (ax3 : Option Addr) (nx3 cx3 : Nat) (x4 : Option Nat) (w : World) (R : Value → World → Prop) : F46 x1 x2 ax3 nx3 cx3 x4 w R = denF Go.Proofs.Try.prog T46 Go.Proofs.Try.f46 A46 [.pointer x1, .agg ⟨[.string x2, .slice ax3 nx3 cx3]⟩, .map x4] w R := by kernel_rfl
theorem F46_ok (x1 : Option Addr) (x2 : ByteArray) (ax3 : Option Addr) (nx3 cx3 : Nat) (x4 : Option Nat) {w : World} {R : Value → World → Prop} (h : F46 x1 x2 ax3 nx3 cx3 x4 w R) : CallP Go.Proofs.Try.prog 46 [.pointer x1, .agg ⟨[.string x2, .slice ax3 nx3 cx3]⟩, .map x4] w R :=
  calls_den (fun _ => drawn (by kernel_rfl)) Go.Proofs.Try.func46 (Nat.le_of_ble_eq_true (by kernel_rfl)) ((F46_eq x1 x2 ax3 nx3 cx3 x4 w R).mp h)
end Go.Pl.Try
