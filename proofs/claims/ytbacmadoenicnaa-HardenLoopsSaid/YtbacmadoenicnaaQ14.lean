/- Joined texts of the proof, part 14: WOf, Iter, F21, F8, WVals, Model12, WSane, Model13, F6, WHead. -/
import Derived.Test.YtbacmadoenicnaaQ13
import Derived.Shelf.SlIterI.Nil
import Derived.Shelf.SortM.Plain
import Derived.Shelf.SortM.SortNone
import Derived.Ground.GgzProg
import Derived.Ground.SlgmProg
import Derived.Test.YtbacmadoenicnaaProg
set_option maxRecDepth 2000
set_option linter.unusedVariables false
set_option linter.unusedSimpArgs false
set_option linter.unusedSectionVars false
/- Where fences stand: walked. -/
namespace Go.Pl.Try
open M
set_option linter.unusedVariables false
def trues (ks : List Int) : List (Int × Value) := ks.map fun k => (k, Value.bool true)
theorem trues_put (ks : List Int) (k : Int) : mput (trues ks) k (.bool true) = trues (kput ks k) := by
  unfold mput kput trues
  rw [List.any_map]
  by_cases h : ks.any (fun x => x == k) = true
  · have h' : ks.any ((fun p : Int × Value => p.1 == k) ∘ fun k => (k, Value.bool true)) = true := h
    rw [if_pos h', if_pos h, List.map_map]
    refine List.map_congr_left fun x _ => ?_
    simp only [Function.comp]
    split
    · rename_i e; rw [e]
    · rfl
  · have h' : ¬ ks.any ((fun p : Int × Value => p.1 == k) ∘ fun k => (k, Value.bool true)) = true := h
    rw [if_neg h', if_neg h, List.map_append]
    rfl
theorem trues_get (ks : List Int) (k : Int) : mget (trues ks) k = if k ∈ ks then some (.bool true) else none := by
  unfold mget trues
  by_cases h : k ∈ ks
  · rw [if_pos h]
    have : (ks.map fun k => (k, Value.bool true)).find? (fun p => p.1 == k) = some (k, .bool true) := by
      induction ks with
      | nil => cases h
      | cons x ks ih =>
        rw [List.map_cons, List.find?_cons]
        by_cases e : x = k
        · subst e; simp
        · have : (x == k) = false := by simpa using e
          simp only [this]
          exact ih (by simpa [Ne.symm e] using h)
    rw [this]; rfl
  · rw [if_neg h]
    have : (ks.map fun k => (k, Value.bool true)).find? (fun p => p.1 == k) = none := by
      rw [List.find?_eq_none]
      rintro p hp
      obtain ⟨x, hx, rfl⟩ := List.mem_map.1 hp
      simp only [beq_iff_eq]
      intro e
      exact h (e ▸ hx)
    rw [this]; rfl
/-- The values that are cut, by functions, as they lie. -/
def RCuts (w : World) (a : Option Addr) (n : Nat) (cut : Nat → List Int) : Prop := ∀ k, k < n → ∃ b o mb ob, a = some ⟨b, o, none⟩ ∧ cel w b (o + k * 1) = some (.map (some mb)) ∧ w.heap[mb]? = some ob ∧ MpO (trues (cut k)) ob
theorem RCuts.ext {w w' : World} {a : Option Addr} {n : Nat} {cut : Nat → List Int} (h : RCuts w a n cut) (hx : Ext w w') : RCuts w' a n cut := fun k hk =>
  let ⟨b, o, mb, ob, h1, h2, h3, h4⟩ := h k hk
  ⟨b, o, mb, ob, h1, hx.cel h2, by rw [hx.blk mb (Array.getElem?_eq_some_iff.1 h3).1]; exact h3, h4⟩
theorem RCuts.cutV {w : World} {a : Option Addr} {n : Nat} {cut : Nat → List Int} (h : RCuts w a n cut) : CutV w a n n ((List.range n).map fun k v => decide (v ∈ cut k)) := by
  refine ⟨by simp, fun f hf => ⟨fun _ => ?_, fun hn => by omega⟩⟩
  obtain ⟨b, o, mb, ob, h1, h2, h3, h4⟩ := h f hf
  have hat : ∀ k, cutAt ((List.range n).map fun k v => decide (v ∈ cut k)) f k = decide (k ∈ cut f) := by
    intro k
    unfold cutAt
    rw [List.getD_eq_getElem?_getD, List.getElem?_map, List.getElem?_range hf]
    rfl
  refine ⟨b, o, some mb, fun k => if k ∈ cut f then some (.bool true) else none, h1, h2, ⟨ob, h3, _, h4, trues_get _⟩, fun k v hv => ?_, fun k => ?_⟩
  · simp only at hv
    split at hv
    · cases hv; exact ⟨true, rfl⟩
    · cases hv
  · rw [hat]
    by_cases hk : k ∈ cut f <;> simp [hk]
def RPlc (_ : World) (vs : List Value) (x : Plc) : Prop := vs = [.int .i64 x.1, .int .i64 x.2.1, .int .i64 x.2.2]
def threes (l : List Plc) : List Value := l.flatMap fun p => [.int .i64 p.1, .int .i64 p.2.1, .int .i64 p.2.2]
theorem threes_len (l : List Plc) : (threes l).length = l.length * 3 := by
  induction l with
  | nil => rfl
  | cons a l ih => simp only [threes] at ih ⊢; rw [List.flatMap_cons, List.length_append, ih]; simp; omega
theorem threes_at {l : List Plc} {i : Nat} {s : Plc} (h : l[i]? = some s) : ((threes l).drop (i * 3)).take 3 = [.int .i64 s.1, .int .i64 s.2.1, .int .i64 s.2.2] := by
  induction l generalizing i with
  | nil => simp at h
  | cons a l ih =>
    unfold threes
    rw [List.flatMap_cons]
    cases i with
    | zero => simp only [List.getElem?_cons_zero, Option.some.injEq] at h; subst h; simp
    | succ i =>
      rw [show (i + 1) * 3 = ([.int .i64 a.1, .int .i64 a.2.1, .int .i64 a.2.2] : List Value).length + i * 3 by simp; omega, List.drop_length_add_append]
      exact ih (by simpa using h)
theorem RdPlc.ext {w w' : World} {a : Option Addr} {n : Nat} {xs : List Plc} (h : RdS 3 RPlc w a n xs) (hx : Ext w w') : RdS 3 RPlc w' a n xs := RdS.ext (w := w) (R := RPlc) (fun _ _ h => h) hx h
theorem slCutMaps : slT Pg 48 56 1 8 = true := by kernel_rfl
theorem slPlcs : slT Pg 49 102 3 24 = true := by kernel_rfl
theorem mpCut : mpT Pg 56 4 = true := by kernel_rfl
/-- A net of hazards, read. -/
theorem HzL.net {w0 w : World} {F : List (Nat × Obj)} {m : HzM} {z : Hz} (h : Hp w0 w (F ++ HzL m z)) (hok : HzOk m z) : RNet w [m.sw.val, m.sy.val, m.sf.val, m.st.val] z.net ∧ RdI w m.sv.a m.sv.n z.vals := by
  have rd : ∀ {s : RowV} {l : List Int} {e : TypeId}, s.Ok 1 (ints l) → (∀ p ∈ s.r.L e (ints l), p ∈ F ++ HzL m z) → RdI w s.a s.n l := fun hs hm => rdI_owns hs fun p hp => (h.own p (hm p hp)).2
  have hy : RdS 2 RTwo w m.sy.a m.sy.n z.ways := by
    have h2 : Hp w0 w ((F ++ (m.bh, Cl 98 m.cells) :: (m.bm, m.om) :: m.sw.r.L 2 (ints z.weights)) ++ (m.sy.r.L 84 (twos z.ways) ++ (m.sf.r.L 3 (ints z.frm) ++ (m.st.r.L 3 (ints z.to) ++ m.sv.r.L 3 (ints z.vals))))) := by simpa [HzL] using h
    exact Sls.rd hok.y _ h2 (okN2 hok.y).symm fun i x hx => twos_at hx
  refine ⟨⟨_, _, _, _, _, _, _, _, _, _, _, _, rfl, rd (l := z.weights) (e := 2) hok.w (fun p hp => by simp [HzL, hp]), hy, rd (l := z.frm) (e := 3) hok.f (fun p hp => by simp [HzL, hp]), rd (l := z.to) (e := 3) hok.t (fun p hp => by simp [HzL, hp])⟩, rd (e := 3) hok.v (fun p hp => by simp [HzL, hp])⟩
theorem HzL.row4 {w0 w : World} {F : List (Nat × Obj)} {m : HzM} {z : Hz} (h : Hp w0 w (F ++ HzL m z)) : Row w m.bh 0 [.slice m.sw.a m.sw.n m.sw.c, .slice m.sy.a m.sy.n m.sy.c, .slice m.sf.a m.sf.n m.sf.c, .slice m.st.a m.st.n m.st.c] := by
  intro i v hi
  refine HzL.cell h (i := i) (v := v) ?_
  unfold HzM.cells
  match i, hi with
  | 0, h => exact h
  | 1, h => exact h
  | 2, h => exact h
  | 3, h => exact h
/-- A run of 'Of'. -/
structure OfRun (p : Prg) (S1 : TS) (fl : Nat → Fl) (S2 : TS) : Prop where
  sane : Sane p
  go1 : ∃ k, TS.go p p.noCut p.writes k p.start = some S1
  fit : ∀ k, k < p.funcs.length → (p.hz S1 k).net.Fit
  run : ∀ k, k < p.funcs.length → LeastRun (p.hz S1 k).net (fl k)
  go2 : ∃ k, TS.go p (p.newCut S1 fl) p.writes k p.start = some S2
/-- What 'Of' hands back of a program that is right. -/
def RPlan (w : World) (vs : List Value) (nf : Nat) (cut : Nat → List Int) (gs : List Plc) (wt : Int) : Prop := ∃ ac cc ag ng cg, vs = [.slice ac nf cc, .slice ag ng cg, .int .i64 wt] ∧ RCuts w ac nf cut ∧ RdS 3 RPlc w ag ng gs
theorem hof_w {w : World} {p : Prg} {vs : List Value} (h : RProg w vs p) (hl : p.Lim) {S1 S2 : TS} {fl : Nat → Fl} (hrun : p.check = true → OfRun p S1 fl S2) :
    CallP Pg 7 [.agg ⟨vs⟩] w fun u w' => Ext w w' ∧ (p.check = false → u = .tuple ⟨[.agg ⟨[.slice none 0 0, .slice none 0 0, .int .i64 0]⟩, .int .i64 40]⟩) ∧
      (p.check = true → ∃ us, u = .tuple ⟨[.agg ⟨us⟩, .int .i64 0]⟩ ∧ RPlan w' us p.funcs.length (p.cutKeys S1 fl) (places (p.sinks S2)) (sumTo (p.cutWt S1 fl) p.funcs.length)) := by
  have hP := h
  obtain ⟨aa, na, ca, af, nf, cf, rfl, harr, hfun⟩ := h
  have hfl := hfun.len
  have hfl' := hl.funcs
  rw [hfl] at hfl'
  simp only [lim] at hfl'
  refine F7_ok _ _ _ _ _ _ _ ?_
  unfold F7
  refine alp (Hp.refl w) fun b4 w5 h5 => alp h5 fun b6 w7 h7 => ⟨_, _, _, _, _, _, _, h7.row 1 rfl, ?_⟩
  have hno : CutV w7 none 0 p.funcs.length p.noCut := by
    refine ⟨by simp [Prg.noCut], fun f hf => ⟨fun h => by omega, fun _ k => ?_⟩⟩
    unfold cutAt Prg.noCut
    rw [List.getD_eq_getElem?_getD, List.getElem?_replicate, if_pos hf]; rfl
  refine (taintOf_w (hP.ext h7.ext) hl (cc := 0) hno (fin := S1) (fun hc => (hrun hc).go1)).mono ?_
  rintro v w12 ⟨hx12, hyes, hnot⟩
  have h12 := h7.step hx12
  cases hck : p.check with
  | false =>
    obtain rfl := hnot hck
    refine ⟨_, _, _, _, _, _, _, _, _, _, _, _, _, rfl, ?_⟩
    refine alp h12 fun b18 w19 h19 => ?_
    refine stp h19 0 rfl (by simp) rfl fun w20 h20 => sp_true rfl ?_
    refine stp h20 1 rfl (by simp) rfl fun w21 h21 => ⟨_, _, _, _, _, _, _, h21.row 1 rfl, h21.ext, fun _ => rfl, fun h => by cases h⟩
  | true =>
  obtain ⟨av, cv, a2, n2, c2, a3, n3, c3, a4, n4, c4, rfl, hlab⟩ := hyes hck
  have hR := hrun hck
  have hsane := hR.sane
  clear hyes hnot hno
  refine ⟨_, _, _, _, _, _, _, _, _, _, _, _, _, rfl, ?_⟩
  have hP12 : RProg w12 _ p := hP.ext h12.ext
  have hrow4 : ∀ {w1 : World}, Ext w12 w1 → Row w1 b4 0 [.slice aa na ca, .slice af nf cf, .int .i64 p.main] ∧ cel w1 b4 1 = some (.slice af nf cf) := fun hx => ⟨hx.row (h12.row 1 rfl), hx.cel (h12.cl 1 rfl rfl)⟩
  refine alp (Hp.refl w12) fun b18 w19 h19 => ?_
  refine stp h19 0 rfl (by simp) rfl fun w20 h20 => sp_false rfl ?_
  obtain ⟨B, hB⟩ : ∃ B : Nat × Obj, B = (b18, Cl 69 [.slice av p.funcs.length cv, .slice a2 n2 c2, .slice a3 n3 c3, .slice a4 n4 c4]) := ⟨_, rfl⟩
  have h20 : Hp w12 w20 [B] := by subst hB; exact h20
  have hrowB : ∀ {w1 : World} {L}, Hp w12 w1 L → B ∈ L → Row w1 b18 0 [.slice av p.funcs.length cv, .slice a2 n2 c2, .slice a3 n3 c3, .slice a4 n4 c4] := by
    intro w1 L h1 hm j v hj
    subst hB
    rw [Nat.zero_add]
    exact cel_of (h1.own _ hm).2 hj
  refine ⟨_, _, _, _, _, _, _, (hrow4 h20.ext).1, _, _, _, _, _, _, _, _, _, _, _, _, hrowB h20 (by simp), ?_⟩
  refine (sinks_w (hP12.ext h20.ext) hl (hlab.ext h20.ext)).mono ?_
  rintro _ w33 ⟨as_, cs, rs, rfl, hss, h33'⟩
  have h33 := h20.call h33'
  refine ⟨_, _, _, rfl, ?_⟩
  obtain ⟨sks, hsks⟩ : ∃ l, l = p.sinks S1 := ⟨_, rfl⟩
  have hsl := Prg.sinks_len S1 hl
  rw [← hsks] at hss h33 hsl ⊢
  clear h33'
  have hsk : ∀ {w1 : World} {L1 L2}, Hp w12 w1 (L1 ++ (rs.L 100 (sks.flatMap snkCells) ++ L2)) → RdS 5 RSnk w1 as_ sks.length sks := fun h1 => Sls.rd hss _ h1 rfl fun i x hx => snk_at hx
  refine alp h33 fun b35 w36 h36 => ⟨_, _, _, (hrow4 h36.ext).2, ?_⟩
  obtain ⟨Ro, hRo⟩ : ∃ R : List (Nat × Obj), R = B :: rs.L 100 (sks.flatMap snkCells) := ⟨_, rfl⟩
  have hBRo : B ∈ Ro := by subst hRo; simp
  have hsk' : ∀ {w1 : World} {L1 L2}, Hp w12 w1 (L1 ++ (Ro ++ L2)) → RdS 5 RSnk w1 as_ sks.length sks := by
    intro w1 L1 L2 h1
    subst hRo
    exact hsk (L1 := L1 ++ [B]) (L2 := L2) (by simpa using h1)
  obtain ⟨pl, hpl⟩ : ∃ pl : Option Addr → Nat → Nat → Int → Nat × Obj, pl = fun a n c x => (b35, Cl 51 [.slice a n c, .slice none 0 0, .int .i64 x]) := ⟨_, rfl⟩
  have h36 : Hp w12 w36 ([pl none 0 0 0] ++ (Ro ++ ((Rw.emp).L 56 [] ++ ([] : List Nat).zip ([] : List Obj)))) := by
    subst hpl hRo
    refine h36.perm ?_
    simp only [Rw.L, List.zip_nil_left, List.append_nil]
    refine List.Perm.cons _ ?_
    exact List.perm_append_comm (l₂ := [B])
  have hfit := hR.fit
  refine ⟨fun i w' k => ∃ (j : Nat) (a : Option Addr) (c : Nat) (r : Rw) (ids : List Nat) (os : List Obj), i = j ∧ j ≤ nf ∧ k = nf - j ∧ ids.length = j ∧ os.length = j ∧ Sls 1 a j c (ids.map fun b => Value.map (some b)) r ∧ (∀ (i : Nat) (o : Obj), os[i]? = some o → MpO (trues (p.cutKeys S1 fl i)) o) ∧
      Hp w12 w' ([pl a j c (sumTo (p.cutWt S1 fl) j)] ++ (Ro ++ (r.L 56 (ids.map fun b => Value.map (some b)) ++ ids.zip os))) ∧ 0 ≤ sumTo (p.cutWt S1 fl) j ∧ sumTo (p.cutWt S1 fl) j ≤ 2147483648000 * (j : Int),
    ⟨nf, 0, none, 0, .emp, [], [], rfl, by omega, by omega, rfl, rfl, Sls.nil 1 none, fun i o h => by simp at h, h36, by simp [sumTo], by simp [sumTo]⟩, ?_⟩
  clear h36 h33 h20 h19
  rintro i w40 k ⟨j, ap, cp, rc, ids, os, rfl, hj, rfl, hidl, hol, hsc, hos, h40, hs0, hs1⟩
  refine sp_dec (fun hlt => ?_) (fun hge => ?_)
  · obtain ⟨f, hf⟩ := at_some (l := p.funcs) (j := j) (by omega)
    obtain ⟨z, hz⟩ : ∃ z, z = p.hz S1 j := ⟨_, rfl⟩
    have hzf : z = hzFn f (S1.get j) p.writes j sks := by rw [hz, Prg.hz, hf, hsks]
    have hfj := hfit j (by omega)
    rw [← hz] at hfj
    have hrunj := hR.run j (by omega)
    rw [← hz] at hrunj
    have hwv : z.weights.length = z.vals.length := by rw [hz]; exact p.hz_wv S1 j
    have hw2000 := (Net.right_weights hfj.right).2
    change z.weights.length ≤ 2000 at hw2000
    obtain ⟨lst, hlst⟩ : ∃ l, l = p.cutList S1 fl j := ⟨_, rfl⟩
    have hlst2 : lst = cutOf (fl j).seek z.weights.length := by rw [hlst, Prg.cutList, ← hz]
    have hlm : ∀ v ∈ lst, 0 ≤ v ∧ v < (z.vals.length : Nat) := fun v hv => by rw [hlst2] at hv; have := cutOf_mem hv; omega
    have hll : lst.length ≤ 2000 := by rw [hlst2]; have := cutOf_len (fl j).seek z.weights.length; omega
    have hkeys : p.cutKeys S1 fl j = z.cutVals lst := by rw [Prg.cutKeys, ← hz, ← hlst]
    have hwt : p.cutWt S1 fl j = z.net.weight lst := by rw [Prg.cutWt, ← hz, ← hlst]
    obtain ⟨L0, hL0⟩ : ∃ L0 : List (Nat × Obj), L0 = Ro ++ (rc.L 56 (ids.map fun b => Value.map (some b)) ++ ids.zip os) := ⟨_, rfl⟩
    refine ⟨_, _, _, _, _, _, _, (hrow4 h40.ext).1, _, _, _, _, _, _, _, _, _, _, _, _, hrowB h40 (by simp [hBRo]), ?_⟩
    refine (graph_w (hP12.ext h40.ext) hsane hf (hlab.ext h40.ext) (hsk' h40) hsl).mono ?_
    rintro _ w51 ⟨m, rfl, h51', hokm⟩
    rw [← hzf] at h51' hokm
    have h51 := h40.call h51'
    obtain ⟨hnet, hvals⟩ := HzL.net (F := []) (by simpa using h51') hokm
    refine ⟨_, rfl, ptAt_of rfl ⟨_, _, _, _, _, _, _, _, _, _, _, _, HzL.row4 (F := []) (by simpa using h51'), ?_⟩⟩
    refine (least_w hnet ⟨hfj.ways, hfj.frm, hfj.to⟩ (fin := fl j) (fun _ => hrunj)).mono ?_
    rintro _ w60 ⟨-, hleast⟩
    obtain ⟨al, cl, rl, rfl, hsl2, h60'⟩ := hleast hfj.right
    have hlst3 : cutOf (fl j).seek z.net.weights.length = lst := hlst2.symm
    rw [hlst3] at hsl2 h60' ⊢
    have h60 := h51.call h60'
    refine ⟨_, _, _, _, rfl, sp_false rfl ?_⟩
    refine alm h60 fun b67 w68 h68 => ?_
    obtain ⟨M1, hM1⟩ : ∃ M1 : List (Nat × Obj), M1 = rl.L 3 (ints lst) ++ (HzL m z ++ ([pl ap j cp (sumTo (p.cutWt S1 fl) j)] ++ L0)) := ⟨_, rfl⟩
    have h68 : Hp w12 w68 ((b67, .map #[] 0) :: M1) := by subst hM1 hL0; exact h68
    refine ⟨fun i w' k => ∃ (u : Nat) (o : Obj) (ks : List Int), i = u ∧ u ≤ lst.length ∧ k = lst.length - u ∧ MpO (trues ks) o ∧ Hp w12 w' ((b67, o) :: M1) ∧ (lst.drop u).foldl (fun ks v => kput ks (z.vals.getD v.toNat 0)) ks = z.cutVals lst,
      ⟨lst.length, 0, .map #[] 0, [], rfl, by omega, by omega, MpO.empty, h68, rfl⟩, ?_⟩
    clear h68 h60 h51
    rintro i w71 k ⟨u, o, ks, rfl, hu, rfl, hmo, h71, hgo⟩
    have hmem : ∀ q ∈ M1, w71.heap[q.1]? = some q.2 := fun q hq => (h71.own q (by simp [hq])).2
    have hown71 : ∀ L1, (∀ q ∈ L1, q ∈ M1) → Owns w71 L1 := fun L1 hs q hq => hmem q (hs q hq)
    have hlrd : RdI w71 al lst.length lst := rdI_owns (e := 3) hsl2 (hown71 _ fun q hq => by subst hM1; simp [hq])
    have hz71 : Hp w12 w71 (((b67, o) :: rl.L 3 (ints lst)) ++ (HzL m z ++ ([pl ap j cp (sumTo (p.cutWt S1 fl) j)] ++ L0))) := by subst hM1; exact h71
    have hz71' : Hp w12 w71 ((((b67, o) :: rl.L 3 (ints lst)) ++ ([pl ap j cp (sumTo (p.cutWt S1 fl) j)] ++ L0)) ++ HzL m z) := hz71.perm (by
      rw [List.append_assoc]
      exact List.Perm.append_left _ List.perm_append_comm)
    refine sp_dec (fun hlt2 => ?_) (fun hge2 => ?_)
    · obtain ⟨v, hv⟩ := at_some (l := lst) (j := u) (by omega)
      rw [drop_cons hv, List.foldl_cons] at hgo
      obtain ⟨hv0, hvn⟩ := hlm v (List.mem_of_getElem? hv)
      obtain ⟨bv, ov, hav, hcv⟩ := RdI.at hlrd hv
      obtain ⟨hnet7, hvals7⟩ := HzL.net hz71' hokm
      have hvn7 := hvals7.len
      obtain ⟨bx, ox, hax, hcx⟩ := RdI.at hvals7 (getD_some (l := z.vals) (d := 0) (i := v.toNat) (by omega))
      have hc4 : cel w71 m.bh (0 + 4) = some m.sv.val := HzL.cell hz71' rfl
      obtain ⟨w83, o', hrun1, hmo', h83⟩ := upd_run mpCut h71 0 rfl hmo (z.vals.getD v.toNat 0) (.bool true)
      rw [trues_put] at hmo'
      exact ⟨by omega, by omega, ptAt_of hav ⟨v, hcv, ptAt_of rfl ⟨_, _, _, hc4, hv0, by omega, ptAt_of hax ⟨_, hcx, w83, hrun1, lst.length - (u + 1), by omega, u + 1, o', _, wrap_succ (by simp only [maxLen]; omega), by omega, rfl, hmo', h83, hgo⟩⟩⟩⟩
    · have hd : lst.drop u = [] := List.drop_of_length_le (by omega)
      rw [hd, List.foldl_nil, ← hkeys] at hgo
      subst hgo
      have hcP : ∀ {w1 : World} {a n c x} {L1 : List (Nat × Obj)}, Hp w12 w1 L1 → pl a n c x ∈ L1 → cel w1 b35 0 = some (.slice a n c) ∧ cel w1 b35 2 = some (.int .i64 x) := by
        intro w1 a n c x L1 h1 hm
        subst hpl
        exact ⟨cel_of (h1.own _ hm).2 rfl, cel_of (h1.own _ hm).2 rfl⟩
      refine ⟨_, _, _, (hcP (a := ap) (n := j) (c := cp) (x := sumTo (p.cutWt S1 fl) j) h71 (by simp [hM1])).1, ?_⟩
      refine alp h71 fun b85 w86 h86 => ?_
      obtain ⟨a', c', w88, r', hrunA, hs', h88⟩ := app1 (ty := 48) slCutMaps (by omega) hsc ((b85, Cl 56 [.map (some b67)]) :: (((b67, o) :: rl.L 3 (ints lst)) ++ (HzL m z ++ ([pl ap j cp (sumTo (p.cutWt S1 fl) j)] ++ Ro))))
        (L := ids.zip os) (by subst hM1 hL0; simpa using h86) 0 rfl rfl rfl (by simp only [maxLen]; omega) (by omega)
      have hide : (ids.map fun b => Value.map (some b)) ++ [.map (some b67)] = (ids ++ [b67]).map fun b => Value.map (some b) := by simp
      rw [hide] at hs' h88
      refine ⟨_, _, _, w88, hrunA, ?_⟩
      -- the plan's cut
      have h88p : Hp w12 w88 ((pl ap j cp (sumTo (p.cutWt S1 fl) j)) :: (((b67, o) :: rl.L 3 (ints lst)) ++ (HzL m z ++ (Ro ++ (r'.L 56 ((ids ++ [b67]).map fun b => Value.map (some b)) ++ ids.zip os))))) := by
        refine (h88.drop 1).perm ?_
        rw [List.cons_append, List.drop_succ_cons, List.drop_zero]
        have e1 : ∀ (A H R X : List (Nat × Obj)) (q : Nat × Obj), (A ++ (H ++ ([q] ++ R)) ++ X).Perm (q :: (A ++ (H ++ (R ++ X)))) := by
          intro A H R X q
          rw [show A ++ (H ++ ([q] ++ R)) ++ X = (A ++ H) ++ (q :: (R ++ X)) by simp]
          refine List.perm_middle.trans ?_
          simp
        exact e1 _ _ _ _ _
      rw [hpl] at h88p
      refine stp h88p 0 rfl (by simp) rfl fun w89 h89 => ?_
      have h89 : Hp w12 w89 ((pl a' (j + 1) c' (sumTo (p.cutWt S1 fl) j)) :: (((b67, o) :: rl.L 3 (ints lst)) ++ (HzL m z ++ (Ro ++ (r'.L 56 ((ids ++ [b67]).map fun b => Value.map (some b)) ++ ids.zip os))))) := by rw [hpl]; exact h89
      have hd89 := h89.drew
      have hz89 : Hp w12 w89.drew (((pl a' (j + 1) c' (sumTo (p.cutWt S1 fl) j)) :: (((b67, o) :: rl.L 3 (ints lst)) ++ (Ro ++ (r'.L 56 ((ids ++ [b67]).map fun b => Value.map (some b)) ++ ids.zip os)))) ++ HzL m z) := hd89.perm (by
        have e1 : ∀ (q : Nat × Obj) (A H R : List (Nat × Obj)), (q :: (A ++ (H ++ R))).Perm ((q :: (A ++ R)) ++ H) := by
          intro q A H R
          rw [List.cons_append, List.append_assoc]
          exact List.Perm.cons _ (List.Perm.append_left _ List.perm_append_comm)
        exact e1 _ _ _ _)
      obtain ⟨hnet9, -⟩ := HzL.net hz89 hokm
      have hlrd9 : RdI w89.drew al lst.length lst := rdI_owns (e := 3) hsl2 fun q hq => (hd89.own q (by simp [hq])).2
      refine ⟨_, (hcP (a := a') (n := j + 1) (c := c') (x := sumTo (p.cutWt S1 fl) j) hd89 (by simp)).2, ptAt_of rfl ⟨_, _, _, _, _, _, _, _, _, _, _, _, HzL.row4 hz89, ?_⟩⟩
      have hwb := (Net.right_weights hfj.right).1
      refine (weight_w hnet9 hlrd9 (fun x hx => by have := hwb x hx; omega) (by omega)).mono ?_
      rintro _ w98 ⟨rfl, hx98⟩
      refine ⟨_, rfl, hx98, ?_⟩
      have h98 := hd89.step hx98
      rw [hpl] at h98
      have hwle := Net.weight_le hfj.right lst
      have hjj : (j : Int) < 1024 := by omega
      have hw1 : IntKind.wrap .i64 (sumTo (p.cutWt S1 fl) j + z.net.weight lst) = sumTo (p.cutWt S1 fl) (j + 1) := by
        rw [sumTo, hwt]
        exact wrap_in (by omega) (by omega)
      rw [hw1]
      refine stp h98 0 rfl (by simp) rfl fun w100 h100 => ?_
      refine ⟨nf - (j + 1), by omega, j + 1, a', c', r', ids ++ [b67], os ++ [o], wrap_succ (by simp only [maxLen]; omega), by omega, rfl, by simp [hidl], by simp [hol], hs', ?_, ?_, ?_, ?_⟩
      · intro i o2 hi
        rw [List.getElem?_append] at hi
        split at hi
        · exact hos i o2 hi
        · rename_i hni
          have : i - os.length = 0 := by
            rcases Nat.eq_zero_or_pos (i - os.length) with h0 | h0
            · exact h0
            · rw [List.getElem?_eq_none (by simp; omega)] at hi; cases hi
          rw [this] at hi
          cases hi
          have : i = j := by omega
          rw [this]; exact hmo
      · have h100 : Hp w12 w100 ((pl a' (j + 1) c' (sumTo (p.cutWt S1 fl) (j + 1))) :: (((b67, o) :: rl.L 3 (ints lst)) ++ (HzL m z ++ (Ro ++ (r'.L 56 ((ids ++ [b67]).map fun b => Value.map (some b)) ++ ids.zip os))))) := by rw [hpl]; exact h100
        have hzip : (ids ++ [b67]).zip (os ++ [o]) = ids.zip os ++ [(b67, o)] := by rw [List.zip_append (by omega)]; rfl
        rw [hzip]
        have e2 : ∀ (A H R X Y : List (Nat × Obj)) (q x : Nat × Obj), List.Sublist (q :: (R ++ (X ++ (Y ++ [x])))) (q :: (A ++ (H ++ (R ++ (X ++ (Y ++ [x])))))) := fun A H R X Y q x => List.Sublist.cons_cons _ ((List.sublist_append_right _ _).trans (List.sublist_append_right _ _))
        refine (h100.perm (L' := (pl a' (j + 1) c' (sumTo (p.cutWt S1 fl) (j + 1))) :: (rl.L 3 (ints lst) ++ (HzL m z ++ (Ro ++ (r'.L 56 ((ids ++ [b67]).map fun b => Value.map (some b)) ++ (ids.zip os ++ [(b67, o)])))))) ?_).sub (e2 _ _ _ _ _ _ _)
        refine List.Perm.cons _ ?_
        have e3 : ∀ (A H R X Y : List (Nat × Obj)) (x : Nat × Obj), ((x :: A) ++ (H ++ (R ++ (X ++ Y)))).Perm (A ++ (H ++ (R ++ (X ++ (Y ++ [x]))))) := by
          intro A H R X Y x
          have : A ++ (H ++ (R ++ (X ++ (Y ++ [x])))) = (A ++ (H ++ (R ++ (X ++ Y)))) ++ [x] := by simp
          rw [this, List.cons_append]
          exact (List.perm_append_singleton x _).symm
        exact e3 _ _ _ _ _ _
      · rw [sumTo, hwt]; omega
      · rw [sumTo, hwt]; omega
  · have hjn : j = nf := by omega
    subst hjn
    have hcP : ∀ {w1 : World} {a n c x} {L1 : List (Nat × Obj)}, Hp w12 w1 L1 → pl a n c x ∈ L1 → cel w1 b35 0 = some (.slice a n c) := by
      intro w1 a n c x L1 h1 hm
      subst hpl
      exact cel_of (h1.own _ hm).2 rfl
    obtain ⟨wt, hwt⟩ : ∃ x, x = sumTo (p.cutWt S1 fl) j := ⟨_, rfl⟩
    rw [← hwt] at h40 hs0 hs1
    have hcuts : ∀ {wb w1 : World} {L1 L2 : List (Nat × Obj)}, Hp wb w1 (L1 ++ (rc.L 56 (ids.map fun b => Value.map (some b)) ++ (ids.zip os ++ L2))) → RCuts w1 ap j (p.cutKeys S1 fl) := by
      intro wb w1 L1 L2 h1 k hk
      obtain ⟨b, hb⟩ := at_some (l := ids) (j := k) (by omega)
      obtain ⟨o, ho⟩ := at_some (l := os) (j := k) (by omega)
      obtain ⟨bb, ob, ha, hc⟩ := hsc.cel_at L1 h1 (j := k) (v := .map (some b)) (by rw [List.getElem?_map, hb]; rfl)
      refine ⟨bb, ob, b, o, ha, by rw [Nat.mul_one]; exact hc, ?_, hos k o ho⟩
      refine (h1.own (b, o) ?_).2
      refine List.mem_append_right _ (List.mem_append_right _ (List.mem_append_left _ ?_))
      exact List.mem_of_getElem? (i := k) (by rw [List.getElem?_zip_eq_some]; exact ⟨hb, ho⟩)
    have h40c : Hp w12 w40 (([pl ap j cp wt] ++ Ro) ++ (rc.L 56 (ids.map fun b => Value.map (some b)) ++ (ids.zip os ++ []))) := by simpa using h40
    have hcut40 := hcuts h40c
    have hcV : CutV w40 ap j p.funcs.length (p.newCut S1 fl) := by
      unfold Prg.newCut
      rw [hfl]
      exact hcut40.cutV
    refine ⟨_, _, _, _, _, _, _, (hrow4 h40.ext).1, _, _, _, hcP (a := ap) (n := j) (c := cp) (x := wt) h40 (by simp), ?_⟩
    refine (taintOf_w (hP12.ext h40.ext) hl (cc := cp) hcV (fin := S2) (fun _ => hR.go2)).mono ?_
    rintro _ w106 ⟨hx106, hyes2, -⟩
    obtain ⟨bv, dv, b2, e2, d2, b3, e3, d3, b4', e4, d4, rfl, hlab2⟩ := hyes2 hck
    refine ⟨_, _, _, _, _, _, _, _, _, _, _, _, _, rfl, ?_⟩
    refine alp (Hp.refl w106) fun b112 w113 h113 => ?_
    refine stp h113 0 rfl (by simp) rfl fun w114 h114 => ?_
    have hx114 : Ext w12 w114 := h40.ext.trans (hx106.trans h114.ext)
    refine ⟨_, _, _, _, _, _, _, (hrow4 hx114).1, _, _, _, _, _, _, _, _, _, _, _, _, h114.row 0 rfl, ?_⟩
    refine (sinks_w (hP12.ext hx114) hl (hlab2.ext h114.ext)).mono ?_
    rintro _ w123 ⟨as2, cs2, rs2, rfl, hss2, h123'⟩
    obtain ⟨sk2, hsk2⟩ : ∃ l, l = p.sinks S2 := ⟨_, rfl⟩
    have hsl2 := Prg.sinks_len S2 hl
    rw [← hsk2] at hss2 h123' hsl2 ⊢
    have h123 : Hp w12 w123 (rs2.L 100 (sk2.flatMap snkCells) ++ ([pl ap j cp wt] ++ (rc.L 56 (ids.map fun b => Value.map (some b)) ++ ids.zip os))) := by
      have h1 := ((h40.step hx106).step h114.ext).call h123'
      refine h1.sub (List.Sublist.append_left ?_ _)
      exact List.Sublist.append_left (List.sublist_append_right _ _) _
    clear h123' h114 h113 hyes2
    refine ⟨_, _, _, rfl, ?_⟩
    obtain ⟨q, hq⟩ : ∃ q : Option Addr → Nat → Nat → Nat × Obj, q = fun ag ng cg => (b35, Cl 51 [.slice ap j cp, .slice ag ng cg, .int .i64 wt]) := ⟨_, rfl⟩
    have hq0 : pl ap j cp wt = q none 0 0 := by rw [hpl, hq]
    rw [hq0] at h123
    obtain ⟨C, hC⟩ : ∃ C : List (Nat × Obj), C = rc.L 56 (ids.map fun b => Value.map (some b)) ++ ids.zip os := ⟨_, rfl⟩
    rw [← hC] at h123
    refine ⟨fun i w' k => ∃ (u : Nat) (ag : Option Addr) (cg : Nat) (rg : Rw) (gs : List Plc), i = u ∧ u ≤ sk2.length ∧ k = sk2.length - u ∧ gs.length ≤ u ∧ Sls 3 ag gs.length cg (threes gs) rg ∧
        Hp w12 w' (q ag gs.length cg :: (rs2.L 100 (sk2.flatMap snkCells) ++ (rg.L 102 (threes gs) ++ C))) ∧ (sk2.drop u).foldl plcStep gs = places sk2,
      ⟨sk2.length, 0, none, 0, .emp, [], rfl, by omega, by omega, by simp, Sls.nil 3 none, h123.perm (by simp [Rw.L]), rfl⟩, ?_⟩
    clear h123
    rintro i w127 k ⟨u, ag, cg, rg, gs, rfl, hu, rfl, hgl, hsg, h127, hgo⟩
    refine sp_dec (fun hlt2 => ?_) (fun hge2 => ?_)
    · intro K130 hK130
      obtain ⟨s, hs⟩ := at_some (l := sk2) (j := u) (by omega)
      rw [drop_cons hs, List.foldl_cons] at hgo
      have hrd : RdS 5 RSnk w127 as2 sk2.length sk2 := Sls.rd hss2 [_] h127 rfl fun i x hx => snk_at hx
      obtain ⟨bs, os', vs, has, hrows, hvls, rfl⟩ := hrd.at_ _ _ hs
      refine ⟨by omega, by omega, ptAt_of has ⟨_, _, _, _, _, hrows, ?_⟩⟩
      refine alp h127 fun b139 w140 h140 => ?_
      refine stp h140 0 rfl (by simp) rfl fun w141 h141 => ⟨_, h141.cl 0 rfl rfl, _, h141.cl 0 rfl rfl, _, h141.cl 0 rfl rfl, ?_⟩
      refine alp (h141.drop 1) fun b145 w146 h146 => ?_
      refine stp h146 0 rfl (by simp) rfl fun w147 h147 => ?_
      obtain ⟨g, hg⟩ : ∃ g : Plc, g = (s.fn, s.blk, s.at_) := ⟨_, rfl⟩
      have h147 : Hp w12 w147 ((b145, Cl 102 [.int .i64 g.1, .int .i64 g.2.1, .int .i64 g.2.2]) :: (q ag gs.length cg :: (rs2.L 100 (sk2.flatMap snkCells) ++ (rg.L 102 (threes gs) ++ C)))) := by subst hg; exact h147
      intro K148 hK148
      have hc35 : ∀ {w1 : World} {L1 : List (Nat × Obj)} {ag ng cg}, Hp w12 w1 L1 → q ag ng cg ∈ L1 → cel w1 b35 1 = some (.slice ag ng cg) := by
        intro w1 L1 ag ng cg h1 hm
        subst hq
        exact cel_of (h1.own _ hm).2 rfl
      have hd := h147.drew
      have hkeep : ∀ {w1 : World}, Hp w12 w1 ((b145, Cl 102 [.int .i64 g.1, .int .i64 g.2.1, .int .i64 g.2.2]) :: (q ag gs.length cg :: (rs2.L 100 (sk2.flatMap snkCells) ++ (rg.L 102 (threes gs) ++ C)))) → plcStep gs s = gs → K148 false w1 := by
        intro w1 h1 hsame
        rw [hsame] at hgo
        refine hK148 _ _ (sp_false rfl (hK130 _ ⟨sk2.length - (u + 1), by omega, u + 1, ag, cg, rg, gs, wrap_succ (by simp only [maxLen]; omega), by omega, rfl, by omega, hsg, h1.drop 1, hgo⟩))
      have hmore : ∀ {w1 : World}, Hp w12 w1 ((b145, Cl 102 [.int .i64 g.1, .int .i64 g.2.1, .int .i64 g.2.2]) :: (q ag gs.length cg :: (rs2.L 100 (sk2.flatMap snkCells) ++ (rg.L 102 (threes gs) ++ C)))) → plcStep gs s = gs ++ [g] → K148 true w1 := by
        intro w1 h1 hsnoc
        rw [hsnoc] at hgo
        refine hK148 _ _ (sp_true rfl ⟨_, _, _, hc35 (ag := ag) (ng := gs.length) (cg := cg) h1 (by simp), _, _, _, h1.row 0 rfl, ?_⟩)
        refine alp (h1.drop 1) fun b155 w156 h156 => ?_
        obtain ⟨a', c', w158, r', hrun, hs', h158⟩ := app1 (ty := 49) slPlcs (by omega) hsg ((b155, Cl 102 [.int .i64 g.1, .int .i64 g.2.1, .int .i64 g.2.2]) :: q ag gs.length cg :: rs2.L 100 (sk2.flatMap snkCells))
          (L := C) (by simpa using h156) 0 rfl rfl rfl (by simp only [maxLen]; omega) (by omega)
        have he : threes gs ++ [.int .i64 g.1, .int .i64 g.2.1, .int .i64 g.2.2] = threes (gs ++ [g]) := by simp [threes]
        rw [he] at hs' h158
        refine ⟨_, _, _, w158, hrun, ?_⟩
        have h158 := h158.drop 1
        rw [List.cons_append, List.drop_succ_cons, List.drop_zero, hq] at h158
        refine stp h158 0 rfl (by simp) rfl fun w159 h159 => ?_
        have h159 : Hp w12 w159 (q a' (gs.length + 1) c' :: (rs2.L 100 (sk2.flatMap snkCells) ++ (r'.L 102 (threes (gs ++ [g])) ++ C))) := by rw [hq]; exact h159
        refine hK130 _ ⟨sk2.length - (u + 1), by omega, u + 1, a', c', r', gs ++ [g], wrap_succ (by simp only [maxLen]; omega), by omega, rfl, by simp; omega, by simpa using hs', by simpa using h159, hgo⟩
      refine ⟨_, _, _, hc35 (ag := ag) (ng := gs.length) (cg := cg) hd (by simp), sp_dec (fun h0 => ?_) (fun h0 => ?_)⟩
      · have hg0 : gs = [] := List.eq_nil_of_length_eq_zero (by omega)
        exact hmore hd (by unfold plcStep; rw [hg0, hg]; rfl)
      · have hgne : gs ≠ [] := fun e => h0 (by rw [e]; rfl)
        have hpos : 0 < gs.length := List.length_pos_iff.2 hgne
        have e1 : IntKind.wrap .i64 ((gs.length : Nat) - 1 : Int) = ((gs.length - 1 : Nat) : Int) := by rw [wrap_in (by omega) (by omega)]; omega
        obtain ⟨y, hy⟩ := at_some (l := gs) (j := gs.length - 1) (by omega)
        have hlast : gs.getLast? = some y := by rw [List.getLast?_eq_getElem?]; exact hy
        have hrdg : RdS 3 RPlc w147.drew ag gs.length gs := Sls.rd hsg ((b145, Cl 102 [.int .i64 g.1, .int .i64 g.2.1, .int .i64 g.2.2]) :: q ag gs.length cg :: rs2.L 100 (sk2.flatMap snkCells)) (L := C) (by simpa using hd) rfl fun i x hx => threes_at hx
        obtain ⟨by_, oy, vs, hay, hrowy, _, rfl⟩ := hrdg.at_ _ _ hy
        refine ⟨_, _, _, hc35 (ag := ag) (ng := gs.length) (cg := cg) hd (by simp), ag, gs.length, cg, hc35 (ag := ag) (ng := gs.length) (cg := cg) hd (by simp), ?_⟩
        rw [e1]
        refine ⟨by omega, by omega, ptAt_of hay ⟨_, _, _, hrowy, _, _, _, hd.row 0 rfl, _, fun w' => place_neq _ _ _ _ _ _ _ _ w', ?_⟩⟩
        by_cases hyg : y = g
        · have : (!decide ((y.1, y.2.1, y.2.2) = (g.1, g.2.1, g.2.2))) = false := by rw [hyg]; simp
          rw [this]
          exact hkeep hd (by unfold plcStep; rw [hlast, hyg, hg]; simp)
        · have : (!decide ((y.1, y.2.1, y.2.2) = (g.1, g.2.1, g.2.2))) = true := by
            have h2 : ¬ (y.1, y.2.1, y.2.2) = (g.1, g.2.1, g.2.2) := fun e => hyg e
            rw [decide_eq_false h2]; rfl
          rw [this]
          exact hmore hd (by unfold plcStep; rw [hlast, ← hg, if_neg (by simpa using hyg)])
    · have hd : sk2.drop u = [] := List.drop_of_length_le (by omega)
      rw [hd, List.foldl_nil] at hgo
      have hrow35 : Row w127 b35 0 [.slice ap j cp, .slice ag gs.length cg, .int .i64 wt] := by subst hq; exact h127.row 0 rfl
      refine ⟨_, _, _, _, _, _, _, hrow35, ?_⟩
      have h127b := h12.call h127
      obtain ⟨LQ, hLQ⟩ : ∃ L, L = q ag gs.length cg :: (rs2.L 100 (sk2.flatMap snkCells) ++ (rg.L 102 (threes gs) ++ C)) := ⟨_, rfl⟩
      rw [← hLQ] at h127b
      refine stp h127b LQ.length (b := b6) (e := 51) (old := [.slice none 0 0, .slice none 0 0, .int .i64 0]) (by rw [List.getElem?_append_right (Nat.le_refl _), Nat.sub_self]; rfl) (by simp) rfl fun w175 h175 => ?_
      rw [List.set_append_right _ _ (Nat.le_refl _), Nat.sub_self, List.set_cons_zero] at h175
      refine ⟨_, _, _, _, _, _, _, h175.row LQ.length (by rw [List.getElem?_append_right (Nat.le_refl _), Nat.sub_self]; rfl), h175.ext, fun h => (by cases h), fun _ => ⟨_, rfl, ap, cp, ag, gs.length, cg, ?_, ?_, ?_⟩⟩
      · rw [hfl, hwt]
      · rw [hfl]
        refine hcuts (wb := w) (L1 := q ag gs.length cg :: (rs2.L 100 (sk2.flatMap snkCells) ++ rg.L 102 (threes gs))) (L2 := [(b6, Cl 51 (splice [.slice none 0 0, .slice none 0 0, .int .i64 0] 0 [.slice ap j cp, .slice ag gs.length cg, .int .i64 wt])), (b4, Cl 32 [.slice aa na ca, .slice af j cf, .int .i64 p.main])]) ?_
        subst hLQ hC
        simpa using h175
      · rw [← hgo]
        refine Sls.rd (w0 := w) (e := 102) hsg (q ag gs.length cg :: rs2.L 100 (sk2.flatMap snkCells)) (L := C ++ [(b6, Cl 51 (splice [.slice none 0 0, .slice none 0 0, .int .i64 0] 0 [.slice ap j cp, .slice ag gs.length cg, .int .i64 wt])), (b4, Cl 32 [.slice aa na ca, .slice af j cf, .int .i64 p.main])]) ?_ rfl fun i x hx => threes_at hx
        subst hLQ
        simpa using h175
end Go.Pl.Try

/-
  DERIVED: THE SHELF's CONTRACTS AT THIS DUMP, IN PLAIN WORDS (tools/lay-plain.mjs out of 'YtbacmadoenicnaaIterRaw.lean', which tools/lay-shelf.mjs wrote): THE SAME DECLARATIONS UNDER THE SAME NAMES: 'import', 'namespace', 'open', 'def', 'theorem' AND NOTHING ELSE: no command of the shelf's: FOR A HAND-IN. Each laying: the table of numbers ('.._ren') and one theorem, a field a fact of the dump's own or the kernel's comparison; each contract: ONE APPLICATION.
-/
namespace Go.Proofs
open Go.Shelf
def Try.keysA_ren : Go.Shelf.Ren := ⟨fun | 7 => 44 | 10 => 75 | n => n, fun | 23 => 56 | 26 => 3 | 3 => 4 | 28 => 123 | 0 => 0 | 27 => 122 | 33 => 117 | 4 => 4 | n => n, fun | n => n⟩
theorem Try.keysA : Go.Proofs.SlLaysZI.n7 Try.prog Try.keysA_ren := {
  mixed := by kernel_rfl
  f7 := ⟨Try.f44.name, by decide, Try.func44.trans (congrArg some (by kernel_rfl))⟩
  f10 := ⟨Try.f75.name, by decide, Try.func75.trans (congrArg some (by kernel_rfl))⟩
  t0 := Try.underlying0
  a0 := Try.isAgg0
  z0 := Try.sizeOf0
  v0 := Try.zeroValue0
  t4 := Try.underlying4
  a4 := Try.isAgg4
  z4 := Try.sizeOf4
  v4 := Try.zeroValue4
  t23 := Try.underlying56
  a23 := Try.isAgg56
  z23 := Try.sizeOf56
  v23 := Try.zeroValue56
  t26 := Try.underlying3
  a26 := Try.isAgg3
  z26 := Try.sizeOf3
  v26 := Try.zeroValue3
  t27 := Try.underlying122
  a27 := Try.isAgg122
  z27 := Try.sizeOf122
  v27 := Try.zeroValue122
  t28 := Try.underlying123
  a28 := Try.isAgg123
  z28 := Try.sizeOf123
  v28 := Try.zeroValue123
  t33 := Try.underlying117
  a33 := Try.isAgg117
  z33 := Try.sizeOf117
  v33 := Try.zeroValue117 }
def Try.sortedA_ren : Go.Shelf.Ren := ⟨fun | 6 => 43 | 8 => 73 | 9 => 74 | 11 => 84 | 13 => 86 | 12 => 85 | 23 => 96 | 24 => 97 | 14 => 87 | 15 => 88 | 16 => 89 | 17 => 90 | 18 => 91 | 19 => 92 | 20 => 93 | 21 => 94 | 22 => 95 | 25 => 98 | 26 => 99 | 27 => 100 | 28 => 101 | 29 => 102 | 30 => 103 | 31 => 104 | n => n, fun | 26 => 3 | 28 => 123 | 24 => 34 | 0 => 0 | 3 => 3 | 37 => 87 | 48 => 173 | 50 => 175 | 4 => 4 | 40 => 166 | 39 => 165 | 45 => 83 | 5 => 5 | 9 => 9 | 51 => 176 | 55 => 180 | 57 => 182 | 58 => 183 | 33 => 117 | n => n, fun | n => n⟩
theorem Try.sortedA : Go.Proofs.SlLaysZI.n6 Try.prog Try.sortedA_ren := {
  mixed := by kernel_rfl
  f6 := ⟨Try.f43.name, by decide, Try.func43.trans (congrArg some (by kernel_rfl))⟩
  f8 := ⟨Try.f73.name, by decide, Try.func73.trans (congrArg some (by kernel_rfl))⟩
  f11 := ⟨Try.f84.name, by decide, Try.func84.trans (congrArg some (by kernel_rfl))⟩
  t0 := Try.underlying0
  a0 := Try.isAgg0
  z0 := Try.sizeOf0
  v0 := Try.zeroValue0
  t24 := Try.underlying34
  a24 := Try.isAgg34
  z24 := Try.sizeOf34
  v24 := Try.zeroValue34
  t26 := Try.underlying3
  a26 := Try.isAgg3
  z26 := Try.sizeOf3
  v26 := Try.zeroValue3
  t28 := Try.underlying123
  a28 := Try.isAgg123
  z28 := Try.sizeOf123
  v28 := Try.zeroValue123
  i26 := by kernel_rfl }
def Try.sortA_ren : Go.Shelf.Ren := ⟨fun | 5 => 74 | 8 => 86 | 7 => 85 | 19 => 96 | 20 => 97 | 10 => 87 | 11 => 88 | 12 => 89 | 13 => 90 | 14 => 91 | 15 => 92 | 16 => 93 | 17 => 94 | 18 => 95 | 30 => 98 | 31 => 99 | 32 => 100 | 33 => 101 | 34 => 102 | 35 => 103 | 40 => 104 | n => n, fun | 23 => 34 | 25 => 3 | 3 => 3 | 32 => 87 | 22 => 34 | 0 => 0 | 44 => 173 | 46 => 175 | 4 => 4 | 36 => 166 | 35 => 165 | 41 => 83 | 5 => 5 | 9 => 9 | 53 => 176 | 57 => 180 | 63 => 182 | 64 => 183 | n => n, fun | n => n⟩
theorem Try.sortA : Go.Proofs.SlLaysM.n5 Try.prog Try.sortA_ren := {
  mixed := by kernel_rfl
  f5 := ⟨Try.f74.name, by decide, Try.func74.trans (congrArg some (by kernel_rfl))⟩
  f7 := ⟨Try.f85.name, by decide, Try.func85.trans (congrArg some (by kernel_rfl))⟩
  f8 := Try.func86.trans (congrArg some (by kernel_rfl))
  f10 := ⟨Try.f87.name, by decide, Try.func87.trans (congrArg some (by kernel_rfl))⟩
  f11 := ⟨Try.f88.name, by decide, Try.func88.trans (congrArg some (by kernel_rfl))⟩
  f12 := ⟨Try.f89.name, by decide, Try.func89.trans (congrArg some (by kernel_rfl))⟩
  f13 := ⟨Try.f90.name, by decide, Try.func90.trans (congrArg some (by kernel_rfl))⟩
  f14 := ⟨Try.f91.name, by decide, Try.func91.trans (congrArg some (by kernel_rfl))⟩
  f15 := ⟨Try.f92.name, by decide, Try.func92.trans (congrArg some (by kernel_rfl))⟩
  f16 := ⟨Try.f93.name, by decide, Try.func93.trans (congrArg some (by kernel_rfl))⟩
  f17 := ⟨Try.f94.name, by decide, Try.func94.trans (congrArg some (by kernel_rfl))⟩
  f18 := ⟨Try.f95.name, by decide, Try.func95.trans (congrArg some (by kernel_rfl))⟩
  f19 := Try.func96.trans (congrArg some (by kernel_rfl))
  f20 := Try.func97.trans (congrArg some (by kernel_rfl))
  f30 := ⟨Try.f98.name, by decide, Try.func98.trans (congrArg some (by kernel_rfl))⟩
  f31 := Try.func99.trans (congrArg some (by kernel_rfl))
  f32 := Try.func100.trans (congrArg some (by kernel_rfl))
  f33 := ⟨Try.f101.name, by decide, Try.func101.trans (congrArg some (by kernel_rfl))⟩
  f34 := ⟨Try.f102.name, by decide, Try.func102.trans (congrArg some (by kernel_rfl))⟩
  f35 := ⟨Try.f103.name, by decide, Try.func103.trans (congrArg some (by kernel_rfl))⟩
  f40 := ⟨Try.f104.name, by decide, Try.func104.trans (congrArg some (by kernel_rfl))⟩
  t0 := Try.underlying0
  a0 := Try.isAgg0
  z0 := Try.sizeOf0
  v0 := Try.zeroValue0
  t3 := Try.underlying3
  a3 := Try.isAgg3
  z3 := Try.sizeOf3
  v3 := Try.zeroValue3
  t4 := Try.underlying4
  a4 := Try.isAgg4
  z4 := Try.sizeOf4
  v4 := Try.zeroValue4
  t5 := Try.underlying5
  a5 := Try.isAgg5
  z5 := Try.sizeOf5
  v5 := Try.zeroValue5
  t9 := Try.underlying9
  a9 := Try.isAgg9
  z9 := Try.sizeOf9
  v9 := Try.zeroValue9
  t22 := Try.underlying34
  a22 := Try.isAgg34
  z22 := Try.sizeOf34
  v22 := Try.zeroValue34
  t23 := Try.underlying34
  a23 := Try.isAgg34
  z23 := Try.sizeOf34
  v23 := Try.zeroValue34
  t25 := Try.underlying3
  a25 := Try.isAgg3
  z25 := Try.sizeOf3
  v25 := Try.zeroValue3
  t32 := Try.underlying87
  a32 := Try.isAgg87
  z32 := Try.sizeOf87
  v32 := Try.zeroValue87
  t35 := Try.underlying165
  a35 := Try.isAgg165
  z35 := Try.sizeOf165
  v35 := Try.zeroValue165
  t36 := Try.underlying166
  a36 := Try.isAgg166
  z36 := Try.sizeOf166
  v36 := Try.zeroValue166
  t41 := Try.underlying83
  a41 := Try.isAgg83
  z41 := Try.sizeOf83
  v41 := Try.zeroValue83
  t44 := Try.underlying173
  a44 := Try.isAgg173
  z44 := Try.sizeOf173
  v44 := Try.zeroValue173
  t46 := Try.underlying175
  a46 := Try.isAgg175
  z46 := Try.sizeOf175
  v46 := Try.zeroValue175
  t53 := Try.underlying176
  a53 := Try.isAgg176
  z53 := Try.sizeOf176
  v53 := Try.zeroValue176
  t57 := Try.underlying180
  a57 := Try.isAgg180
  z57 := Try.sizeOf180
  v57 := Try.zeroValue180
  t63 := Try.underlying182
  a63 := Try.isAgg182
  z63 := Try.sizeOf182
  v63 := Try.zeroValue182
  t64 := Try.underlying183
  a64 := Try.isAgg183
  z64 := Try.sizeOf183
  v64 := Try.zeroValue183 }
end Go.Proofs

/- What '(palings/harden.Plan).Values' does, read off its translation by gen.py. -/
namespace Go.Pl.Try
set_option linter.unusedVariables false
set_option maxRecDepth 100000
def F21 (ap1 : Option Addr) (np1 cp1 : Nat) (ap2 : Option Addr) (np2 cp2 : Nat) (p3 : Int) (fn4 : Int) (w : World) (R : Value → World → Prop) : Prop :=
  AlP 51 [.slice ap1 np1 cp1, .slice ap2 np2 cp2, .int .i64 p3] w fun b5 w6 =>
  ∀ K7 : World → Prop, (∀ w8, (
  ∃ (ax9 : Option Addr) (nx9 cx9 : Nat), cel w8 b5 0 = some (.slice ax9 nx9 cx9) ∧
  0 ≤ (fn4 : Int) ∧ (fn4 : Int) < (nx9 : Nat) ∧
  ptAt ax9 fun b10 o11 =>
  ∃ (x12 : Option Nat), cel w8 b10 (o11 + fn4.toNat * 1) = some (.map x12) ∧
  CallP Pg 44 [.map x12] w8 fun v13 w14 => ∃ (x15 : Value), v13 = x15 ∧
  CallP Pg 43 [x15] w14 fun v16 w17 => ∃ (ax18 : Option Addr) (nx18 cx18 : Nat), v16 = .slice ax18 nx18 cx18 ∧
  R (.slice ax18 nx18 cx18) w17) → K7 w8) →
  ∀ K19 : World → Prop, (∀ w20, (
  R (.slice none 0 0) w20) → K19 w20) →
  sp (decide ((fn4 : Int) < 0))
  (K19 w6)
  (∃ (ax21 : Option Addr) (nx21 cx21 : Nat), cel w6 b5 0 = some (.slice ax21 nx21 cx21) ∧
  sp (decide (((nx21 : Nat) : Int) ≤ fn4))
  (K19 w6)
  (K7 w6))
def T21 : List Sh := [.v (.agg [.sl, .sl, (.int .i64)]), .v (.one (.int .i64)), .v (.one .ptr), .v (.one .any), .v (.one .sl), .v (.one (.int .i64)), .v (.one .bool), .v (.one .bool), .v (.one (.int .i64)), .v (.one .ptr), .v (.one .sl), .v (.one (.int .i64)), .v (.one .bool), .v (.one .bool), .v (.one .ptr), .v (.one .sl), .v (.one (.int .i64)), .v (.one .ptr), .v (.one .map), .v (.one .any), .v (.one .sl)]
def A21 : Ann := (.seq none .z (.seq (some []) (.ifs (some []) none (.seq none .z .z) .z) (.seq none .z .z)))
theorem F21_eq (ap1 : Option Addr) (np1 cp1 : Nat) (ap2 : Option Addr) (np2 cp2 : Nat) (p3 : Int) (fn4 : Int) (w : World) (R : Value → World → Prop) : F21 ap1 np1 cp1 ap2 np2 cp2 p3 fn4 w R = denF Go.Proofs.Try.prog T21 Go.Proofs.Try.f21 A21 [.agg ⟨[.slice ap1 np1 cp1, .slice ap2 np2 cp2, .int .i64 p3]⟩, .int .i64 fn4] w R := by kernel_rfl
theorem F21_ok (ap1 : Option Addr) (np1 cp1 : Nat) (ap2 : Option Addr) (np2 cp2 : Nat) (p3 : Int) (fn4 : Int) {w : World} {R : Value → World → Prop} (h : F21 ap1 np1 cp1 ap2 np2 cp2 p3 fn4 w R) : CallP Go.Proofs.Try.prog 21 [.agg ⟨[.slice ap1 np1 cp1, .slice ap2 np2 cp2, .int .i64 p3]⟩, .int .i64 fn4] w R :=
  calls_den (fun _ => drawn (by kernel_rfl)) Go.Proofs.Try.func21 (Nat.le_of_ble_eq_true (by kernel_rfl)) ((F21_eq ap1 np1 cp1 ap2 np2 cp2 p3 fn4 w R).mp h)
end Go.Pl.Try

/- What '(palings/harden.Plan).Fences' does, read off its translation by gen.py. -/
namespace Go.Pl.Try
set_option linter.unusedVariables false
set_option maxRecDepth 100000
def F8 (ap1 : Option Addr) (np1 cp1 : Nat) (ap2 : Option Addr) (np2 cp2 : Nat) (p3 : Int) (w : World) (R : Value → World → Prop) : Prop :=
  AlP 51 [.slice ap1 np1 cp1, .slice ap2 np2 cp2, .int .i64 p3] w fun b4 w5 =>
  ∃ (ax6 : Option Addr) (nx6 cx6 : Nat), cel w5 b4 1 = some (.slice ax6 nx6 cx6) ∧
  ∃ (ax7 : Option Addr) (nx7 cx7 : Nat), cel w5 b4 0 = some (.slice ax7 nx7 cx7) ∧
  ∃ J8 : Int → Int → World → Nat → Prop, (∃ m12, J8 (nx6 : Nat) 0 w5 m12) ∧
  ∀ (n9 : Int) (x10 : Int), ∀ w11 m12, J8 n9 x10 w11 m12 →
  sp (decide ((x10 : Int) < (nx7 : Nat)))
  (0 ≤ (x10 : Int) ∧ (x10 : Int) < (nx7 : Nat) ∧
  ptAt ax7 fun b14 o15 =>
  ∃ (x16 : Option Nat), cel w11 b14 (o15 + x10.toNat * 1) = some (.map x16) ∧
  ∃ (x17 : Int), Sem.run Pg (Builtin.len_ #[56] 3 ⟨[.map x16]⟩) w11 = .ok (.int .i64 x17) w11 ∧
  ∃ m13, m13 < m12 ∧ J8 (IntKind.wrap .i64 (n9 + x17)) (IntKind.wrap .i64 (x10 + 1)) w11 m13)
  (R (.int .i64 n9) w11)
def T8 : List Sh := [.v (.agg [.sl, .sl, (.int .i64)]), .v (.one .ptr), .v (.one (.int .i64)), .v (.one (.int .i64)), .v (.one .any), .v (.one .map), .v (.one .ptr), .v (.one .sl), .v (.one (.int .i64)), .v (.one .ptr), .v (.one .sl), .v (.one (.int .i64)), .v (.one (.int .i64)), .v (.one .bool), .v (.one .ptr), .v (.one .map), .v (.one (.int .i64)), .v (.one .map), .v (.one (.int .i64)), .v (.one (.int .i64)), .v (.one (.int .i64)), .v (.one (.int .i64))]
def A8 : Ann := (.seq none .z (.seq none .z (.seq none (.seq none .z (.block none (.loop [3, 12] (.seq none .z (.seq none (.cond .z .z) (.seq none (.block none (.seq none .z .z)) .z)))))) (.seq none .z .z))))
theorem F8_eq (ap1 : Option Addr) (np1 cp1 : Nat) (ap2 : Option Addr) (np2 cp2 : Nat) (p3 : Int) (w : World) (R : Value → World → Prop) : F8 ap1 np1 cp1 ap2 np2 cp2 p3 w R = denF Go.Proofs.Try.prog T8 Go.Proofs.Try.f8 A8 [.agg ⟨[.slice ap1 np1 cp1, .slice ap2 np2 cp2, .int .i64 p3]⟩] w R := by kernel_rfl
theorem F8_ok (ap1 : Option Addr) (np1 cp1 : Nat) (ap2 : Option Addr) (np2 cp2 : Nat) (p3 : Int) {w : World} {R : Value → World → Prop} (h : F8 ap1 np1 cp1 ap2 np2 cp2 p3 w R) : CallP Go.Proofs.Try.prog 8 [.agg ⟨[.slice ap1 np1 cp1, .slice ap2 np2 cp2, .int .i64 p3]⟩] w R :=
  calls_den (fun _ => drawn (by kernel_rfl)) Go.Proofs.Try.func8 (Nat.le_of_ble_eq_true (by kernel_rfl)) ((F8_eq ap1 np1 cp1 ap2 np2 cp2 p3 w R).mp h)
end Go.Pl.Try

/- The values behind which fences stand, in order: walked, by the kit's contracts of maps.Keys and slices.Sorted. -/
namespace Go.Pl
set_option linter.unusedVariables false
theorem insert_perm {H : Type} (x : Lit × DataW H) : ∀ l : List (Lit × DataW H), (DataW.insert x l).Perm (x :: l)
  | [] => List.Perm.refl _
  | y :: r => by
    unfold DataW.insert
    split
    · exact List.Perm.refl _
    · exact ((insert_perm x r).cons y).trans (List.Perm.swap x y r)
theorem foldr_insert_perm {H : Type} : ∀ l : List (Lit × DataW H), (l.foldr DataW.insert []).Perm l
  | [] => List.Perm.refl _
  | x :: l => (insert_perm x _).trans ((foldr_insert_perm l).cons x)
theorem ext_below {w w' : World} (h : Go.RowKit.Below w.heap.size w w') : Ext w w' := ⟨h.size, h.block, h.os, h.output⟩
end Go.Pl
namespace Go.Pl.Try
open M Go.Proofs Go.RowKit Go.Maps Go.Sort Go.Shelf
set_option linter.unusedVariables false
theorem sorts_first (m : Nat) : AnyZI.SortsIn Go.Proofs.Try.prog Go.Proofs.Try.sortedA_ren Fence.wide m :=
  ⟨fun blk off cap ss W hH hblk hsz => callsIn_wide.2 (AnyM.slices_Sort_int Go.Proofs.Try.sortA blk off cap ss W hH hblk hsz),
   fun p cap W => callsIn_wide.2 (AnyM.slices_Sort_int_none Go.Proofs.Try.sortA p cap W)⟩
theorem uBool : Pg.underlying 4 = some .bool := by kernel_rfl
theorem owns_trues {w : World} {mb : Nat} {ob : Obj} {ks : List Int} (hob : w.heap[mb]? = some ob) (hmp : MpO (trues ks) ob) (hwf : ∀ k ∈ ks, (Lit.int .i64 k).wf = true) (hl : ks.length ≤ 4294967296) :
    ∃ D : DataW Unit, w.ownsMap Go.Proofs.Try.prog 3 (plainElem Go.Proofs.Try.prog 4) mb ks.length D ∧ (intKeys D).Perm ks := by
  obtain ⟨es, clock, rfl, he, hnd, hbn, hcl⟩ := hmp
  have hlen : es.toList.length = ks.length := by simpa [trues] using congrArg List.length he
  have hent : ∀ x ∈ es.toList, ∃ k ∈ ks, x.key = .int .i64 k ∧ x.val = .bool true := by
    intro x hx
    have : ((x.key, x.val) : Value × Value) ∈ (trues ks).map fun p => (Value.int .i64 p.1, p.2) := by rw [← he]; exact List.mem_map.2 ⟨x, hx, rfl⟩
    obtain ⟨q, hq, hqe⟩ := List.mem_map.1 this
    obtain ⟨k, hk, rfl⟩ := List.mem_map.1 hq
    simp only [Prod.mk.injEq] at hqe
    exact ⟨k, hk, hqe.1.symm, hqe.2.symm⟩
  have hrd : ∀ x ∈ es.toList, ∃ k ∈ ks, x.key = .int .i64 k ∧ Go.WideElems.rd Go.Proofs.Try.prog 3 (plainElem (H := Unit) Go.Proofs.Try.prog 4) x = some (.int .i64 k, .lit (.bool true)) := by
    intro x hx
    obtain ⟨k, hk, hkey, hval⟩ := hent x hx
    refine ⟨k, hk, hkey, ?_⟩
    have h1 : keyOf Go.Proofs.Try.prog 3 x.key = some (.int .i64 k) := by rw [hkey]; exact Maps.keyOf_int_mk uInt (hwf k hk)
    have h2 : plainElem (H := Unit) Go.Proofs.Try.prog 4 x.val = some (.lit (.bool true), []) := by
      rw [hval]; exact plainElem_bool uBool true
    simp [Go.WideElems.rd, h1, h2]
  have hkeys : es.toList.map (·.key) = ks.map (Value.int .i64) := by
    have := congrArg (List.map Prod.fst) he
    simpa [trues, Function.comp_def] using this
  have hksn : ks.Nodup := by simpa [trues, Function.comp_def] using hnd
  refine ⟨_, ⟨es, clock, hob, ⟨by rw [← Array.length_toList, hlen]; simp only [maxLen]; omega, ⟨hcl, hbn, ?_⟩, fun x hx => ?_⟩, by rw [← Array.length_toList, hlen]; exact Nat.le_refl _, rfl⟩, ?_⟩
  · show (es.toList.map (·.key)).Nodup
    rw [hkeys]
    exact List.pairwise_map.2 (hksn.imp fun {a b} hne e => hne (by cases e; rfl))
  · obtain ⟨k, _, _, h⟩ := hrd x hx
    exact ⟨_, h⟩
  · unfold intKeys
    have hp := (foldr_insert_perm (es.toList.map (Go.WideElems.rg Go.Proofs.Try.prog 3 (plainElem (H := Unit) Go.Proofs.Try.prog 4)))).map fun p => Go.intOf p.1
    refine hp.trans ?_
    rw [List.map_map]
    have : es.toList.map ((fun p => Go.intOf p.1) ∘ Go.WideElems.rg Go.Proofs.Try.prog 3 (plainElem (H := Unit) Go.Proofs.Try.prog 4)) = ks := by
      have h2 : es.toList.map ((fun p => Go.intOf p.1) ∘ Go.WideElems.rg Go.Proofs.Try.prog 3 (plainElem (H := Unit) Go.Proofs.Try.prog 4)) = (es.toList.map (·.key)).map fun v => match v with | .int _ a => a | _ => 0 := by
        rw [List.map_map]
        refine List.map_congr_left fun x hx => ?_
        obtain ⟨k, _, hkey, h⟩ := hrd x hx
        simp only [Function.comp]
        rw [Go.WideElems.rg_of h, hkey]
        rfl
      rw [h2, hkeys, List.map_map]
      simp [Function.comp_def]
    rw [this]
theorem sorted_keys {w : World} {mb : Nat} {ob : Obj} {ks : List Int} (hob : w.heap[mb]? = some ob) (hmp : MpO (trues ks) ob) (hwf : ∀ k ∈ ks, (Lit.int .i64 k).wf = true) (hl : ks.length ≤ 4294967296) :
    CallP Pg 44 [.map (some mb)] w fun v w' => Ext w w' ∧ CallP Pg 43 [v] w' fun u w2 => ∃ a c l, u = .slice a l.length c ∧ l.Perm ks ∧ l.Pairwise (· ≤ ·) ∧ RdI w2 a l.length l ∧ Ext w' w2 := by
  obtain ⟨D, hown, hperm⟩ := owns_trues hob hmp hwf hl
  have hsz := hown.size_le
  have hbl := (Array.getElem?_eq_some_iff.1 hob).1
  have hseq : SeqGives Fence.wide 2 Go.Proofs.Try.prog 75 #[.pointer (some ⟨w.heap.size, 0, none⟩)] encZ (fun ss => ss.Perm (intKeys D)) (Maps.size D) (w.alloc (.cells #[.map (some mb)] 56)) :=
    AnyZI.keys_gives (ρ := Go.Proofs.Try.keysA_ren) { Go.Proofs.Try.keysA with } Fence.wide _ trivial rfl (by omega) w.heap.size mb ks.length D _ (by simp) (by simp) (by
      obtain ⟨es, clock, hb, Ft, hs, hD⟩ := hown
      exact ⟨es, clock, (Below.heap_alloc _ _ mb hbl).trans hb, Ft, hs, hD⟩)
  have cK : CallsIn Fence.wide 5 Go.Proofs.Try.prog 44 #[.map (some mb)] w fun e w' => e = .returned (.func (.func 75) #[] #[.pointer (some ⟨w.heap.size, 0, none⟩)]) ∧ w' = w.alloc (.cells #[.map (some mb)] 56) := AnyZI.keys_in Go.Proofs.Try.keysA Fence.wide 5 trivial rfl (some mb) w
  have cS := AnyZI.sorted_in Go.Proofs.Try.sortedA Fence.wide 5 trivial trivial trivial trivial rfl (by omega) (sorts_first _) (enters_of Go.Proofs.Try.func74 (by kernel_rfl) rfl) 75 #[.pointer (some ⟨w.heap.size, 0, none⟩)] trivial (enters_of Go.Proofs.Try.func75 (by kernel_rfl) rfl) _ _ (by simp only [maxLen]; omega) (by omega) _ hseq
  change CallsIn _ _ Go.Proofs.Try.prog 43 _ _ _ at cS
  refine Calls.mono (callsIn_wide.1 cK) ?_
  rintro e w' ⟨rfl, rfl⟩
  refine ⟨_, rfl, ext_alloc _ _, Calls.mono (callsIn_wide.1 cS) ?_⟩
  rintro e w2 ⟨v, ss, rfl, hss, hrow, hnil, hb⟩
  refine ⟨v, rfl, ?_⟩
  have hps := (List.mergeSort_perm ss (fun x y => decide (x ≤ y))).trans (hss.trans hperm)
  have hsorted : (ss.mergeSort (fun x y => decide (x ≤ y))).Pairwise (· ≤ ·) := by
    have := List.pairwise_mergeSort (le := fun (x y : Int) => decide (x ≤ y)) (fun a b c h1 h2 => by simp only [decide_eq_true_eq] at *; exact Int.le_trans h1 h2) (fun a b => by simp only [Bool.or_eq_true, decide_eq_true_eq]; exact Int.le_total a b) ss
    exact this.imp fun h => by simpa using h
  obtain ⟨l, hl2⟩ : ∃ l, l = ss.mergeSort (fun x y => decide (x ≤ y)) := ⟨_, rfl⟩
  have hll : ss.length = l.length := by rw [hl2]; simp
  rw [← hl2] at hps hsorted hrow
  rw [hll] at hrow
  have hext := ext_below hb
  obtain ⟨hlen, ⟨rfl, h0⟩ | ⟨g, cap, cur, rfl, hge, hcel, hnc, hcm, hcs, htk⟩⟩ := hrow
  · have : l = [] := List.eq_nil_of_length_eq_zero h0
    subst this
    exact ⟨none, 0, [], rfl, hps, hsorted, RdS.nil _ _ _ _, hext⟩
  · refine ⟨_, cap, l, rfl, hps, hsorted, ⟨rfl, Nat.le_trans hnc hcm, fun i x hi => ⟨g, 0, [.int .i64 x], rfl, fun k v hk => ?_, rfl, rfl⟩⟩, hext⟩
    cases k with
    | zero =>
      cases hk
      have hil := (List.getElem?_eq_some_iff.1 hi).1
      have h1 : (cur.toList.take (l.length * 1))[i]? = some (.int .i64 x) := by rw [htk]; simp [encZ, hi]
      rw [List.getElem?_take] at h1
      split at h1
      · refine cel_of (vs := cur.toList) (e := 3) (fr := (0, 0)) ?_ (by rw [show 0 + i * 1 + 0 = i by omega]; exact h1)
        exact hcel
      · cases h1
    | succ k => simp at hk
theorem values_w {w : World} {us : List Value} {nf : Nat} {cut : Nat → List Int} {gs : List Plc} {wt : Int} (h : RPlan w us nf cut gs wt) {k : Nat} (hk : k < nf) (hwf : ∀ x ∈ cut k, (Lit.int .i64 x).wf = true) (hl : (cut k).length ≤ 4294967296) :
    CallP Pg 21 [.agg ⟨us⟩, .int .i64 k] w fun u w' => ∃ a c l, u = .slice a l.length c ∧ l.Perm (cut k) ∧ l.Pairwise (· ≤ ·) ∧ RdI w' a l.length l ∧ Ext w w' := by
  obtain ⟨ac, cc, ag, ng, cg, rfl, hc, hg⟩ := h
  obtain ⟨b, o, mb, ob, ha, hcel, hob, hmp⟩ := hc k hk
  refine F21_ok _ _ _ _ _ _ _ _ ?_
  unfold F21
  refine alp (Hp.refl w) fun b5 w6 h6 => ?_
  intro K7 hK7 K19 hK19
  refine sp_dec (fun h0 => by omega) (fun _ => ⟨_, _, _, h6.cl 0 rfl rfl, sp_dec (fun h1 => by omega) (fun _ => hK7 _ ?_)⟩)
  refine ⟨_, _, _, h6.cl 0 rfl rfl, by omega, by omega, ptAt_of ha ⟨_, h6.ext.cel (by simpa using hcel), ?_⟩⟩
  refine (sorted_keys (by rw [h6.ext.blk mb (Array.getElem?_eq_some_iff.1 hob).1]; exact hob) hmp hwf hl).mono ?_
  rintro v w14 ⟨hx14, hs⟩
  refine ⟨_, rfl, hs.mono ?_⟩
  rintro u w17 ⟨a, c, l, rfl, hp, hs, hr, hx⟩
  exact ⟨_, _, _, rfl, a, c, l, rfl, hp, hs, hr, h6.ext.trans (hx14.trans hx)⟩
/-- How many fences there are. -/
def fenceSum (cut : Nat → List Int) : Nat → Nat
  | 0 => 0
  | k + 1 => fenceSum cut k + (cut k).length
theorem fenceSum_le {cut : Nat → List Int} {m : Nat} : ∀ {n : Nat}, (∀ k, k < n → (cut k).length ≤ m) → fenceSum cut n ≤ n * m
  | 0, _ => by simp [fenceSum]
  | n + 1, h => by
    have := fenceSum_le (cut := cut) (m := m) (n := n) fun k hk => h k (by omega)
    have := h n (by omega)
    rw [fenceSum, Nat.add_one_mul]; omega
theorem fences_w {w : World} {us : List Value} {nf : Nat} {cut : Nat → List Int} {gs : List Plc} {wt : Int} (h : RPlan w us nf cut gs wt) (hnf : nf ≤ 1024) (hl : ∀ k, k < nf → (cut k).length ≤ 1048576) (hgl : gs.length ≤ 4398046511104) :
    CallP Pg 8 [.agg ⟨us⟩] w fun u w' => u = .int .i64 ((gs.length + fenceSum cut nf : Nat) : Int) ∧ Ext w w' := by
  obtain ⟨ac, cc, ag, ng, cg, rfl, hc, hg⟩ := h
  have hgn := hg.len
  refine F8_ok _ _ _ _ _ _ _ ?_
  unfold F8
  refine alp (Hp.refl w) fun b4 w5 h5 => ⟨_, _, _, h5.cl 0 rfl rfl, _, _, _, h5.cl 0 rfl rfl, ?_⟩
  refine ⟨fun n i w' m => w' = w5 ∧ ∃ j : Nat, i = j ∧ j ≤ nf ∧ m = nf - j ∧ n = ((gs.length + fenceSum cut j : Nat) : Int), ⟨nf, rfl, 0, rfl, by omega, by omega, by simp [fenceSum, hgn]⟩, ?_⟩
  rintro n i w11 m ⟨rfl, j, rfl, hj, rfl, rfl⟩
  refine sp_dec (fun hlt => ?_) (fun hge => ?_)
  · obtain ⟨b, o, mb, ob, ha, hcel, hob, hmp⟩ := hc j (by omega)
    have hb1 := fenceSum_le (cut := cut) (n := j) fun k hk => hl k (by omega)
    have hb2 := hl j (by omega)
    have hb3 : j * 1048576 ≤ 1024 * 1048576 := Nat.mul_le_mul_right _ (by omega)
    have hlen := mlen_run (ty := 3) mpCut hmp (w := w11) (by rw [h5.ext.blk mb (Array.getElem?_eq_some_iff.1 hob).1]; exact hob)
    refine ⟨by omega, by omega, ptAt_of ha ⟨_, h5.ext.cel (by simpa using hcel), _, hlen, nf - (j + 1), by omega, rfl, j + 1, wrap_succ (by simp only [maxLen]; omega), by omega, rfl, ?_⟩⟩
    have htl : (trues (cut j)).length = (cut j).length := by simp [trues]
    rw [htl, wrap_in (by omega) (by omega), fenceSum]
    omega
  · have hjn : j = nf := by omega
    subst hjn
    exact ⟨rfl, h5.ext⟩
end Go.Pl.Try

/- The loops of 'Doms' and 'loop' come to an end. -/
namespace Go.Pl.M
set_option linter.unusedVariables false
def Mat.cnt (D : Mat) : Nat := (D.map (List.count true)).sum
theorem Mat.cnt_set : ∀ (D : Mat) (b : Nat) (row row' : List Bool), D[b]? = some row → Mat.cnt (D.set b row') + row.count true = Mat.cnt D + row'.count true
  | [], b, row, row', h => by simp at h
  | r :: D, 0, row, row', h => by
    simp only [List.getElem?_cons_zero, Option.some.injEq] at h
    subst h
    simp only [Mat.cnt, List.set_cons_zero, List.map_cons, List.sum_cons]; omega
  | r :: D, b + 1, row, row', h => by
    have := Mat.cnt_set D b row row' (by simpa using h)
    simp only [Mat.cnt, List.set_cons_succ, List.map_cons, List.sum_cons] at this ⊢; omega
theorem Mat.cnt_clr {D : Mat} {b k : Nat} (h : D.at_ b k = true) : Mat.cnt (D.clr b k) + 1 = Mat.cnt D := by
  unfold Mat.at_ at h
  have hb : D[b]? = some (D.getD b []) := by
    cases hd : D[b]? with
    | none =>
      have : D.getD b [] = [] := by rw [List.getD_eq_getElem?_getD, hd]; rfl
      rw [this] at h; simp at h
    | some r => rw [List.getD_eq_getElem?_getD, hd]; rfl
  generalize D.getD b [] = row at *
  have hk : row[k]? = some true := by
    rw [List.getD_eq_getElem?_getD] at h
    cases hd : row[k]? with
    | none => rw [hd] at h; simp at h
    | some x => rw [hd] at h; simpa using h
  have hkl := (List.getElem?_eq_some_iff.1 hk).1
  have hkv := (List.getElem?_eq_some_iff.1 hk).2
  have h1 : Mat.clr D b k = D.set b (row.set k false) := by
    unfold Mat.clr
    rw [List.getD_eq_getElem?_getD, hb]; rfl
  have h2 := Mat.cnt_set D b row (row.set k false) hb
  have h3 : (row.set k false).count true + 1 = row.count true := by
    rw [List.count_set hkl]
    have : 0 < row.count true := by
      rw [List.count_pos_iff]
      exact hkv ▸ List.getElem_mem hkl
    simp [hkv]
    omega
  rw [h1]; omega
/-- Fewer, if anything turned. -/
def Less (r r' : Mat × Bool) : Prop := r'.1.cnt ≤ r.1.cnt ∧ (r'.2 = true → r.2 = true ∨ r'.1.cnt < r.1.cnt)
theorem Less.refl (r : Mat × Bool) : Less r r := ⟨Nat.le_refl _, fun h => .inl h⟩
theorem Less.trans {a b c : Mat × Bool} (h : Less a b) (k : Less b c) : Less a c := by
  refine ⟨Nat.le_trans k.1 h.1, fun e => ?_⟩
  rcases k.2 e with h1 | h1
  · rcases h.2 h1 with h2 | h2
    · exact .inl h2
    · exact .inr (Nat.lt_of_le_of_lt k.1 h2)
  · exact .inr (Nat.lt_of_lt_of_le h1 h.1)
theorem domIn_less (g : Gr) (b k : Nat) : ∀ (qs : List Int) (r : Mat × Bool), Less r (domIn g b k qs r)
  | [], r => .refl r
  | q :: qs, r => by
    rw [domIn]
    refine Less.trans ?_ (domIn_less g b k qs _)
    split
    · rename_i h
      have := Mat.cnt_clr h.2.2
      exact ⟨by simp only; omega, fun _ => .inr (by simp only; omega)⟩
    · exact .refl r
theorem domCols_less (g : Gr) (b : Nat) : ∀ (m k : Nat) (r : Mat × Bool), Less r (domCols g b m k r)
  | 0, k, r => .refl r
  | m + 1, k, r => by
    rw [domCols]
    refine Less.trans ?_ (domCols_less g b m (k + 1) _)
    split
    · exact .refl r
    · exact domIn_less g b k _ r
theorem domRows_less (g : Gr) (n : Nat) : ∀ (m b : Nat) (r : Mat × Bool), Less r (domRows g n m b r)
  | 0, b, r => .refl r
  | m + 1, b, r => by
    rw [domRows]
    refine Less.trans ?_ (domRows_less g n m (b + 1) _)
    split
    · have h := domCols_less g b n 0 (r.1, false)
      refine ⟨h.1, fun e => ?_⟩
      simp only [Bool.or_eq_true] at e
      rcases e with e | e
      · rcases h.2 e with h1 | h1
        · cases h1
        · exact .inr h1
      · exact .inl e
    · exact .refl r
theorem domGo_some (g : Gr) (n : Nat) : ∀ (k : Nat) (D : Mat), D.cnt < k → ∃ r, domGo g n k D = some r
  | 0, D, h => by omega
  | k + 1, D, h => by
    rw [domGo]
    have hl := domRows_less g n (n - 1) 1 (D, false)
    generalize domRows g n (n - 1) 1 (D, false) = r at *
    show ∃ q, (if r.2 = true then domGo g n k r.1 else some r.1) = some q
    split
    · rename_i e
      rcases hl.2 e with h1 | h1
      · cases h1
      · exact domGo_some g n k _ (by simp only at h1; omega)
    · exact ⟨_, rfl⟩
theorem domInit_cnt (g : Gr) (n : Nat) : (domInit g n).cnt ≤ n * n := by
  unfold domInit Mat.cnt
  have key : ∀ l : List Nat, ((l.map fun (b : Nat) => (List.range n).map fun (k : Nat) => g.has (b : Int) && (decide (0 < b) || decide (k = 0))).map (List.count true)).sum ≤ l.length * n := by
    intro l
    induction l with
    | nil => simp
    | cons a l ih =>
      simp only [List.map_cons, List.sum_cons, List.length_cons, Nat.add_one_mul]
      have : List.count true ((List.range n).map fun (k : Nat) => g.has (a : Int) && (decide (0 < a) || decide (k = 0))) ≤ n := by
        refine Nat.le_trans List.count_le_length ?_
        simp
      omega
  have := key (List.range n)
  simpa using this
theorem Gr.doms_go (g : Gr) : domGo g g.outs.length (g.outs.length * g.outs.length + 2) (domInit g g.outs.length) = some g.doms := by
  obtain ⟨r, hr⟩ := domGo_some g g.outs.length (g.outs.length * g.outs.length + 2) (domInit g g.outs.length) (by have := domInit_cnt g g.outs.length; omega)
  rw [Gr.doms, hr]; rfl
/-- What is still to be put on the list. -/
def toCome : List Bool → List (List Int) → Nat
  | o :: os, l :: ls => (if o = true then 0 else l.length) + toCome os ls
  | _, _ => 0
theorem toCome_le : ∀ (out : List Bool) (ins : List (List Int)), toCome out ins ≤ (ins.map List.length).sum
  | [], ins => by simp [toCome]
  | o :: os, [] => by simp [toCome]
  | o :: os, l :: ls => by
    have := toCome_le os ls
    simp only [toCome, List.map_cons, List.sum_cons]
    split <;> omega
theorem toCome_set : ∀ (out : List Bool) (ins : List (List Int)) (i : Nat), out[i]? = some false → toCome (out.set i true) ins + (ins.getD i []).length = toCome out ins
  | [], ins, i, h => by simp at h
  | o :: os, [], i, h => by
    cases i <;> simp [toCome]
  | o :: os, l :: ls, 0, h => by
    simp only [List.getElem?_cons_zero, Option.some.injEq] at h
    subst h
    simp [toCome]; omega
  | o :: os, l :: ls, i + 1, h => by
    have := toCome_set os ls i (by simpa using h)
    simp only [List.set_cons_succ, toCome, List.getD_cons_succ] at this ⊢
    omega
theorem loopGo_some (g : Gr) : ∀ (k : Nat) (out : List Bool) (todo : List Int), out.length = g.outs.length → todo.length + toCome out g.ins < k → ∃ r, loopGo g k out todo = some r
  | 0, _, _, _, h => by omega
  | k + 1, out, [], _, _ => ⟨out, rfl⟩
  | k + 1, out, t :: todo, ho, h => by
    rw [loopGo]
    have hdl : ((t :: todo).dropLast).length = todo.length := by simp
    generalize (t :: todo).getLast (by simp) = l at *
    simp only [List.length_cons] at h
    split
    · exact loopGo_some g k _ _ ho (by rw [hdl]; omega)
    · rename_i hc
      simp only [not_or, Bool.not_eq_true, Bool.not_eq_false] at hc
      have hh := hc.2
      unfold Gr.has at hh
      simp only [Bool.and_eq_true, decide_eq_true_eq] at hh
      have hlo : out[l.toNat]? = some false := by
        have h1 : out[l.toNat]? = some (out.getD l.toNat false) := by
          rw [List.getD_eq_getElem?_getD, List.getElem?_eq_getElem (by omega)]; rfl
        rw [h1, hc.1]
      have := toCome_set out g.ins l.toNat hlo
      exact loopGo_some g k _ _ (by simpa using ho) (by rw [List.length_append, hdl]; omega)
theorem Gr.loop_go (g : Gr) (top : Nat) (b : Int) : loopGo g (2 + g.outs.length + (g.ins.map List.length).sum) ((List.replicate g.outs.length false).set top true) [b] = some (loopOf g top b) := by
  obtain ⟨r, hr⟩ := loopGo_some g (2 + g.outs.length + (g.ins.map List.length).sum) ((List.replicate g.outs.length false).set top true) [b] (by simp) (by
    have := toCome_le ((List.replicate g.outs.length false).set top true) g.ins
    simp only [List.length_cons, List.length_nil]; omega)
  rw [loopOf, hr]; rfl
theorem Rows.app_all {r : Rows} {p : Int → Prop} (h : ∀ l ∈ r, ∀ x ∈ l, p x) (k : Nat) {x : Int} (hx : p x) : ∀ l ∈ Rows.app r k x, ∀ y ∈ l, p y := by
  intro l hl y hy
  unfold Rows.app at hl
  rcases List.mem_or_eq_of_mem_set hl with hl | rfl
  · exact h l hl y hy
  · rcases List.mem_append.1 hy with hy | hy
    · rw [List.getD_eq_getElem?_getD] at hy
      cases hk : r[k]? with
      | none => rw [hk] at hy; simp at hy
      | some l0 => rw [hk] at hy; exact h l0 (List.mem_of_getElem? hk) y hy
    · simp at hy; subst hy; exact hx
theorem grWays_ok (n b : Nat) (hb : b < n) : ∀ (ws : List Edg) (r : Rows × Rows), (∀ l ∈ r.2, ∀ x ∈ l, 0 ≤ x ∧ x < (n : Int)) → ∀ l ∈ (grWays n b ws r).2, ∀ x ∈ l, 0 ≤ x ∧ x < (n : Int)
  | [], r, h => h
  | w :: ws, r, h => by
    rw [grWays]
    refine grWays_ok n b hb ws _ ?_
    split
    · exact Rows.app_all (p := fun x => 0 ≤ x ∧ x < (n : Int)) h _ (by omega)
    · exact h
theorem grBlks_ok (n : Nat) : ∀ (bs : List Blk) (b : Nat) (r : Rows × Rows), b + bs.length ≤ n → (∀ l ∈ r.2, ∀ x ∈ l, 0 ≤ x ∧ x < (n : Int)) → ∀ l ∈ (grBlks n b bs r).2, ∀ x ∈ l, 0 ≤ x ∧ x < (n : Int)
  | [], b, r, _, h => h
  | x :: xs, b, r, hb, h => by
    rw [grBlks]
    simp only [List.length_cons] at hb
    exact grBlks_ok n xs (b + 1) _ (by omega) (grWays_ok n b (by omega) _ _ h)
end Go.Pl.M

/- Programs that are right have graphs that end. -/
namespace Go.Pl.Try
open M
set_option linter.unusedVariables false
theorem Fnc.gr_end (f : Fnc) (hl : f.Lim) : GEnd f.blocks.length f.gr := by
  obtain ⟨h1, h2, h3, h4, h5⟩ := f.gr_facts hl
  have hb := hl.blocks
  simp only [lim] at hb
  refine ⟨?_, fun xs hx => ?_, ⟨_, by have := f.gr.doms_go; rw [h1] at this; exact this⟩, fun top b _ _ _ => ?_⟩
  · have := grBlks_ok f.blocks.length f.blocks 0 (List.replicate f.blocks.length [], List.replicate f.blocks.length []) (by omega) (fun l hl => by rw [List.eq_of_mem_replicate hl]; simp)
    exact this
  · have := h5 xs hx
    simp only [lim] at this
    omega
  · have hg := f.gr.loop_go top b
    rw [h1] at hg
    refine ⟨_, ?_, hg⟩
    have hs : ∀ (ls : List (List Int)) (m : Nat), (∀ l ∈ ls, l.length ≤ m) → (ls.map List.length).sum ≤ ls.length * m := by
      intro ls m
      induction ls with
      | nil => intro _; simp
      | cons a ls ih =>
        intro h
        have h6 := h a (by simp)
        have h7 := ih fun l hl => h l (by simp [hl])
        simp only [List.map_cons, List.sum_cons, List.length_cons, Nat.add_one_mul]
        omega
    have h8 := hs f.gr.ins (lim * lim) h5
    have h9 : f.gr.ins.length * (lim * lim) ≤ 1024 * (lim * lim) := Nat.mul_le_mul_right _ (by omega)
    simp only [lim] at h8 h9
    omega
theorem sane_of {p : Prg} (hl : p.Lim) (hc : p.check = true) : Sane p := by
  refine ⟨hl, fun f hf b hb => ?_, fun f hf => Fnc.gr_end f (hl.each f hf)⟩
  obtain ⟨k, hk⟩ := List.mem_iff_getElem?.1 hf
  exact ((prog_facts hc hk).1 b hb).2.1
end Go.Pl.Try

/- 'Of', reckoned at a program: a test that says all that the walk asks. -/
namespace Go.Pl.M
set_option linter.unusedVariables false
def Blk.limB (b : Blk) : Bool := decide (b.params.length ≤ lim) && decide (b.ins.length ≤ lim) && decide (b.fin.ways.length ≤ lim) && b.ins.all (fun i => decide (i.args.length ≤ lim)) && b.fin.ways.all fun w => decide (w.args.length ≤ lim)
def Fnc.limB (f : Fnc) : Bool := decide (f.blocks.length ≤ lim) && f.blocks.all Blk.limB
def Prg.limB (p : Prg) : Bool := decide (p.arrs.length ≤ lim) && decide (p.funcs.length ≤ lim) && p.funcs.all Fnc.limB
theorem Blk.lim_of {b : Blk} (h : b.limB = true) : b.Lim := by
  unfold Blk.limB at h
  simp only [Bool.and_eq_true, decide_eq_true_eq, List.all_eq_true] at h
  exact ⟨h.1.1.1.1, h.1.1.1.2, h.1.1.2, h.1.2, h.2⟩
theorem Fnc.lim_of {f : Fnc} (h : f.limB = true) : f.Lim := by
  unfold Fnc.limB at h
  simp only [Bool.and_eq_true, decide_eq_true_eq, List.all_eq_true] at h
  exact ⟨h.1, fun b hb => Blk.lim_of (h.2 b hb)⟩
theorem Prg.lim_of {p : Prg} (h : p.limB = true) : p.Lim := by
  unfold Prg.limB at h
  simp only [Bool.and_eq_true, decide_eq_true_eq, List.all_eq_true] at h
  exact ⟨h.1.1, h.1.2, fun f hf => Fnc.lim_of (h.2 f hf)⟩
def Net.fitB (n : Net) : Bool := n.right && decide (n.ways.length ≤ 68719476736) && decide (n.frm.length ≤ 68719476736) && decide (n.to.length ≤ 68719476736)
theorem Net.fit_of {n : Net} (h : n.fitB = true) : n.Fit := by
  unfold Net.fitB at h
  simp only [Bool.and_eq_true, decide_eq_true_eq] at h
  exact ⟨h.1.1.1, h.1.1.2, h.1.2, h.2⟩
def Fl.shapeB (f : Fl) : Bool := decide (2 ≤ f.outs.length) && f.outs.all (fun l => l.all fun a => decide (0 ≤ a) && decide (a < (f.arcs.length : Nat))) && f.arcs.all fun x => decide (0 ≤ x.1) && decide (x.1 < (f.outs.length : Nat))
theorem Fl.shape_of {f : Fl} (h : f.shapeB = true) : f.Shape := by
  unfold Fl.shapeB at h
  simp only [Bool.and_eq_true, decide_eq_true_eq, List.all_eq_true] at h
  exact ⟨h.1.1, h.1.2, h.2⟩
def smallB (arcs : List (Int × Int)) : Bool := arcs.all fun x => decide (-4611686018427387904 ≤ x.2) && decide (x.2 ≤ 4611686018427387904)
def Fl.pushB (f : Fl) : Bool :=
  let s := f.seek
  match pathGo f.arcs s (f.outs.length + 1) ((f.outs.length - 1 : Nat) : Int) with
  | none => false
  | some P =>
    let m := most f.arcs much P
    decide (0 ≤ m) && decide (m ≤ 4611686018427387904) && (List.range (P.length + 1)).all fun t => smallB (pushAll m (P.take t) f.arcs)
def Fl.readyB (f : Fl) : Bool := f.shapeB && decide (f.outs.length ≤ 1048576) && decide (f.arcs.length ≤ 4398046511104) && f.outs.all (fun l => decide (l.length ≤ 4398046511104)) && decide (f.arcs.length % 2 = 0) && (!f.found || f.pushB)
theorem Fl.ready_of {f : Fl} (h : f.readyB = true) : f.Ready := by
  unfold Fl.readyB at h
  simp only [Bool.and_eq_true, decide_eq_true_eq, List.all_eq_true, Bool.or_eq_true, Bool.not_eq_true'] at h
  obtain ⟨⟨⟨⟨⟨h1, h2⟩, h3⟩, h4⟩, h5⟩, h6⟩ := h
  have hp : f.found = true → ∃ P, pathGo f.arcs f.seek (f.outs.length + 1) ((f.outs.length - 1 : Nat) : Int) = some P ∧ f.path f.seek = P ∧ (0 ≤ most f.arcs much P ∧ most f.arcs much P ≤ 4611686018427387904) ∧
      ∀ t, ∀ x ∈ pushAll (most f.arcs much P) (P.take t) f.arcs, -4611686018427387904 ≤ x.2 ∧ x.2 ≤ 4611686018427387904 := by
    intro hf
    have hpb : f.pushB = true := by
      rcases h6 with h6 | h6
      · rw [hf] at h6; cases h6
      · exact h6
    unfold Fl.pushB at hpb
    simp only at hpb
    split at hpb
    · cases hpb
    · rename_i P hP
      simp only [Bool.and_eq_true, decide_eq_true_eq, List.all_eq_true, List.mem_range] at hpb
      refine ⟨P, hP, by unfold Fl.path; rw [hP]; rfl, hpb.1, fun t x hx => ?_⟩
      by_cases ht : t < P.length + 1
      · have := hpb.2 t ht
        unfold smallB at this
        simp only [List.all_eq_true, Bool.and_eq_true, decide_eq_true_eq] at this
        exact this x hx
      · have h2 := hpb.2 P.length (by omega)
        rw [List.take_of_length_le (by omega)] at hx
        rw [List.take_of_length_le (Nat.le_refl _)] at h2
        unfold smallB at h2
        simp only [List.all_eq_true, Bool.and_eq_true, decide_eq_true_eq] at h2
        exact h2 x hx
  refine ⟨Fl.shape_of h1, h2, h3, h4, h5, fun hf => ?_, fun hf => ?_, fun hf => ?_⟩
  · obtain ⟨P, h1, h2, -, -⟩ := hp hf
    exact ⟨_, by rw [h2]; exact h1⟩
  · obtain ⟨P, -, h2, h3, -⟩ := hp hf
    rw [h2]; exact h3
  · obtain ⟨P, -, h2, -, h4⟩ := hp hf
    rw [h2]; exact h4
def runChk (all : Nat) : Nat → Fl → Option Fl
  | 0, _ => none
  | k + 1, f => if f.readyB && decide (f.outs.length = all) then (if f.found then runChk all k (f.push f.seek) else some f) else none
theorem runChk_go {all : Nat} : ∀ {k : Nat} {f fin : Fl}, runChk all k f = some fin → leastGo k f = some fin
  | 0, f, fin, h => by cases h
  | k + 1, f, fin, h => by
    rw [runChk] at h
    rw [leastGo]
    split at h
    · split at h
      · rename_i hf; rw [if_pos hf]; exact runChk_go h
      · rename_i hf; rw [if_neg hf]; exact h
    · cases h
def Prg.flChk (p : Prg) (S : TS) (g k : Nat) : Option Fl := if (p.hz S k).net.fitB then runChk (p.hz S k).net.all g (p.hz S k).net.mk' else none
def Prg.flOf (p : Prg) (S : TS) (g k : Nat) : Fl := (p.flChk S g k).getD ⟨[], []⟩
/-- All that 'Of' does, tested: the cuts, the places, the weight. -/
def Prg.ofChk (p : Prg) (g : Nat) : Option (List (List Int) × List Plc × Int) :=
  if p.limB && p.check then
    match TS.go p p.noCut p.writes g p.start with
    | none => none
    | some S1 =>
      if (List.range p.funcs.length).all (fun k => (p.flChk S1 g k).isSome) then
        match TS.go p (p.newCut S1 (p.flOf S1 g)) p.writes g p.start with
        | none => none
        | some S2 => some ((List.range p.funcs.length).map (p.cutKeys S1 (p.flOf S1 g)), places (p.sinks S2), sumTo (p.cutWt S1 (p.flOf S1 g)) p.funcs.length)
      else none
  else none
end Go.Pl.M

/- What 'palings/palingslaw14.head' does, read off its translation by gen.py. -/
namespace Go.Pl.Try
set_option linter.unusedVariables false
set_option maxRecDepth 100000
def F6  (w : World) (R : Value → World → Prop) : Prop :=
  AlP 25 [.string ⟨#[105]⟩, .int .i64 1, .int .i64 0, .string ⟨#[104]⟩, .int .i64 1, .int .i64 4] w fun b1 w2 =>
  AlP 3 [.int .i64 1] w2 fun b3 w4 =>
  AlP 3 [.int .i64 2] w4 fun b5 w6 =>
  AlP 37 [.int .i64 3, .int .i64 1, .slice none 0 0, .int .i64 0, .int .i64 0, .int .i64 0, .int .i64 0, .int .i64 5, .int .i64 2, .slice (some ⟨b3, 0, none⟩) 1 1, .int .i64 0, .int .i64 0, .int .i64 1, .int .i64 0, .int .i64 5, .int .i64 3, .slice (some ⟨b5, 0, none⟩) 1 1, .int .i64 0, .int .i64 0, .int .i64 1, .int .i64 0] w6 fun b7 w8 =>
  AlP 47 [.slice none 0 0, .slice (some ⟨b7, 0, none⟩) 3 3, .int .i64 3, .int .i64 3, .slice none 0 0, .int .i64 0] w8 fun b9 w10 =>
  AlP 29 [.string ⟨#[]⟩, .slice (some ⟨b9, 0, none⟩) 1 1] w10 fun b11 w12 =>
  AlP 32 [.slice none 0 0, .slice none 0 0, .int .i64 0] w12 fun b13 w14 =>
  StP b13 0 [.slice (some ⟨b1, 0, none⟩) 2 2, .slice (some ⟨b11, 0, none⟩) 1 1, .int .i64 0] w14 fun w15 =>
  ∃ (ax16 : Option Addr) (nx16 cx16 : Nat) (ax17 : Option Addr) (nx17 cx17 : Nat) (x18 : Int), Row w15 b13 0 [.slice ax16 nx16 cx16, .slice ax17 nx17 cx17, .int .i64 x18] ∧
  CallP Pg 7 [.agg ⟨[.slice ax16 nx16 cx16, .slice ax17 nx17 cx17, .int .i64 x18]⟩] w15 fun v19 w20 => ∃ (ax21 : Option Addr) (nx21 cx21 : Nat) (ax22 : Option Addr) (nx22 cx22 : Nat) (x23 : Int) (x24 : Int), v19 = .tuple ⟨[.agg ⟨[.slice ax21 nx21 cx21, .slice ax22 nx22 cx22, .int .i64 x23]⟩, .int .i64 x24]⟩ ∧
  AlP 51 [.slice none 0 0, .slice none 0 0, .int .i64 0] w20 fun b25 w26 =>
  StP b25 0 [.slice ax21 nx21 cx21, .slice ax22 nx22 cx22, .int .i64 x23] w26 fun w27 =>
  sp (decide ((x24 : Int) = 0))
  (∃ (ax28 : Option Addr) (nx28 cx28 : Nat), cel w27 b25 0 = some (.slice ax28 nx28 cx28) ∧
  sp (decide (((nx28 : Nat) : Int) = 1))
  (∃ (ax29 : Option Addr) (nx29 cx29 : Nat) (ax30 : Option Addr) (nx30 cx30 : Nat) (x31 : Int), Row w27 b25 0 [.slice ax29 nx29 cx29, .slice ax30 nx30 cx30, .int .i64 x31] ∧
  CallP Pg 21 [.agg ⟨[.slice ax29 nx29 cx29, .slice ax30 nx30 cx30, .int .i64 x31]⟩, .int .i64 0] w27 fun v32 w33 => ∃ (ax34 : Option Addr) (nx34 cx34 : Nat), v32 = .slice ax34 nx34 cx34 ∧
  sp (decide (((nx34 : Nat) : Int) = 1))
  (∃ (ax35 : Option Addr) (nx35 cx35 : Nat) (ax36 : Option Addr) (nx36 cx36 : Nat) (x37 : Int), Row w33 b25 0 [.slice ax35 nx35 cx35, .slice ax36 nx36 cx36, .int .i64 x37] ∧
  CallP Pg 21 [.agg ⟨[.slice ax35 nx35 cx35, .slice ax36 nx36 cx36, .int .i64 x37]⟩, .int .i64 0] w33 fun v38 w39 => ∃ (ax40 : Option Addr) (nx40 cx40 : Nat), v38 = .slice ax40 nx40 cx40 ∧
  0 ≤ (0 : Int) ∧ (0 : Int) < (nx40 : Nat) ∧
  ptAt ax40 fun b41 o42 =>
  ∃ (x43 : Int), cel w39 b41 o42 = some (.int .i64 x43) ∧
  sp (decide ((x43 : Int) = 2))
  (∃ (ax44 : Option Addr) (nx44 cx44 : Nat), cel w39 b25 1 = some (.slice ax44 nx44 cx44) ∧
  sp (decide (((nx44 : Nat) : Int) = 0))
  (∃ (ax45 : Option Addr) (nx45 cx45 : Nat) (ax46 : Option Addr) (nx46 cx46 : Nat) (x47 : Int), Row w39 b25 0 [.slice ax45 nx45 cx45, .slice ax46 nx46 cx46, .int .i64 x47] ∧
  CallP Pg 8 [.agg ⟨[.slice ax45 nx45 cx45, .slice ax46 nx46 cx46, .int .i64 x47]⟩] w39 fun v48 w49 => ∃ (x50 : Int), v48 = .int .i64 x50 ∧
  R (.bool (decide ((x50 : Int) = 1))) w49)
  (R (.bool false) w39))
  (R (.bool false) w39))
  (R (.bool false) w33))
  (R (.bool false) w27))
  (R (.bool false) w27)
def T6 : List Sh := [.v (.one .bool), .v (.one .ptr), .v (.one .ptr), .v (.one (.int .i64)), .v (.agg [.str, (.int .i64), (.int .i64)]), .v (.agg [.str, (.int .i64), (.int .i64)]), .v (.one .sl), .v (.agg [(.int .i64), (.int .i64), .sl, (.int .i64), (.int .i64), (.int .i64), (.int .i64)]), .v (.one .sl), .v (.agg [(.int .i64), (.int .i64), .sl, (.int .i64), (.int .i64), (.int .i64), (.int .i64)]), .v (.one .sl), .v (.agg [(.int .i64), (.int .i64), .sl, (.int .i64), (.int .i64), (.int .i64), (.int .i64)]), .v (.one .sl), .v (.agg [(.int .i64), (.int .i64), .sl, (.int .i64)]), .v (.agg [.sl, .sl, (.int .i64), (.int .i64), .sl, (.int .i64)]), .v (.one .sl), .v (.agg [.str, .sl]), .v (.one .sl), .v (.agg [.sl, .sl, (.int .i64)]), .t [(.agg [.sl, .sl, (.int .i64)]), (.one (.int .i64))], .v (.agg [.sl, .sl, (.int .i64)]), .t [(.agg [.sl, .sl, (.int .i64)]), (.one (.int .i64))], .v (.agg [.sl, .sl, (.int .i64)]), .v (.one (.int .i64)), .v (.one (.int .i64)), .v (.one .bool), .v (.one .bool), .v (.one .ptr), .v (.one .sl), .v (.one (.int .i64)), .v (.one .bool), .v (.one .bool), .v (.one .bool), .v (.agg [.sl, .sl, (.int .i64)]), .v (.one .sl), .v (.one (.int .i64)), .v (.one .bool), .v (.one .bool), .v (.one .bool), .v (.agg [.sl, .sl, (.int .i64)]), .v (.one .sl), .v (.one .ptr), .v (.one (.int .i64)), .v (.one .bool), .v (.one .bool), .v (.one .bool), .v (.one .ptr), .v (.one .sl), .v (.one (.int .i64)), .v (.one .bool), .v (.one .bool), .v (.one .bool), .v (.agg [.sl, .sl, (.int .i64)]), .v (.one (.int .i64)), .v (.one .bool), .v (.one .bool)]
def A6 : Ann := (.seq none .z (.seq none .z (.seq none .z (.seq none .z .z))))
theorem F6_eq  (w : World) (R : Value → World → Prop) : F6  w R = denF Go.Proofs.Try.prog T6 Go.Proofs.Try.f6 A6 [] w R := by kernel_rfl
theorem F6_ok  {w : World} {R : Value → World → Prop} (h : F6  w R) : CallP Go.Proofs.Try.prog 6 [] w R :=
  calls_den (fun _ => drawn (by kernel_rfl)) Go.Proofs.Try.func6 (Nat.le_of_ble_eq_true (by kernel_rfl)) ((F6_eq  w R).mp h)
end Go.Pl.Try

/- The law's example: walked. -/
namespace Go.Pl
open M
set_option linter.unusedVariables false
theorem rds_block {α : Type} {size : Nat} {R : World → List Value → α → Prop} {w : World} {b : Nat} {e : TypeId} {fr : Nat × Nat} {vs : List Value} {xs : List α} (h : w.heap[b]? = some (.cells ⟨vs⟩ e fr)) (hl : vs.length = xs.length * size) (hm : xs.length ≤ maxLen)
    (hR : ∀ i x, xs[i]? = some x → R w ((vs.drop (i * size)).take size) x) : RdS size R w (some ⟨b, 0, none⟩) xs.length xs := by
  refine ⟨rfl, hm, fun i x hi => ?_⟩
  have hin := (List.getElem?_eq_some_iff.1 hi).1
  have hfit : i * size + size ≤ vs.length := by
    rw [hl]
    have : (i + 1) * size ≤ xs.length * size := Nat.mul_le_mul_right _ hin
    rw [Nat.add_mul, Nat.one_mul] at this
    exact this
  refine ⟨b, 0, _, rfl, fun j v hj => ?_, ?_, hR i x hi⟩
  · rw [List.getElem?_take] at hj
    split at hj
    · rw [List.getElem?_drop] at hj
      exact cel_of h (by rw [show 0 + i * size + j = i * size + j by omega]; exact hj)
    · cases hj
  · rw [List.length_take, List.length_drop]; omega
end Go.Pl
namespace Go.Pl.Try
open M
set_option linter.unusedVariables false
theorem leastRun_of {n : Net} {k : Nat} {fin : Fl} (h : runChk n.all k n.mk' = some fin) : LeastRun n fin := by
  refine ⟨fun f => ∃ k, (runChk n.all k f).isSome, k, ⟨k, by rw [h]; rfl⟩, runChk_go h, ?_⟩
  rintro f ⟨k, hk⟩
  cases k with
  | zero => cases hk
  | succ k =>
    rw [runChk] at hk
    split at hk
    · rename_i hc
      simp only [Bool.and_eq_true, decide_eq_true_eq] at hc
      refine ⟨Fl.ready_of hc.1, hc.2, fun hf => ⟨k, ?_⟩⟩
      rw [if_pos hf] at hk
      exact hk
    · cases hk
theorem ofRun_of {p : Prg} {g : Nat} {cs : List (List Int)} {gs : List Plc} {wt : Int} (h : p.ofChk g = some (cs, gs, wt)) :
    p.Lim ∧ p.check = true ∧ ∃ S1 fl S2, OfRun p S1 fl S2 ∧ (∀ k, k < p.funcs.length → p.cutKeys S1 fl k = cs.getD k []) ∧ places (p.sinks S2) = gs ∧ sumTo (p.cutWt S1 fl) p.funcs.length = wt := by
  unfold Prg.ofChk at h
  split at h
  · rename_i hc
    simp only [Bool.and_eq_true] at hc
    split at h
    · cases h
    · rename_i S1 hS1
      split at h
      · rename_i hall
        simp only [List.all_eq_true, List.mem_range] at hall
        split at h
        · cases h
        · rename_i S2 hS2
          simp only [Option.some.injEq, Prod.mk.injEq] at h
          obtain ⟨rfl, rfl, rfl⟩ := h
          have hnet : ∀ k, k < p.funcs.length → (p.hz S1 k).net.Fit ∧ LeastRun (p.hz S1 k).net (p.flOf S1 g k) := by
            intro k hk
            have h1 := hall k hk
            unfold Prg.flChk at h1
            split at h1
            · rename_i hf
              refine ⟨Net.fit_of hf, ?_⟩
              unfold Prg.flOf Prg.flChk
              rw [if_pos hf]
              cases hr : runChk (p.hz S1 k).net.all g (p.hz S1 k).net.mk' with
              | none => rw [hr] at h1; cases h1
              | some fin => exact leastRun_of hr
            · cases h1
          refine ⟨Prg.lim_of hc.1, hc.2, S1, p.flOf S1 g, S2, ⟨sane_of (Prg.lim_of hc.1) hc.2, ⟨g, hS1⟩, fun k hk => (hnet k hk).1, fun k hk => (hnet k hk).2, ⟨g, hS2⟩⟩, fun k hk => ?_, rfl, rfl⟩
          rw [List.getD_eq_getElem?_getD, List.getElem?_map, List.getElem?_range hk]
          rfl
      · cases h
  · cases h
theorem RCuts.congr {w : World} {a : Option Addr} {n : Nat} {c c' : Nat → List Int} (h : RCuts w a n c) (e : ∀ k, k < n → c k = c' k) : RCuts w a n c' := fun k hk => by rw [← e k hk]; exact h k hk
theorem of_chk_w {w : World} {p : Prg} {vs : List Value} (h : RProg w vs p) {g : Nat} {cs : List (List Int)} {gs : List Plc} {wt : Int} (hc : p.ofChk g = some (cs, gs, wt)) :
    CallP Pg 7 [.agg ⟨vs⟩] w fun u w' => ∃ us, u = .tuple ⟨[.agg ⟨us⟩, .int .i64 0]⟩ ∧ RPlan w' us p.funcs.length (fun k => cs.getD k []) gs wt ∧ Ext w w' := by
  obtain ⟨hl, hck, S1, fl, S2, hrun, h1, h2, h3⟩ := ofRun_of hc
  refine (hof_w h hl (fun _ => hrun)).mono ?_
  rintro u w' ⟨hx, -, hy⟩
  obtain ⟨us, rfl, ac, cc, ag, ng, cg, rfl, hcut, hg⟩ := hy hck
  exact ⟨_, rfl, ⟨ac, cc, ag, ng, cg, by rw [h3], hcut.congr h1, h2 ▸ hg⟩, hx⟩
def headP : Prg := ⟨[⟨⟨#[105]⟩, 1, 0⟩, ⟨⟨#[104]⟩, 1, 4⟩], [⟨⟨#[]⟩, [⟨[], [⟨3, 1, [], 0, 0, 0, 0⟩, ⟨5, 2, [1], 0, 0, 1, 0⟩, ⟨5, 3, [2], 0, 0, 1, 0⟩], ⟨3, 3, [], 0⟩⟩]⟩], 0⟩
theorem head_chk : headP.ofChk 20 = some ([[2]], [], 1) := by decide +kernel
theorem head_w (w : World) : CallP Pg 6 [] w fun v w' => v = .bool true ∧ Ext w w' := by
  refine F6_ok ?_
  unfold F6
  refine alp (Hp.refl w) fun b1 w2 h2 => alp h2 fun b3 w4 h4 => alp h4 fun b5 w6 h6 => alp h6 fun b7 w8 h8 => alp h8 fun b9 w10 h10 => alp h10 fun b11 w12 h12 => alp h12 fun b13 w14 h14 => ?_
  refine stp h14 0 rfl (by simp) rfl fun w15 h15 => ⟨_, _, _, _, _, _, _, h15.row 0 rfl, ?_⟩
  have i1 : RdI w15 (some ⟨b3, 0, none⟩) 1 [1] := rds_block (xs := [1]) (h15.at 5 rfl) rfl (by simp only [List.length_cons, List.length_nil, maxLen]; omega) (fun i x hi => by
    match i, hi with
    | 0, hi => cases hi; rfl
    | i + 1, hi => simp at hi)
  have i2 : RdI w15 (some ⟨b5, 0, none⟩) 1 [2] := rds_block (xs := [2]) (h15.at 4 rfl) rfl (by simp only [List.length_cons, List.length_nil, maxLen]; omega) (fun i x hi => by
    match i, hi with
    | 0, hi => cases hi; rfl
    | i + 1, hi => simp at hi)
  have hP : RProg w15 [.slice (some ⟨b1, 0, none⟩) 2 2, .slice (some ⟨b11, 0, none⟩) 1 1, .int .i64 0] headP := by
    refine ⟨_, _, _, _, _, _, rfl, rds_block (xs := headP.arrs) (h15.at 6 rfl) rfl (by simp only [headP, List.length_cons, List.length_nil, maxLen]; omega) ?_, rds_block (xs := headP.funcs) (h15.at 1 rfl) rfl (by simp only [headP, List.length_cons, List.length_nil, maxLen]; omega) ?_⟩
    · intro i x hi
      match i, hi with
      | 0, hi => cases hi; rfl
      | 1, hi => cases hi; rfl
      | i + 2, hi => simp [headP] at hi
    · intro i x hi
      match i, hi with
      | 0, hi =>
        cases hi
        refine ⟨_, _, _, rfl, rds_block (xs := [_]) (h15.at 2 rfl) rfl (by simp only [List.length_cons, List.length_nil, maxLen]; omega) ?_⟩
        intro i x hi
        match i, hi with
        | 0, hi =>
          cases hi
          refine ⟨_, _, _, _, _, _, _, _, _, rfl, RdS.nil _ _ _ _, rds_block (xs := [_, _, _]) (h15.at 3 rfl) rfl (by simp only [List.length_cons, List.length_nil, maxLen]; omega) ?_, RdS.nil _ _ _ _⟩
          intro i x hi
          match i, hi with
          | 0, hi => cases hi; exact ⟨_, _, _, rfl, RdS.nil _ _ _ _, Nat.le_refl _⟩
          | 1, hi => cases hi; exact ⟨_, _, _, rfl, i1, Nat.le_refl _⟩
          | 2, hi => cases hi; exact ⟨_, _, _, rfl, i2, Nat.le_refl _⟩
          | i + 3, hi => simp at hi
        | i + 1, hi => simp at hi
      | i + 1, hi => simp [headP] at hi
  refine (of_chk_w hP head_chk).mono ?_
  rintro _ w20 ⟨us, rfl, hpl, hx20⟩
  obtain ⟨ac, cc, ag, ng, cg, rfl, hcut, hg⟩ := hpl
  have hgn : ng = 0 := hg.len.symm
  subst hgn
  refine ⟨_, _, _, _, _, _, _, _, rfl, ?_⟩
  refine alp (Hp.refl w20) fun b25 w26 h26 => ?_
  refine stp h26 0 rfl (by simp) rfl fun w27 h27 => sp_true rfl ⟨_, _, _, h27.cl 0 rfl rfl, sp_true rfl ?_⟩
  have hp27 : RPlan w27 [.slice ac 1 cc, .slice ag 0 cg, .int .i64 1] 1 (fun k => ([[2]] : List (List Int)).getD k []) [] 1 := ⟨ac, cc, ag, 0, cg, rfl, RCuts.ext hcut h27.ext, RdPlc.ext hg h27.ext⟩
  refine ⟨_, _, _, _, _, _, _, h27.row 0 rfl, ?_⟩
  refine (values_w hp27 (k := 0) (by omega) (by decide) (by decide)).mono ?_
  rintro _ w33 ⟨a34, c34, l34, rfl, hp34, -, hr34, hx33⟩
  have hl34 : l34 = [2] := List.perm_singleton.1 hp34
  subst hl34
  refine ⟨_, _, _, rfl, sp_true rfl ?_⟩
  have h33 := h27.step hx33
  have hp33 : RPlan w33 [.slice ac 1 cc, .slice ag 0 cg, .int .i64 1] 1 (fun k => ([[2]] : List (List Int)).getD k []) [] 1 := ⟨ac, cc, ag, 0, cg, rfl, RCuts.ext hcut h33.ext, RdPlc.ext hg h33.ext⟩
  refine ⟨_, _, _, _, _, _, _, h33.row 0 rfl, ?_⟩
  refine (values_w hp33 (k := 0) (by omega) (by decide) (by decide)).mono ?_
  rintro _ w39 ⟨a40, c40, l40, rfl, hp40, -, hr40, hx39⟩
  have hl40 : l40 = [2] := List.perm_singleton.1 hp40
  subst hl40
  have h39 := h33.step hx39
  obtain ⟨b41, o41, ha41, hc41⟩ := RdI.at hr40 (i := 0) rfl
  refine ⟨_, _, _, rfl, by omega, by simp, ptAt_of ha41 ⟨2, by simpa using hc41, sp_true rfl ⟨_, _, _, h39.cl 0 rfl rfl, sp_true rfl ?_⟩⟩⟩
  have hp39 : RPlan w39 [.slice ac 1 cc, .slice ag 0 cg, .int .i64 1] 1 (fun k => ([[2]] : List (List Int)).getD k []) [] 1 := ⟨ac, cc, ag, 0, cg, rfl, RCuts.ext hcut h39.ext, RdPlc.ext hg h39.ext⟩
  refine ⟨_, _, _, _, _, _, _, h39.row 0 rfl, ?_⟩
  refine (fences_w hp39 (by omega) (fun k hk => by
    have : k = 0 := by omega
    subst this; decide) (by decide)).mono ?_
  rintro _ w49 ⟨rfl, hx49⟩
  exact ⟨_, rfl, rfl, h15.ext.trans (hx20.trans (h39.ext.trans hx49))⟩
end Go.Pl.Try
