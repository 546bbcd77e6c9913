/- Joined texts of the proof, part 10: WTaint1, F60, WTaint2, F33, WTaint3, F11. -/
import Derived.Test.YtbacmadoenicnaaS09
set_option maxRecDepth 2000
set_option linter.unusedVariables false
set_option linter.unusedSimpArgs false
set_option linter.unusedSectionVars false
/- Labels: a value, walked. -/
namespace Go.Pl
open M
set_option linter.unusedVariables false
def LabO (g : Int → Int) (o : Obj) : Prop := ∃ f, MapO f o ∧ ∀ k, (f k).getD (.int .i64 0) = .int .i64 (g k)
def Owns (w : World) (L : List (Nat × Obj)) : Prop := ∀ p ∈ L, w.heap[p.1]? = some p.2
theorem Hp.owns {w0 w : World} {L L' : List (Nat × Obj)} (h : Hp w0 w L) (hs : ∀ p ∈ L', p ∈ L) : Owns w L' := fun p hp => (h.own p (hs p hp)).2
/-- Where a solver's parts lie. -/
structure SEnv where
  sb : Nat
  pv : List Value
  av : Option Addr
  nv : Nat
  cv : Nat
  aa : Option Addr
  na : Nat
  ca : Nat
  ra : Rw
  br : Nat
  nr : Nat
  ac : Option Addr
  nc : Nat
  cc : Nat
  aw : Option Addr
  nw : Nat
  cw : Nat
  ids : List Nat
  ro : List (Nat × Obj)
def SEnv.cells (E : SEnv) (t : Bool) : List Value := E.pv ++ [.slice E.av E.nv E.cv, .slice E.aa E.na E.ca, .slice (some ⟨E.br, 0, none⟩) E.nr E.nr, .slice E.ac E.nc E.cc, .slice E.aw E.nw E.cw, .bool t]
end Go.Pl
namespace Go.Pl.Try
open M
set_option linter.unusedVariables false
def SL (E : SEnv) (S : TS) (os : List Obj) : List (Nat × Obj) :=
  (E.sb, Cl 110 (E.cells S.turned)) :: (E.br, Cl 79 (S.rets.map (Value.int .i64))) :: (E.ra.L 79 (S.arrs.map (Value.int .i64)) ++ (E.ids.zip os ++ E.ro))
structure SOk (E : SEnv) (p : Prg) (cut : List (Int → Bool)) (writes : List Bool) (w0 : World) : Prop where
  prog : RProg w0 E.pv p
  nv : E.nv = p.funcs.length
  nc : E.nc = p.funcs.length
  nr : E.nr = p.funcs.length
  ids : E.ids.length = p.funcs.length
  vals : ∀ w, Owns w E.ro → ∀ (f mb : Nat), E.ids[f]? = some mb → ∃ b o, E.av = some ⟨b, o, none⟩ ∧ cel w b (o + f * 1) = some (.map (some mb))
  cut : ∀ w, Owns w E.ro → ∀ f, f < p.funcs.length → ∃ b o pc g, E.ac = some ⟨b, o, none⟩ ∧ cel w b (o + f * 1) = some (.map pc) ∧ RMap w pc g ∧ ∀ k, (g k).getD (.bool false) = .bool (cutAt cut f k)
  writes : ∀ w, Owns w E.ro → RdBs w E.aw E.nw writes
structure SSt (E : SEnv) (p : Prg) (S : TS) (os : List Obj) : Prop where
  vl : S.vals.length = p.funcs.length
  ol : os.length = p.funcs.length
  lab : ∀ (f : Nat) (o : Obj), os[f]? = some o → LabO (S.get f) o
  al : S.arrs.length = p.arrs.length
  arr : Sls 1 E.aa E.na E.ca (S.arrs.map (Value.int .i64)) E.ra
  rl : S.rets.length = p.funcs.length
theorem mpLab : mpT Pg 80 79 = true := by kernel_rfl
theorem zLab : zeroOf Pg 79 = some (.int .i64 0) := by kernel_rfl
theorem raise_w {w0 w : World} {L : List (Nat × Obj)} (h : Hp w0 w L) (i k : Nat) {lb sb o : Nat} {e e' : TypeId} {xs cells : List Value} {x to : Int} (hi : L[i]? = some (lb, Cl e xs)) (hx : xs[o]? = some (.int .i64 x)) (hk : L[k]? = some (sb, Cl e' cells)) (hc : cells.length = 9) (hik : i ≠ k) :
    CallP Pg 62 [.pointer (some ⟨sb, 0, none⟩), .pointer (some ⟨lb, o, none⟩), .int .i64 to] w fun v w' => v = .tuple ⟨[]⟩ ∧
      Hp w0 w' (if x < to then (L.set i (lb, Cl e (xs.set o (.int .i64 to)))).set k (sb, Cl e' (cells.set 8 (.bool true))) else L) := by
  refine F62_ok _ _ _ (ptAt_of rfl ⟨x, h.cl i hi hx, sp_dec (fun hlt => ptAt_of rfl ?_) (fun hlt => ⟨rfl, by rw [if_neg hlt]; exact h⟩)⟩)
  have hol := (List.getElem?_eq_some_iff.1 hx).1
  refine stp h i hi (by simp; omega) rfl fun w9 h9 => ptAt_of rfl ?_
  refine stp h9 k (by rw [List.getElem?_set_ne hik]; exact hk) (by simp; omega) rfl fun w12 h12 => ⟨rfl, ?_⟩
  rw [if_pos hlt]
  have e1 : splice xs o [.int .i64 to] = xs.set o (.int .i64 to) := by
    have := set_splice (fun v : Value => v) xs o (.int .i64 to) hol
    simpa using this
  have e2 : splice cells (0 + 8) [.bool true] = cells.set 8 (.bool true) := by
    have := set_splice (fun v : Value => v) cells 8 (.bool true) (by omega)
    simpa using this
  rw [e1, e2] at h12
  exact h12
section
variable {E : SEnv} {p : Prg} {cut : List (Int → Bool)} {writes : List Bool} {w0 w : World} {F : List (Nat × Obj)} {S : TS} {os : List Obj}
theorem SL.ro (h : Hp w0 w (F ++ SL E S os)) : Owns w E.ro := h.owns fun p hp => by simp [SL, hp]
theorem pv_len (hE : SOk E p cut writes w0) : E.pv.length = 3 := by
  obtain ⟨aa, na, ca, af, nf, cf, e, -⟩ := hE.prog
  rw [e]; rfl
theorem SL.cell (hE : SOk E p cut writes w0) (h : Hp w0 w (F ++ SL E S os)) {j : Nat} {v : Value} (hv : (E.cells S.turned)[j]? = some v) : cel w E.sb j = some v :=
  h.cl F.length (by rw [List.getElem?_append_right (Nat.le_refl _)]; simp [SL]; rfl) hv
theorem cells_at (hE : SOk E p cut writes w0) (t : Bool) (k : Nat) : (E.cells t)[3 + k]? = [Value.slice E.av E.nv E.cv, .slice E.aa E.na E.ca, .slice (some ⟨E.br, 0, none⟩) E.nr E.nr, .slice E.ac E.nc E.cc, .slice E.aw E.nw E.cw, .bool t][k]? := by
  unfold SEnv.cells
  rw [List.getElem?_append_right (by rw [pv_len hE]; omega), pv_len hE]
  congr 1
  omega
theorem SL.cV (hE : SOk E p cut writes w0) (h : Hp w0 w (F ++ SL E S os)) : cel w E.sb (0 + 3) = some (.slice E.av E.nv E.cv) := SL.cell hE h (cells_at hE _ 0)
theorem SL.cA (hE : SOk E p cut writes w0) (h : Hp w0 w (F ++ SL E S os)) : cel w E.sb (0 + 3 + 1) = some (.slice E.aa E.na E.ca) := SL.cell hE h (cells_at hE _ 1)
theorem SL.cR (hE : SOk E p cut writes w0) (h : Hp w0 w (F ++ SL E S os)) : cel w E.sb (0 + 3 + 2) = some (.slice (some ⟨E.br, 0, none⟩) E.nr E.nr) := SL.cell hE h (cells_at hE _ 2)
theorem SL.cC (hE : SOk E p cut writes w0) (h : Hp w0 w (F ++ SL E S os)) : cel w E.sb (0 + 3 + 3) = some (.slice E.ac E.nc E.cc) := SL.cell hE h (cells_at hE _ 3)
theorem SL.cW (hE : SOk E p cut writes w0) (h : Hp w0 w (F ++ SL E S os)) : cel w E.sb (0 + 7) = some (.slice E.aw E.nw E.cw) := SL.cell hE h (cells_at hE _ 4)
theorem SL.cT (hE : SOk E p cut writes w0) (h : Hp w0 w (F ++ SL E S os)) : cel w E.sb (0 + 8) = some (.bool S.turned) := SL.cell hE h (cells_at hE _ 5)
theorem SL.prog (hE : SOk E p cut writes w0) (h : Hp w0 w (F ++ SL E S os)) : Row w E.sb 0 E.pv := by
  intro j v hj
  rw [Nat.zero_add]
  refine SL.cell hE h ?_
  unfold SEnv.cells
  rw [List.getElem?_append_left (List.getElem?_eq_some_iff.1 hj).1]
  exact hj
theorem SL.map (hE : SOk E p cut writes w0) (hS : SSt E p S os) {f : Nat} (hf : f < p.funcs.length) : ∃ mb om, E.ids[f]? = some mb ∧ os[f]? = some om ∧ LabO (S.get f) om ∧
    (F ++ SL E S os)[F.length + 2 + (E.ra.L 79 (S.arrs.map (Value.int .i64))).length + f]? = some (mb, om) ∧
    ∀ o', (F ++ SL E S os).set (F.length + 2 + (E.ra.L 79 (S.arrs.map (Value.int .i64))).length + f) (mb, o') = F ++ SL E S (os.set f o') := by
  obtain ⟨mb, hmb⟩ : ∃ b, E.ids[f]? = some b := ⟨_, List.getElem?_eq_getElem (by rw [hE.ids]; exact hf)⟩
  obtain ⟨om, hom⟩ : ∃ b, os[f]? = some b := ⟨_, List.getElem?_eq_getElem (by rw [hS.ol]; exact hf)⟩
  have hz := zip_get E.ids os f mb om hmb hom
  have hzl := (List.getElem?_eq_some_iff.1 hz).1
  generalize hR : E.ra.L 79 (S.arrs.map (Value.int .i64)) = R
  refine ⟨mb, om, hmb, hom, hS.lab f om hom, ?_, fun o' => ?_⟩
  · rw [List.getElem?_append_right (by omega), show F.length + 2 + R.length + f - F.length = (R.length + f) + 1 + 1 by omega, SL, hR, List.getElem?_cons_succ, List.getElem?_cons_succ, List.getElem?_append_right (by omega), show R.length + f - R.length = f by omega, List.getElem?_append_left hzl]
    exact hz
  · rw [List.set_append_right _ _ (by omega), show F.length + 2 + R.length + f - F.length = (R.length + f) + 1 + 1 by omega, SL, hR, List.set_cons_succ, List.set_cons_succ, List.set_append_right _ _ (by omega), show R.length + f - R.length = f by omega, List.set_append_left _ _ hzl, zip_set E.ids os f mb o' hmb]
    rw [SL, hR]
theorem labLook {g : Int → Int} {b : Nat} {o : Obj} (h : LabO g o) (hb : w.heap[b]? = some o) (k : Int) : (Instr.lookup 80 (.map (some b)) (.int .i64 k) false).run Pg w = .ok (.int .i64 (g k)) w := by
  obtain ⟨f, h1, h2⟩ := h
  rw [look_map mpLab zLab (p := some b) (f := f) ⟨o, hb, h1⟩, h2]
theorem solTurn (S : TS) (hE : SOk E p cut writes w0) : (F ++ SL E S os).set F.length (E.sb, Cl 110 ((E.cells S.turned).set 8 (.bool true))) = F ++ SL E { S with turned := true } os := by
  rw [List.set_append_right _ _ (Nat.le_refl _), Nat.sub_self]
  have : (E.cells S.turned).set 8 (.bool true) = E.cells true := by
    unfold SEnv.cells
    rw [List.set_append_right _ _ (by rw [pv_len hE]; omega), pv_len hE]
    rfl
  rw [this]
  rfl
theorem of_w (hE : SOk E p cut writes w0) (h : Hp w0 w (F ++ SL E S os)) (hS : SSt E p S os) {f : Nat} (hf : f < p.funcs.length) {a : Option Addr} {n c : Nat} {xs : List Int} (hx : RdI w a n xs) :
    CallP Pg 80 [.pointer (some ⟨E.sb, 0, none⟩), .int .i64 f, .slice a n c] w fun v w' => v = .int .i64 (S.of f xs) ∧ w' = w := by
  obtain ⟨mb, om, hmb, hom, hlab, hL, -⟩ := SL.map (F := F) hE hS hf
  have hro := SL.ro h
  obtain ⟨bv, ov, hav, hcv⟩ := hE.vals w hro f mb hmb
  have hxl := hx.len
  have hxle := hx.le
  refine F80_ok _ _ _ _ _ ?_
  refine ⟨fun o i w' c => w' = w ∧ ∃ j : Nat, i = j ∧ j ≤ n ∧ c = n - j ∧ o = S.of f (xs.take j), ⟨n, rfl, 0, rfl, by omega, by omega, rfl⟩, ?_⟩
  rintro o i w' c' ⟨rfl, j, rfl, hj, rfl, rfl⟩
  refine sp_dec (fun hlt => ?_) (fun hge => ?_)
  · obtain ⟨x, hxj⟩ : ∃ x, xs[j]? = some x := ⟨_, List.getElem?_eq_getElem (by omega)⟩
    obtain ⟨bb, ob, ha, hc⟩ := RdI.at hx hxj
    refine ⟨by omega, by omega, ptAt_of ha ⟨x, hc, ptAt_of rfl ⟨_, _, _, SL.cV hE h, by omega, by rw [hE.nv]; omega, ptAt_of hav ⟨some mb, by simpa using hcv, S.get f x, labLook hlab (h.at _ hL) x, n - (j + 1), by omega, rfl, j + 1, wrap_succ (by omega), by omega, rfl, ?_⟩⟩⟩⟩
    · rw [List.take_add_one, hxj]
      simp only [Option.toList_some, TS.of, List.foldl_append, List.foldl_cons, List.foldl_nil]
      unfold mxI
      generalize List.foldl (fun o v => if S.get f v ≤ o then o else S.get f v) 0 (List.take j xs) = q
      split <;> split <;> omega
  · rw [List.take_of_length_le (by omega)]
    exact ⟨rfl, rfl⟩
theorem val_w (hE : SOk E p cut writes w0) (h : Hp w0 w (F ++ SL E S os)) (hS : SSt E p S os) {f : Nat} (hf : f < p.funcs.length) (v to : Int) :
    CallP Pg 61 [.pointer (some ⟨E.sb, 0, none⟩), .int .i64 f, .int .i64 v, .int .i64 to] w fun r w' => r = .tuple ⟨[]⟩ ∧ ∃ os', Hp w0 w' (F ++ SL E (S.val cut f v to) os') ∧ SSt E p (S.val cut f v to) os' := by
  obtain ⟨mb, om, hmb, hom, hlab, hL, hset⟩ := SL.map (F := F) hE hS hf
  have hro := SL.ro h
  obtain ⟨bv, ov, hav, hcv⟩ := hE.vals w hro f mb hmb
  obtain ⟨bc, oc, pc, g, hac, hcc, hrm, hg⟩ := hE.cut w hro f hf
  refine F61_ok _ _ _ _ ?_
  intro K hK
  have hnv : (f : Int) < (E.nv : Nat) := by rw [hE.nv]; omega
  have hnc : (f : Int) < (E.nc : Nat) := by rw [hE.nc]; omega
  have key : ∀ t, t = (if cutAt cut f v then stays to else to) → K t w := by
    intro t ht
    refine hK t w (ptAt_of rfl ⟨_, _, _, SL.cV hE h, by omega, hnv, ptAt_of hav ⟨some mb, by simpa using hcv, S.get f v, labLook hlab (h.at _ hL) v, ?_⟩⟩)
    refine alp h fun b15 w16 h16 => ?_
    refine stp h16 0 rfl (by simp) rfl fun w17 h17 => ?_
    have h17 : Hp w0 w17 ((b15, Cl 79 [.int .i64 (S.get f v)]) :: (F ++ SL E S os)) := h17
    have hsb : ((b15, Cl 79 [.int .i64 (S.get f v)]) :: (F ++ SL E S os))[F.length + 1]? = some (E.sb, Cl 110 (E.cells S.turned)) := by
      rw [List.getElem?_cons_succ, List.getElem?_append_right (Nat.le_refl _)]; simp [SL]
    refine (raise_w h17 0 (F.length + 1) (x := S.get f v) (to := t) rfl rfl hsb (by simp [SEnv.cells, pv_len hE]) (by omega)).mono ?_
    rintro r w19 ⟨rfl, h19⟩
    refine ⟨rfl, ?_⟩
    -- what stands now
    have h19' : Hp w0 w19 ((b15, Cl 79 [.int .i64 (if S.get f v < t then t else S.get f v)]) :: (F ++ SL E { S with turned := if S.get f v < t then true else S.turned } os)) := by
      by_cases hlt : S.get f v < t
      · simp only [if_pos hlt] at h19 ⊢
        have := solTurn (F := (b15, Cl 79 [.int .i64 t]) :: F) (os := os) S hE
        rw [List.cons_append] at this
        rw [List.set_cons_zero] at h19
        simp only [List.length_cons, List.set_cons_zero] at this
        rw [show ([Value.int .i64 (S.get f v)].set 0 (.int .i64 t)) = [.int .i64 t] from rfl, this] at h19
        exact h19
      · simp only [if_neg hlt] at h19 ⊢
        exact h19
    clear h19
    have hd := h19'.drew
    generalize hx : (if S.get f v < t then t else S.get f v) = x at *
    generalize htn : (if S.get f v < t then true else S.turned) = tn at *
    have hS' : SSt E p { S with turned := tn } os := ⟨hS.vl, hS.ol, hS.lab, hS.al, hS.arr, hS.rl⟩
    have hd' : Hp w0 w19.drew (((b15, Cl 79 [.int .i64 x]) :: F) ++ SL E { S with turned := tn } os) := hd
    obtain ⟨mb', om', hmb', hom', hlab', hL', hset'⟩ := SL.map (F := (b15, Cl 79 [.int .i64 x]) :: F) hE hS' hf
    rw [hmb] at hmb'; cases hmb'
    obtain ⟨bv', ov', hav', hcv'⟩ := hE.vals w19.drew (SL.ro hd') f mb hmb
    rw [hav] at hav'; cases hav'
    obtain ⟨fm, hfm, hfg⟩ := hlab'
    obtain ⟨w27, o2, hu, ho2, h27⟩ := upd_map mpLab hd' _ hL' hfm v (.int .i64 x)
    rw [hset'] at h27
    refine ptAt_of rfl ⟨_, _, _, SL.cV hE hd', by omega, hnv, ptAt_of hav ⟨some mb, by simpa using hcv', x, hd'.cl 0 rfl rfl, w27, hu, rfl, os.set f o2, ?_, ?_⟩⟩
    · have h28 := h27.drop 1
      have e : F ++ SL E { S with turned := tn } (os.set f o2) = F ++ SL E (S.val cut f v to) (os.set f o2) := by
        have e1 : (S.val cut f v to).turned = tn ∧ (S.val cut f v to).rets = S.rets ∧ (S.val cut f v to).arrs = S.arrs := by
          rw [← htn]
          unfold TS.val
          rw [← ht]
          by_cases hlt : S.get f v < t
          · refine ⟨?_, ?_, ?_⟩ <;> simp [hlt, TS.put]
          · refine ⟨?_, ?_, ?_⟩ <;> simp [hlt]
        unfold SL
        rw [e1.1, e1.2.1, e1.2.2]
      rw [← e]
      exact h28
    · have hother : ∀ f', f' ≠ f → (S.val cut f v to).get f' = S.get f' := by
        intro f' hne
        unfold TS.val
        rw [← ht]
        by_cases hlt : S.get f v < t
        · simp only [if_pos hlt]
          funext y
          simp only [TS.get, TS.put, List.getD_eq_getElem?_getD]
          rw [List.getElem?_set_ne (Ne.symm hne)]
        · simp only [if_neg hlt]
      have hsame : ∀ y, (S.val cut f v to).get f y = if y = v then x else S.get f y := by
        intro y
        unfold TS.val
        rw [← ht, ← hx]
        by_cases hlt : S.get f v < t
        · simp only [if_pos hlt]
          simp only [TS.get, TS.put, List.getD_eq_getElem?_getD]
          rw [List.getElem?_set_self (by rw [hS.vl]; exact hf)]
          rfl
        · simp only [if_neg hlt]
          split
          · rename_i e; rw [e]
          · rfl
      have hlens : (S.val cut f v to).vals.length = S.vals.length ∧ (S.val cut f v to).arrs = S.arrs ∧ (S.val cut f v to).rets = S.rets := by
        unfold TS.val
        rw [← ht]
        by_cases hlt : S.get f v < t
        · refine ⟨?_, ?_, ?_⟩ <;> simp [hlt, TS.put]
        · refine ⟨?_, ?_, ?_⟩ <;> simp [hlt]
      refine ⟨by rw [hlens.1]; exact hS.vl, by simpa using hS.ol, fun f' o' ho' => ?_, by rw [hlens.2.1]; exact hS.al, by rw [hlens.2.1]; exact hS.arr, by rw [hlens.2.2]; exact hS.rl⟩
      by_cases hff : f' = f
      · subst hff
        rw [List.getElem?_set_self (by rw [hS.ol]; exact hf)] at ho'
        cases ho'
        refine ⟨_, ho2, fun k => ?_⟩
        rw [hsame k]
        by_cases hk : k = v
        · simp [hk]
        · simp only [if_neg hk]
          exact hfg k
      · rw [List.getElem?_set_ne (Ne.symm hff)] at ho'
        have := hS.lab f' o' ho'
        rw [← hother f' hff] at this
        exact this
  refine ptAt_of rfl ⟨_, _, _, SL.cC hE h, by omega, hnc, ptAt_of hac ⟨pc, by simpa using hcc, cutAt cut f v, ?_, sp_of (fun hct => ?_) (fun hct => ?_)⟩⟩
  · rw [look_map mpBool zB hrm, hg]
  · refine (stays_w to w).mono ?_
    rintro r w' ⟨rfl, rfl⟩
    exact ⟨_, rfl, key _ (by rw [hct]; rfl)⟩
  · exact key _ (by rw [hct]; rfl)
end
end Go.Pl.Try

/- What '(*palings/taint.solver).ins' does, read off its translation by gen.py. -/
namespace Go.Pl.Try
set_option linter.unusedVariables false
set_option maxRecDepth 100000
def F60 (x1 : Option Addr) (x2 : Int) (x3 : Int) (x4 : Int) (ax5 : Option Addr) (nx5 cx5 : Nat) (x6 : Int) (x7 : Int) (x8 : Int) (x9 : Int) (w : World) (R : Value → World → Prop) : Prop :=
  AlP 37 [.int .i64 x3, .int .i64 x4, .slice ax5 nx5 cx5, .int .i64 x6, .int .i64 x7, .int .i64 x8, .int .i64 x9] w fun b10 w11 =>
  ∃ (ax12 : Option Addr) (nx12 cx12 : Nat), cel w11 b10 2 = some (.slice ax12 nx12 cx12) ∧
  CallP Pg 80 [.pointer x1, .int .i64 x2, .slice ax12 nx12 cx12] w11 fun v13 w14 => ∃ (x15 : Int), v13 = .int .i64 x15 ∧
  ∃ (x16 : Int), cel w14 b10 0 = some (.int .i64 x16) ∧
  ∀ K17 : World → Prop, (∀ w18, (
  R (.tuple ⟨[]⟩) w18) → K17 w18) →
  sp (decide ((x16 : Int) = 1))
  (∃ (x19 : Int), cel w14 b10 1 = some (.int .i64 x19) ∧
  CallP Pg 61 [.pointer x1, .int .i64 x2, .int .i64 x19, .int .i64 0] w14 fun v20 w21 => v20 = .tuple ⟨[]⟩ ∧
  K17 w21)
  (sp (decide ((x16 : Int) = 2))
  (∃ (x22 : Int), cel w14 b10 1 = some (.int .i64 x22) ∧
  CallP Pg 61 [.pointer x1, .int .i64 x2, .int .i64 x22, .int .i64 x15] w14 fun v23 w24 => v23 = .tuple ⟨[]⟩ ∧
  K17 w24)
  (∀ K25 : Bool → World → Prop, (∀ (x26 : Bool), ∀ w27, (
  sp x26
  (∃ (x28 : Int), cel w27.drew b10 1 = some (.int .i64 x28) ∧
  ptAt x1 fun b29 o30 =>
  ∃ (ax31 : Option Addr) (nx31 cx31 : Nat), cel w27.drew b29 (o30 + 3 + 1) = some (.slice ax31 nx31 cx31) ∧
  ∃ (x32 : Int), cel w27.drew b10 5 = some (.int .i64 x32) ∧
  0 ≤ (x32 : Int) ∧ (x32 : Int) < (nx31 : Nat) ∧
  ptAt ax31 fun b33 o34 =>
  ∃ (x35 : Int), cel w27.drew b33 (o34 + x32.toNat * 1) = some (.int .i64 x35) ∧
  ptAt x1 fun b36 o37 =>
  ∃ (ax38 : Option Addr) (nx38 cx38 : Nat), cel w27.drew b36 (o37 + 7) = some (.slice ax38 nx38 cx38) ∧
  ∃ (x39 : Int) (x40 : Int) (ax41 : Option Addr) (nx41 cx41 : Nat) (x42 : Int) (x43 : Int) (x44 : Int) (x45 : Int), Row w27.drew b10 0 [.int .i64 x39, .int .i64 x40, .slice ax41 nx41 cx41, .int .i64 x42, .int .i64 x43, .int .i64 x44, .int .i64 x45] ∧
  CallP Pg 17 [.slice ax38 nx38 cx38, .agg ⟨[.int .i64 x39, .int .i64 x40, .slice ax41 nx41 cx41, .int .i64 x42, .int .i64 x43, .int .i64 x44, .int .i64 x45]⟩] w27.drew fun v46 w47 => ∃ (x48 : Int), v46 = .int .i64 x48 ∧
  Ext w27.drew w47 ∧
  CallP Pg 61 [.pointer x1, .int .i64 x2, .int .i64 x28, .int .i64 (mxI (mxI x35 x15) x48)] w47 fun v49 w50 => v49 = .tuple ⟨[]⟩ ∧
  K17 w50)
  (sp (decide ((x16 : Int) = 4))
  (ptAt x1 fun b51 o52 =>
  ∃ (ax53 : Option Addr) (nx53 cx53 : Nat), cel w27.drew b51 (o52 + 3 + 1) = some (.slice ax53 nx53 cx53) ∧
  ∃ (x54 : Int), cel w27.drew b10 5 = some (.int .i64 x54) ∧
  0 ≤ (x54 : Int) ∧ (x54 : Int) < (nx53 : Nat) ∧
  ptAt ax53 fun b55 o56 =>
  CallP Pg 63 [.int .i64 x15] w27.drew fun v57 w58 => ∃ (x59 : Int), v57 = .int .i64 x59 ∧
  Ext w27.drew w58 ∧
  CallP Pg 62 [.pointer x1, .pointer (some ⟨b55, o56 + x54.toNat * 1, none⟩), .int .i64 x59] w58 fun v60 w61 => v60 = .tuple ⟨[]⟩ ∧
  K17 w61)
  (sp (decide ((x16 : Int) = 6))
  (ptAt x1 fun b62 o63 =>
  ∃ (ax64 : Option Addr) (nx64 cx64 : Nat), cel w27.drew b62 (o63 + 3 + 1) = some (.slice ax64 nx64 cx64) ∧
  ∃ (x65 : Int), cel w27.drew b10 5 = some (.int .i64 x65) ∧
  0 ≤ (x65 : Int) ∧ (x65 : Int) < (nx64 : Nat) ∧
  ptAt ax64 fun b66 o67 =>
  ptAt x1 fun b68 o69 =>
  ∃ (ax70 : Option Addr) (nx70 cx70 : Nat), cel w27.drew b68 (o69 + 3) = some (.slice ax70 nx70 cx70) ∧
  0 ≤ (x2 : Int) ∧ (x2 : Int) < (nx70 : Nat) ∧
  ptAt ax70 fun b71 o72 =>
  ∃ (x73 : Option Nat), cel w27.drew b71 (o72 + x2.toNat * 1) = some (.map x73) ∧
  ∃ (ax74 : Option Addr) (nx74 cx74 : Nat), cel w27.drew b10 2 = some (.slice ax74 nx74 cx74) ∧
  0 ≤ (1 : Int) ∧ (1 : Int) < (nx74 : Nat) ∧
  ptAt ax74 fun b75 o76 =>
  ∃ (x77 : Int), cel w27.drew b75 (o76 + 1) = some (.int .i64 x77) ∧
  ∃ (x78 : Int), (∀ w', Ext w27.drew w' → Sem.run Pg (Instr.lookup 80 (.map x73) (.int .i64 x77) false) w' = .ok (.int .i64 x78) w') ∧
  CallP Pg 63 [.int .i64 x78] w27.drew fun v79 w80 => ∃ (x81 : Int), v79 = .int .i64 x81 ∧
  Ext w27.drew w80 ∧
  CallP Pg 62 [.pointer x1, .pointer (some ⟨b66, o67 + x65.toNat * 1, none⟩), .int .i64 x81] w80 fun v82 w83 => v82 = .tuple ⟨[]⟩ ∧
  K17 w83)
  (sp (decide ((x16 : Int) = 7))
  (ptAt x1 fun b84 o85 =>
  ∃ (ax86 : Option Addr) (nx86 cx86 : Nat), cel w27.drew b84 (o85 + 1) = some (.slice ax86 nx86 cx86) ∧
  ∃ (x87 : Int), cel w27.drew b10 6 = some (.int .i64 x87) ∧
  0 ≤ (x87 : Int) ∧ (x87 : Int) < (nx86 : Nat) ∧
  ptAt ax86 fun b88 o89 =>
  ∃ (x90 : ByteArray) (ax91 : Option Addr) (nx91 cx91 : Nat), Row w27.drew b88 (o89 + x87.toNat * 2) [.string x90, .slice ax91 nx91 cx91] ∧
  CallP Pg 25 [.agg ⟨[.string x90, .slice ax91 nx91 cx91]⟩] w27.drew fun v92 w93 => ∃ (ax94 : Option Addr) (nx94 cx94 : Nat), v92 = .slice ax94 nx94 cx94 ∧
  ∃ J95 : Int → World → Nat → Prop, (∃ m98, J95 0 w93 m98) ∧
  ∀ (x96 : Int), ∀ w97 m98, J95 x96 w97 m98 →
  sp (decide ((x96 : Int) < (nx94 : Nat)))
  (0 ≤ (x96 : Int) ∧ (x96 : Int) < (nx94 : Nat) ∧
  ptAt ax94 fun b100 o101 =>
  ∃ (x102 : Int), cel w97 b100 (o101 + x96.toNat * 1) = some (.int .i64 x102) ∧
  ∃ (x103 : Int), cel w97.drew b10 6 = some (.int .i64 x103) ∧
  ptAt x1 fun b104 o105 =>
  ∃ (ax106 : Option Addr) (nx106 cx106 : Nat), cel w97.drew b104 (o105 + 3) = some (.slice ax106 nx106 cx106) ∧
  0 ≤ (x2 : Int) ∧ (x2 : Int) < (nx106 : Nat) ∧
  ptAt ax106 fun b107 o108 =>
  ∃ (x109 : Option Nat), cel w97.drew b107 (o108 + x2.toNat * 1) = some (.map x109) ∧
  ∃ (ax110 : Option Addr) (nx110 cx110 : Nat), cel w97.drew b10 2 = some (.slice ax110 nx110 cx110) ∧
  0 ≤ (x96 : Int) ∧ (x96 : Int) < (nx110 : Nat) ∧
  ptAt ax110 fun b111 o112 =>
  ∃ (x113 : Int), cel w97.drew b111 (o112 + x96.toNat * 1) = some (.int .i64 x113) ∧
  ∃ (x114 : Int), (∀ w', Ext w97.drew w' → Sem.run Pg (Instr.lookup 80 (.map x109) (.int .i64 x113) false) w' = .ok (.int .i64 x114) w') ∧
  CallP Pg 63 [.int .i64 x114] w97.drew fun v115 w116 => ∃ (x117 : Int), v115 = .int .i64 x117 ∧
  Ext w97.drew w116 ∧
  CallP Pg 61 [.pointer x1, .int .i64 x103, .int .i64 x102, .int .i64 x117] w116 fun v118 w119 => v118 = .tuple ⟨[]⟩ ∧
  ∃ m99, m99 < m98 ∧ J95 (IntKind.wrap .i64 (x96 + 1)) w119 m99)
  (∃ (x120 : Int), cel w97.drew b10 1 = some (.int .i64 x120) ∧
  ptAt x1 fun b121 o122 =>
  ∃ (ax123 : Option Addr) (nx123 cx123 : Nat), cel w97.drew b121 (o122 + 3 + 2) = some (.slice ax123 nx123 cx123) ∧
  ∃ (x124 : Int), cel w97.drew b10 6 = some (.int .i64 x124) ∧
  0 ≤ (x124 : Int) ∧ (x124 : Int) < (nx123 : Nat) ∧
  ptAt ax123 fun b125 o126 =>
  ∃ (x127 : Int), cel w97.drew b125 (o126 + x124.toNat * 1) = some (.int .i64 x127) ∧
  CallP Pg 61 [.pointer x1, .int .i64 x2, .int .i64 x120, .int .i64 x127] w97.drew fun v128 w129 => v128 = .tuple ⟨[]⟩ ∧
  K17 w129))
  (K17 w27))))) → K25 x26 w27) →
  sp (decide ((x16 : Int) = 3))
  (K25 (decide ((x16 : Int) = 3)) w14)
  (K25 (decide ((x16 : Int) = 5)) w14)))
def T60 : List Sh := [.v (.one .ptr), .v (.one (.int .i64)), .v (.agg [(.int .i64), (.int .i64), .sl, (.int .i64), (.int .i64), (.int .i64), (.int .i64)]), .v (.one .any), .v (.one .any), .v (.one .ptr), .v (.one (.int .i64)), .v (.one (.int .i64)), .v (.one (.int .i64)), .v (.one .ptr), .v (.one (.int .i64)), .v (.one .ptr), .v (.one .sl), .v (.one (.int .i64)), .v (.one .ptr), .v (.one (.int .i64)), .v (.one .bool), .v (.one .bool), .v (.one .ptr), .v (.one (.int .i64)), .v (.one .ptr), .v (.one (.int .i64)), .t [], .v (.one .bool), .v (.one .bool), .v (.one .ptr), .v (.one (.int .i64)), .v (.one .ptr), .v (.one (.int .i64)), .v (.one (.int .i64)), .t [], .v (.one .bool), .v (.one .bool), .v (.one .bool), .v (.one .ptr), .v (.one (.int .i64)), .v (.one .ptr), .v (.one (.int .i64)), .v (.one .ptr), .v (.one .ptr), .v (.one .ptr), .v (.one .ptr), .v (.one .sl), .v (.one .ptr), .v (.one (.int .i64)), .v (.one .ptr), .v (.one (.int .i64)), .v (.one (.int .i64)), .v (.one .ptr), .v (.one .ptr), .v (.one .ptr), .v (.one .sl), .v (.agg [(.int .i64), (.int .i64), .sl, (.int .i64), (.int .i64), (.int .i64), (.int .i64)]), .v (.one (.int .i64)), .v (.one (.int .i64)), .t [], .v (.one .bool), .v (.one .bool), .v (.one .ptr), .v (.one .ptr), .v (.one .ptr), .v (.one .ptr), .v (.one .ptr), .v (.one .sl), .v (.one .ptr), .v (.one (.int .i64)), .v (.one .ptr), .v (.one (.int .i64)), .v (.one (.int .i64)), .t [], .v (.one .bool), .v (.one .bool), .v (.one .ptr), .v (.one .ptr), .v (.one .ptr), .v (.one .ptr), .v (.one .ptr), .v (.one .sl), .v (.one .ptr), .v (.one (.int .i64)), .v (.one .ptr), .v (.one .ptr), .v (.one .ptr), .v (.one .ptr), .v (.one .ptr), .v (.one .sl), .v (.one (.int .i64)), .v (.one .ptr), .v (.one .map), .v (.one .ptr), .v (.one .sl), .v (.one .ptr), .v (.one (.int .i64)), .v (.one (.int .i64)), .v (.one (.int .i64)), .t [], .v (.one .bool), .v (.one .bool), .v (.one .ptr), .v (.one .ptr), .v (.one .ptr), .v (.one .ptr), .v (.one .sl), .v (.one .ptr), .v (.one (.int .i64)), .v (.one .ptr), .v (.agg [.str, .sl]), .v (.one .sl), .v (.one (.int .i64)), .v (.one (.int .i64)), .v (.one .bool), .v (.one (.int .i64)), .v (.one .ptr), .v (.one (.int .i64)), .v (.one .ptr), .v (.one .ptr), .v (.one (.int .i64)), .v (.one (.int .i64)), .v (.one .ptr), .v (.one .ptr), .v (.one .ptr), .v (.one .ptr), .v (.one .sl), .v (.one (.int .i64)), .v (.one .ptr), .v (.one .map), .v (.one .ptr), .v (.one .sl), .v (.one (.int .i64)), .v (.one .ptr), .v (.one (.int .i64)), .v (.one (.int .i64)), .v (.one (.int .i64)), .t [], .v (.one (.int .i64)), .v (.one .ptr), .v (.one (.int .i64)), .v (.one .ptr), .v (.one (.int .i64)), .v (.one .ptr), .v (.one .ptr), .v (.one .ptr), .v (.one .ptr), .v (.one .sl), .v (.one .ptr), .v (.one (.int .i64)), .v (.one .ptr), .v (.one (.int .i64)), .t []]
def A60 : Ann := (.seq none .z (.seq none .z (.seq none .z (.block (some []) (.seq none .z (.cond .z (.seq none .z (.cond .z (.seq (some [31]) (.seq none .z (.cond .z .z)) (.cond (.dr [0, 0, 0, 1, 0, 0, 0, 0, 1, 0, 1, 0, 1, 0, 0, 0, 0, 1, 1, 2, 0, 3] [0, 1, 2, 3, 4, 5, 6, 7, 8, 9, 10, 11, 12, 13, 14, 15, 16, 17, 18, 19, 20, 21]) (.seq none .z (.cond (.dr [0, 0, 0, 0, 0, 1, 0, 1, 0, 0, 2, 3] [0, 1, 2, 3, 4, 5, 6, 7, 8, 9, 10, 11]) (.seq none .z (.cond (.dr [0, 0, 0, 0, 0, 1, 0, 1, 0, 0, 0, 0, 0, 1, 0, 0, 1, 0, 1, 0, 1, 1, 2, 3] [0, 1, 2, 3, 4, 5, 6, 7, 8, 9, 10, 11, 12, 13, 14, 15, 16, 17, 18, 19, 20, 21, 22, 23]) (.seq none .z (.cond (.seq none (.seq none (.dr [0, 0, 0, 0, 1, 0, 1, 0, 1, 3, 0, 0] [0, 1, 2, 3, 4, 5, 6, 7, 8, 11, 9, 10]) (.block none (.loop [109] (.seq none .z (.seq none (.cond .z .z) (.seq none (.block none (.seq none .z (.dr [0, 0, 1, 0, 0, 0, 0, 0, 1, 0, 0, 1, 0, 1, 0, 0, 1, 1, 2, 3] [0, 1, 2, 3, 4, 5, 6, 7, 8, 9, 10, 11, 12, 13, 14, 15, 16, 17, 18, 19]))) .z)))))) (.dr [0, 0, 0, 1, 0, 0, 0, 0, 1, 0, 1, 0, 1, 3] [0, 1, 2, 3, 4, 5, 6, 7, 8, 9, 10, 11, 12, 13])) .z))))))))))))))))
theorem F60_eq (x1 : Option Addr) (x2 : Int) (x3 : Int) (x4 : Int) (ax5 : Option Addr) (nx5 cx5 : Nat) (x6 : Int) (x7 : Int) (x8 : Int) (x9 : Int) (w : World) (R : Value → World → Prop) : F60 x1 x2 x3 x4 ax5 nx5 cx5 x6 x7 x8 x9 w R = denF Go.Proofs.Try.prog T60 Go.Proofs.Try.f60 A60 [.pointer x1, .int .i64 x2, .agg ⟨[.int .i64 x3, .int .i64 x4, .slice ax5 nx5 cx5, .int .i64 x6, .int .i64 x7, .int .i64 x8, .int .i64 x9]⟩] w R := by kernel_rfl
theorem F60_ok (x1 : Option Addr) (x2 : Int) (x3 : Int) (x4 : Int) (ax5 : Option Addr) (nx5 cx5 : Nat) (x6 : Int) (x7 : Int) (x8 : Int) (x9 : Int) {w : World} {R : Value → World → Prop} (h : F60 x1 x2 x3 x4 ax5 nx5 cx5 x6 x7 x8 x9 w R) : CallP Go.Proofs.Try.prog 60 [.pointer x1, .int .i64 x2, .agg ⟨[.int .i64 x3, .int .i64 x4, .slice ax5 nx5 cx5, .int .i64 x6, .int .i64 x7, .int .i64 x8, .int .i64 x9]⟩] w R :=
  calls_den (fun _ => drawn (by kernel_rfl)) Go.Proofs.Try.func60 (Nat.le_of_ble_eq_true (by kernel_rfl)) ((F60_eq x1 x2 x3 x4 ax5 nx5 cx5 x6 x7 x8 x9 w R).mp h)
end Go.Pl.Try

/- Labels: an instruction, walked. -/
namespace Go.Pl.M
theorem rightOk_arr {p : Prg} {i : Ins} (h : rightOk p i = true) (ho : i.op = 3 ∨ i.op = 4 ∨ i.op = 5 ∨ i.op = 6) : 0 ≤ i.arr ∧ i.arr.toNat < p.arrs.length := by
  unfold rightOk at h
  simp only [Bool.and_eq_true] at h
  have h1 := h.2
  by_cases hl : i.arr.toNat < p.arrs.length
  · refine ⟨?_, hl⟩
    rcases ho with ho | ho | ho | ho <;> simp [ho] at h1 <;> exact h1.1
  · exfalso
    rw [List.getElem?_eq_none (by omega)] at h1
    rcases ho with ho | ho | ho | ho <;> simp [ho] at h1
theorem rightOk_args {p : Prg} {i : Ins} (h : rightOk p i = true) (ho : i.op = 6) : i.args.length = 2 := by
  unfold rightOk at h
  simp only [Bool.and_eq_true] at h
  have h1 := h.1.1.1.2
  simp [ho, shapeOf] at h1
  omega
theorem rightOk_call {p : Prg} {i : Ins} (h : rightOk p i = true) (ho : i.op = 7) : 0 ≤ i.fn ∧ ∃ x, p.funcs[i.fn.toNat]? = some x ∧ x.blocks ≠ [] ∧ x.params.length = i.args.length := by
  unfold rightOk at h
  simp only [Bool.and_eq_true] at h
  have h1 := h.2
  simp only [ho] at h1
  cases hx : p.funcs[i.fn.toNat]? with
  | none => simp [hx] at h1
  | some x =>
    cases hb : x.blocks with
    | nil => simp [hx, hb] at h1
    | cons b bs =>
      simp [hx, hb] at h1
      exact ⟨h1.1, x, rfl, by simp [hb], by simp [Fnc.params, hb, h1.2]⟩
end Go.Pl.M
namespace Go.Pl.Try
open M
set_option linter.unusedVariables false
section
variable {E : SEnv} {p : Prg} {cut : List (Int → Bool)} {writes : List Bool} {w0 w : World} {F : List (Nat × Obj)} {S : TS} {os : List Obj}
theorem SL.arrC (hE : SOk E p cut writes w0) (h : Hp w0 w (F ++ SL E S os)) (hS : SSt E p S os) {k : Nat} (hk : k < p.arrs.length) :
    ∃ b o, E.aa = some ⟨b, o, none⟩ ∧ cel w b (o + k * 1) = some (.int .i64 (S.arrs.getD k 0)) := by
  obtain ⟨x, hx⟩ : ∃ x, S.arrs[k]? = some x := ⟨_, List.getElem?_eq_getElem (by rw [hS.al]; exact hk)⟩
  have h' : Hp w0 w ((F ++ [(E.sb, Cl 110 (E.cells S.turned)), (E.br, Cl 79 (S.rets.map (Value.int .i64)))]) ++ (E.ra.L 79 (S.arrs.map (Value.int .i64)) ++ (E.ids.zip os ++ E.ro))) := by
    rw [List.append_assoc]; exact h
  obtain ⟨b, o, ha, hc⟩ := hS.arr.cel_at _ h' (j := k) (v := .int .i64 x) (by rw [List.getElem?_map, hx]; rfl)
  refine ⟨b, o, ha, ?_⟩
  rw [Nat.mul_one, hc, List.getD_eq_getElem?_getD, hx]; rfl
theorem arr_n (hS : SSt E p S os) : E.na = p.arrs.length := by have := hS.arr.n_eq; rw [List.length_map, hS.al] at this; exact this
theorem arr_w (hE : SOk E p cut writes w0) (h : Hp w0 w (F ++ SL E S os)) (hS : SSt E p S os) {k : Nat} (hk : k < p.arrs.length) {b o : Nat} (ha : E.aa = some ⟨b, o, none⟩) (to : Int) :
    CallP Pg 62 [.pointer (some ⟨E.sb, 0, none⟩), .pointer (some ⟨b, o + k * 1, none⟩), .int .i64 to] w fun r w' => r = .tuple ⟨[]⟩ ∧ Hp w0 w' (F ++ SL E (S.arr k to) os) ∧ SSt E p (S.arr k to) os := by
  obtain ⟨x, hx⟩ : ∃ x, S.arrs[k]? = some x := ⟨_, List.getElem?_eq_getElem (by rw [hS.al]; exact hk)⟩
  have hxd : S.arrs.getD k 0 = x := by rw [List.getD_eq_getElem?_getD, hx]; rfl
  have harr := hS.arr
  cases hra : E.ra with
  | emp =>
    rw [hra] at harr
    have := arr_n hS
    have h2 : E.na = 0 := harr.2.1
    omega
  | «at» rb pre sp =>
    rw [hra] at harr
    have e1 : E.aa = some ⟨rb, pre.length, none⟩ := harr.2.1
    rw [ha] at e1
    cases e1
    have hkl : k < S.arrs.length := by rw [hS.al]; exact hk
    have hi : (F ++ SL E S os)[F.length + 2]? = some (b, Cl 79 (pre ++ S.arrs.map (Value.int .i64) ++ sp)) := by
      rw [List.getElem?_append_right (by omega), show F.length + 2 - F.length = 2 by omega, SL, hra]; rfl
    have hs : (F ++ SL E S os)[F.length]? = some (E.sb, Cl 110 (E.cells S.turned)) := by
      rw [List.getElem?_append_right (Nat.le_refl _)]; simp [SL]
    rw [Nat.mul_one]
    refine (raise_w h (F.length + 2) F.length (x := x) (to := to) hi ?_ hs (by simp [SEnv.cells, pv_len hE]) (by omega)).mono ?_
    · rw [List.append_assoc, List.getElem?_append_right (by omega), show pre.length + k - pre.length = k by omega, List.getElem?_append_left (by simpa using hkl), List.getElem?_map, hx]; rfl
    · rintro r w' ⟨rfl, h'⟩
      refine ⟨rfl, ?_⟩
      unfold TS.arr
      rw [hxd]
      by_cases hlt : x < to
      · rw [if_pos hlt] at h' ⊢
        have e2 : (F ++ SL E S os).set (F.length + 2) (b, Cl 79 ((pre ++ S.arrs.map (Value.int .i64) ++ sp).set (pre.length + k) (.int .i64 to))) = F ++ SL E { S with arrs := S.arrs.set k to } os := by
          rw [List.set_append_right _ _ (by omega), show F.length + 2 - F.length = 2 by omega]
          unfold SL
          rw [hra]
          simp only [Rw.L, List.set_cons_succ, List.cons_append, List.set_cons_zero, List.nil_append]
          rw [List.append_assoc, List.set_append_right _ _ (by omega), show pre.length + k - pre.length = k by omega, List.set_append_left _ _ (by simpa using hkl), ← List.map_set, List.append_assoc]
        rw [e2] at h'
        have := solTurn (F := F) (os := os) { S with arrs := S.arrs.set k to } hE
        rw [this] at h'
        refine ⟨h', ⟨hS.vl, hS.ol, hS.lab, by simpa using hS.al, ?_, hS.rl⟩⟩
        have h3 := hS.arr
        rw [hra] at h3 ⊢
        refine ⟨by have := h3.1; simpa using this, h3.2.1, ?_, h3.2.2.2⟩
        have := h3.2.2.1
        simpa using this
      · rw [if_neg hlt] at h' ⊢
        exact ⟨h', hS⟩
theorem ret_w (hE : SOk E p cut writes w0) (h : Hp w0 w (F ++ SL E S os)) (hS : SSt E p S os) {k : Nat} (hk : k < p.funcs.length) (to : Int) :
    CallP Pg 62 [.pointer (some ⟨E.sb, 0, none⟩), .pointer (some ⟨E.br, 0 + k * 1, none⟩), .int .i64 to] w fun r w' => r = .tuple ⟨[]⟩ ∧ Hp w0 w' (F ++ SL E (S.ret k to) os) ∧ SSt E p (S.ret k to) os := by
  obtain ⟨x, hx⟩ : ∃ x, S.rets[k]? = some x := ⟨_, List.getElem?_eq_getElem (by rw [hS.rl]; exact hk)⟩
  have hxd : S.rets.getD k 0 = x := by rw [List.getD_eq_getElem?_getD, hx]; rfl
  have hi : (F ++ SL E S os)[F.length + 1]? = some (E.br, Cl 79 (S.rets.map (Value.int .i64))) := by
    rw [List.getElem?_append_right (by omega), show F.length + 1 - F.length = 1 by omega, SL]; rfl
  have hs : (F ++ SL E S os)[F.length]? = some (E.sb, Cl 110 (E.cells S.turned)) := by
    rw [List.getElem?_append_right (Nat.le_refl _)]; simp [SL]
  rw [Nat.mul_one, Nat.zero_add]
  refine (raise_w h (F.length + 1) F.length (x := x) (to := to) hi (by rw [List.getElem?_map, hx]; rfl) hs (by simp [SEnv.cells, pv_len hE]) (by omega)).mono ?_
  rintro r w' ⟨rfl, h'⟩
  refine ⟨rfl, ?_⟩
  unfold TS.ret
  rw [hxd]
  by_cases hlt : x < to
  · rw [if_pos hlt] at h' ⊢
    have e2 : (F ++ SL E S os).set (F.length + 1) (E.br, Cl 79 ((S.rets.map (Value.int .i64)).set k (.int .i64 to))) = F ++ SL E { S with rets := S.rets.set k to } os := by
      rw [List.set_append_right _ _ (by omega), show F.length + 1 - F.length = 1 by omega]
      unfold SL
      rw [List.set_cons_succ, List.set_cons_zero, ← List.map_set]
    rw [e2] at h'
    have := solTurn (F := F) (os := os) { S with rets := S.rets.set k to } hE
    rw [this] at h'
    exact ⟨h', ⟨hS.vl, hS.ol, hS.lab, hS.al, hS.arr, by simpa using hS.rl⟩⟩
  · rw [if_neg hlt] at h' ⊢
    exact ⟨h', hS⟩
theorem SL.vcel (hE : SOk E p cut writes w0) (h : Hp w0 w (F ++ SL E S os)) (hS : SSt E p S os) {f : Nat} (hf : f < p.funcs.length) : ∃ b o mb, E.av = some ⟨b, o, none⟩ ∧ cel w b (o + (f : Int).toNat * 1) = some (.map (some mb)) ∧
    ∀ w', Ext w w' → ∀ k, (Instr.lookup 80 (.map (some mb)) (.int .i64 k) false).run Pg w' = .ok (.int .i64 (S.get f k)) w' := by
  obtain ⟨mb, om, hmb, hom, hlab, hL, -⟩ := SL.map (F := F) hE hS hf
  obtain ⟨bv, ov, hav, hcv⟩ := hE.vals w (SL.ro h) f mb hmb
  exact ⟨bv, ov, mb, hav, by simpa using hcv, fun w' hx k => labLook hlab ((h.step hx).at _ hL) k⟩
theorem rets_n (hS : SSt E p S os) (h : Hp w0 w (F ++ SL E S os)) {k : Nat} (hk : k < p.funcs.length) : cel w E.br (0 + k * 1) = some (.int .i64 (S.rets.getD k 0)) := by
  obtain ⟨x, hx⟩ : ∃ x, S.rets[k]? = some x := ⟨_, List.getElem?_eq_getElem (by rw [hS.rl]; exact hk)⟩
  have hi : (F ++ SL E S os)[F.length + 1]? = some (E.br, Cl 79 (S.rets.map (Value.int .i64))) := by
    rw [List.getElem?_append_right (by omega), show F.length + 1 - F.length = 1 by omega, SL]; rfl
  rw [Nat.mul_one, Nat.zero_add]
  rw [h.cl _ hi (o := k) (v := .int .i64 x) (by rw [List.getElem?_map, hx]; rfl), List.getD_eq_getElem?_getD, hx]; rfl
theorem params_w2 (nm : ByteArray) {a : Option Addr} {n c : Nat} {f : Fnc} {w0 w : World} (h : RdBlocks w0 a n f.blocks) (hx : Ext w0 w) :
    CallP Pg 25 [.agg ⟨[.string nm, .slice a n c]⟩] w fun v w' => ∃ a' n' c', v = .slice a' n' c' ∧ RdI w0 a' n' f.params ∧ Ext w w' := by
  refine F25_ok _ _ _ _ ?_
  refine alp (Hp.refl w) fun b w1 h1 => ⟨_, _, _, h1.cl 0 rfl rfl, sp_dec (fun h0 => ?_) (fun h0 => ?_)⟩
  · have : f.blocks = [] := List.eq_nil_of_length_eq_zero (by rw [h.len]; omega)
    exact ⟨_, _, _, rfl, by simp only [Fnc.params, this]; exact RdS.nil _ _ _ _, h1.ext⟩
  · obtain ⟨x, xs, hxs⟩ : ∃ x xs, f.blocks = x :: xs := by
      cases hb : f.blocks with
      | nil => rw [hb] at h; have := h.len; simp at this; omega
      | cons x xs => exact ⟨x, xs, rfl⟩
    obtain ⟨bb, ob, vb, ha, hrow, hvl, ap, np, cp, ai, ni, ci, ae, ne, ce, rfl, hp, hi, he⟩ := h.at_ 0 x (by simp [hxs])
    refine ⟨_, _, _, h1.cl 0 rfl rfl, by omega, by omega, ptAt_of ha ⟨ap, np, cp, ?_, _, _, _, rfl, ?_, h1.ext⟩⟩
    · have := hrow 0 _ rfl
      simp only [Nat.zero_mul, Nat.add_zero] at this
      exact (hx.trans h1.ext).cel this
    · simp only [Fnc.params, hxs]
      exact hp
theorem tins_w (hE : SOk E p cut writes w0) (h : Hp w0 w (F ++ SL E S os)) (hS : SSt E p S os) {f : Nat} (hf : f < p.funcs.length) {i : Ins} {us : List Value} (hi : RIns w0 us i) (hok : rightOk p i = true) :
    CallP Pg 60 [.pointer (some ⟨E.sb, 0, none⟩), .int .i64 f, .agg ⟨us⟩] w fun r w' => r = .tuple ⟨[]⟩ ∧ ∃ os', Hp w0 w' (F ++ SL E (S.ins p cut writes f i) os') ∧ SSt E p (S.ins p cut writes f i) os' := by
  obtain ⟨ai, ni, ci, rfl, hargs⟩ := hi
  have hprog := hE.prog
  obtain ⟨aa, na, ca, af, nf, cf, hpv, harr, hfun⟩ := hprog
  have hfl := hfun.len
  have hal := hargs.len
  refine F60_ok _ _ _ _ _ _ _ _ _ _ _ ?_
  unfold F60
  refine alp h fun b10 w11 h11 => ⟨_, _, _, h11.cl 0 rfl rfl, ?_⟩
  generalize hbox : (b10, Cl 37 [.int .i64 i.op, .int .i64 i.dst, .slice ai ni ci, .int .i64 i.num, .int .i64 i.bin, .int .i64 i.arr, .int .i64 i.fn]) = box at *
  have h11' : Hp w0 w11 ((box :: F) ++ SL E S os) := h11
  refine (of_w hE h11' hS hf (RdI.ext hargs.rd h11.ext)).mono ?_
  rintro v w14 ⟨rfl, rfl⟩
  refine ⟨_, rfl, ?_⟩
  have hcl : ∀ {w' S' os'}, Hp w0 w' ((box :: F) ++ SL E S' os') → ∀ {o : Nat} {v : Value}, [Value.int .i64 i.op, .int .i64 i.dst, .slice ai ni ci, .int .i64 i.num, .int .i64 i.bin, .int .i64 i.arr, .int .i64 i.fn][o]? = some v → cel w' b10 o = some v := by
    intro w' S' os' h' o v hv
    subst hbox
    exact h'.cl 0 rfl hv
  refine ⟨i.op, hcl h11' rfl, ?_⟩
  intro K hK
  have fin : ∀ w' os', Hp w0 w' ((box :: F) ++ SL E (S.ins p cut writes f i) os') → SSt E p (S.ins p cut writes f i) os' → K w' := fun w' os' h' hS' => hK _ ⟨rfl, os', h'.drop 1, hS'⟩
  have hvalK : ∀ {w'}, Hp w0 w' ((box :: F) ++ SL E S os) → ∀ to, S.ins p cut writes f i = S.val cut f i.dst to → CallP Pg 61 [.pointer (some ⟨E.sb, 0, none⟩), .int .i64 f, .int .i64 i.dst, .int .i64 to] w' fun v w' => v = .tuple ⟨[]⟩ ∧ K w' := by
    intro w' h' to heq
    refine (val_w hE h' hS hf i.dst to).mono ?_
    rintro v w2 ⟨rfl, os', h2, hS2⟩
    rw [← heq] at h2 hS2
    exact ⟨rfl, fin _ os' h2 hS2⟩
  refine sp_dec (fun h1 => ⟨_, hcl h11' rfl, hvalK h11' _ (by simp [TS.ins, h1])⟩) (fun h1 => sp_dec (fun h2 => ⟨_, hcl h11' rfl, hvalK h11' _ (by simp [TS.ins, h2])⟩) (fun h2 => ?_))
  intro K25 hK25
  have hd := h11'.drew
  have key : ∀ x, x = decide (i.op = 3 ∨ i.op = 5) → K25 x w14 := by
    intro x hx
    refine hK25 x _ ?_
    subst hx
    refine sp_dec (fun h35 => ?_) (fun h35 => ?_)
    · obtain ⟨ha0, hal'⟩ := rightOk_arr hok (by omega)
      obtain ⟨ba, oa, haa, hca⟩ := SL.arrC hE hd hS hal'
      refine ⟨_, hcl hd rfl, ptAt_of rfl ⟨_, _, _, SL.cA hE hd, _, hcl hd rfl, ha0, by rw [arr_n hS]; omega, ptAt_of haa ⟨_, hca, ptAt_of rfl ⟨_, _, _, SL.cW hE hd, i.op, i.dst, ai, ni, ci, i.num, i.bin, i.arr, i.fn, ?_, ?_⟩⟩⟩⟩
      · intro o v hv
        rw [Nat.zero_add]; exact hcl hd hv
      · refine (may_w i (hE.writes _ (SL.ro hd))).mono ?_
        rintro v w47 ⟨rfl, hx47⟩
        have h47 := hd.step hx47
        refine ⟨_, rfl, hx47, hvalK h47 _ ?_⟩
        simp only [TS.ins, if_neg h1, if_neg h2, if_pos h35]
        congr 1
        unfold mxI mx
        split <;> split <;> (try split) <;> (try split) <;> omega
    · refine sp_dec (fun h4 => ?_) (fun h4 => sp_dec (fun h6 => ?_) (fun h6 => sp_dec (fun h7 => ?_) (fun h7 => ?_)))
      · obtain ⟨ha0, hal'⟩ := rightOk_arr hok (by omega)
        obtain ⟨ba, oa, haa, hca⟩ := SL.arrC hE hd hS hal'
        refine ptAt_of rfl ⟨_, _, _, SL.cA hE hd, _, hcl hd rfl, ha0, by rw [arr_n hS]; omega, ptAt_of haa ?_⟩
        refine (stays_w _ w14.drew).mono ?_
        rintro v w58 ⟨rfl, rfl⟩
        refine ⟨_, rfl, Ext.refl _, (arr_w hE hd hS hal' haa (stays (S.of f i.args))).mono ?_⟩
        rintro v w61 ⟨rfl, h61, hS61⟩
        have e : S.ins p cut writes f i = S.arr i.arr.toNat (stays (S.of f i.args)) := by simp [TS.ins, h4]
        exact ⟨rfl, fin _ os (by rw [e]; exact h61) (by rw [e]; exact hS61)⟩
      · obtain ⟨ha0, hal'⟩ := rightOk_arr hok (by omega)
        have hal2 := rightOk_args hok h6
        obtain ⟨ba, oa, haa, hca⟩ := SL.arrC hE hd hS hal'
        obtain ⟨bv, ov, mb, hav, hcv, hlk⟩ := SL.vcel hE hd hS hf
        obtain ⟨x1, hx1⟩ : ∃ x, i.args[1]? = some x := ⟨_, List.getElem?_eq_getElem (by omega)⟩
        obtain ⟨bb, ob, hab, hcb⟩ := RdI.at hargs.rd hx1
        refine ptAt_of rfl ⟨_, _, _, SL.cA hE hd, _, hcl hd rfl, ha0, by rw [arr_n hS]; omega, ptAt_of haa (ptAt_of rfl ⟨_, _, _, SL.cV hE hd, by omega, by rw [hE.nv]; omega, ptAt_of hav ⟨_, hcv, _, _, _, hcl hd rfl, by omega, by omega, ptAt_of hab ⟨x1, hd.ext.cel hcb, _, fun w' hx => hlk w' hx x1, ?_⟩⟩⟩)⟩
        refine (stays_w _ w14.drew).mono ?_
        rintro v w58 ⟨rfl, rfl⟩
        refine ⟨_, rfl, Ext.refl _, (arr_w hE hd hS hal' haa (stays (S.get f x1))).mono ?_⟩
        rintro v w61 ⟨rfl, h61, hS61⟩
        have e : S.ins p cut writes f i = S.arr i.arr.toNat (stays (S.get f x1)) := by simp [TS.ins, h6, List.getD_eq_getElem?_getD, hx1]
        exact ⟨rfl, fin _ os (by rw [e]; exact h61) (by rw [e]; exact hS61)⟩
      · obtain ⟨hf0, x, hx, hxb, hpl⟩ := rightOk_call hok h7
        have hgl : i.fn.toNat < p.funcs.length := (List.getElem?_eq_some_iff.1 hx).1
        obtain ⟨bb, ob, vs, ha, hrow, hvl, ab, nb, cb, rfl, hbs⟩ := hfun.at_ _ _ hx
        have hprow : Row w14.drew E.sb 0 E.pv := SL.prog hE hd
        rw [hpv] at hprow
        refine ptAt_of rfl ⟨af, nf, cf, hprow 1 _ rfl, _, hcl hd rfl, hf0, by omega, ptAt_of ha ⟨_, _, _, _, hd.ext.row hrow, ?_⟩⟩
        refine (params_w2 x.name hbs hd.ext).mono ?_
        rintro v w93 ⟨a', n', c', rfl, hpar, hx93⟩
        have h93 := hd.step hx93
        have hparl := hpar.len
        have hparle := hpar.le
        refine ⟨_, _, _, rfl, ?_⟩
        have hzl : (x.params.zip i.args).length = n' := by rw [List.length_zip, hpl, ← hparl, hpl]; omega
        refine ⟨fun q w' c => ∃ (j : Nat) (S' : TS) (os' : List Obj), q = j ∧ j ≤ n' ∧ c = n' - j ∧ Hp w0 w' ((box :: F) ++ SL E S' os') ∧ SSt E p S' os' ∧ TS.pass cut f i.fn.toNat ((x.params.zip i.args).drop j) S' = TS.pass cut f i.fn.toNat (x.params.zip i.args) S,
          ⟨n', 0, S, os, rfl, by omega, by omega, h93, hS, rfl⟩, ?_⟩
        rintro q w97 c'' ⟨j, S', os', rfl, hj, rfl, h97, hS', hpass⟩
        have hd7 := h97.drew
        refine sp_dec (fun hlt => ?_) (fun hge => ?_)
        · obtain ⟨y, hy⟩ : ∃ y, x.params[j]? = some y := ⟨_, List.getElem?_eq_getElem (by omega)⟩
          obtain ⟨z, hz⟩ : ∃ z, i.args[j]? = some z := ⟨_, List.getElem?_eq_getElem (by omega)⟩
          obtain ⟨by_, oy, hay, hcy⟩ := RdI.at hpar hy
          obtain ⟨bz, oz, haz, hcz⟩ := RdI.at hargs.rd hz
          obtain ⟨bv, ov, mb, hav, hcv, hlk⟩ := SL.vcel hE hd7 hS' hf
          have hzip := zip_get x.params i.args j y z hy hz
          have hdrop : (x.params.zip i.args).drop j = (y, z) :: (x.params.zip i.args).drop (j + 1) := by
            rw [List.drop_eq_getElem_cons (by omega)]
            congr 1
            exact (List.getElem?_eq_some_iff.1 hzip).2
          rw [hdrop, TS.pass] at hpass
          refine ⟨by omega, by omega, ptAt_of hay ⟨y, h97.ext.cel hcy, _, hcl hd7 rfl, ptAt_of rfl ⟨_, _, _, SL.cV hE hd7, by omega, by rw [hE.nv]; omega, ptAt_of hav ⟨_, hcv, _, _, _, hcl hd7 rfl, by omega, by omega, ptAt_of haz ⟨z, hd7.ext.cel hcz, _, fun w' hx => hlk w' hx z, ?_⟩⟩⟩⟩⟩
          refine (stays_w _ w97.drew).mono ?_
          rintro v w116 ⟨rfl, rfl⟩
          have hfn : i.fn = (i.fn.toNat : Nat) := by omega
          refine ⟨_, rfl, Ext.refl _, ?_⟩
          rw [hfn]
          refine (val_w hE hd7 hS' hgl y (stays (S'.get f z))).mono ?_
          rintro v w119 ⟨rfl, os2, h119, hS2⟩
          exact ⟨rfl, n' - (j + 1), by omega, j + 1, _, os2, wrap_succ (by omega), by omega, rfl, h119, hS2, hpass⟩
        · rw [List.drop_of_length_le (by omega), TS.pass] at hpass
          have e : S.ins p cut writes f i = S'.val cut f i.dst (S'.rets.getD i.fn.toNat 0) := by
            rw [hpass]
            simp [TS.ins, h7, hx]
          refine ⟨_, hcl hd7 rfl, ptAt_of rfl ⟨_, _, _, SL.cR hE hd7, _, hcl hd7 rfl, by omega, by rw [hE.nr]; omega, ptAt_of rfl ⟨_, rets_n hS' hd7 hgl, ?_⟩⟩⟩
          refine (val_w hE hd7 hS' hf i.dst _).mono ?_
          rintro v w2 ⟨rfl, os2, h2', hS2⟩
          rw [← e] at h2' hS2
          exact ⟨rfl, fin _ os2 h2' hS2⟩
      · have e : S.ins p cut writes f i = S := by
          simp only [TS.ins, if_neg h1, if_neg h2, if_neg h35, if_neg h4, if_neg h6, if_neg h7]
        exact fin _ os (by rw [e]; exact h11') (by rw [e]; exact hS)
  exact sp_dec (fun h5 => key _ (by simp [h5])) (fun h5 => key _ (by simp [h5]))
end
end Go.Pl.Try

/- What '(*palings/taint.solver).block' does, read off its translation by gen.py. -/
namespace Go.Pl.Try
set_option linter.unusedVariables false
set_option maxRecDepth 100000
def F33 (x1 : Option Addr) (x2 : Int) (ax3 : Option Addr) (nx3 cx3 : Nat) (ax4 : Option Addr) (nx4 cx4 : Nat) (x5 : Int) (x6 : Int) (ax7 : Option Addr) (nx7 cx7 : Nat) (x8 : Int) (w : World) (R : Value → World → Prop) : Prop :=
  AlP 47 [.slice ax3 nx3 cx3, .slice ax4 nx4 cx4, .int .i64 x5, .int .i64 x6, .slice ax7 nx7 cx7, .int .i64 x8] w fun b9 w10 =>
  ∃ (ax11 : Option Addr) (nx11 cx11 : Nat), cel w10 b9 1 = some (.slice ax11 nx11 cx11) ∧
  ∃ J12 : Int → World → Nat → Prop, (∃ m15, J12 0 w10 m15) ∧
  ∀ (x13 : Int), ∀ w14 m15, J12 x13 w14 m15 →
  sp (decide ((x13 : Int) < (nx11 : Nat)))
  (0 ≤ (x13 : Int) ∧ (x13 : Int) < (nx11 : Nat) ∧
  ptAt ax11 fun b17 o18 =>
  ∃ (x19 : Int) (x20 : Int) (ax21 : Option Addr) (nx21 cx21 : Nat) (x22 : Int) (x23 : Int) (x24 : Int) (x25 : Int), Row w14 b17 (o18 + x13.toNat * 7) [.int .i64 x19, .int .i64 x20, .slice ax21 nx21 cx21, .int .i64 x22, .int .i64 x23, .int .i64 x24, .int .i64 x25] ∧
  AlP 37 [.int .i64 0, .int .i64 0, .slice none 0 0, .int .i64 0, .int .i64 0, .int .i64 0, .int .i64 0] w14 fun b26 w27 =>
  StP b26 0 [.int .i64 x19, .int .i64 x20, .slice ax21 nx21 cx21, .int .i64 x22, .int .i64 x23, .int .i64 x24, .int .i64 x25] w27 fun w28 =>
  ∃ (x29 : Int) (x30 : Int) (ax31 : Option Addr) (nx31 cx31 : Nat) (x32 : Int) (x33 : Int) (x34 : Int) (x35 : Int), Row w28 b26 0 [.int .i64 x29, .int .i64 x30, .slice ax31 nx31 cx31, .int .i64 x32, .int .i64 x33, .int .i64 x34, .int .i64 x35] ∧
  CallP Pg 60 [.pointer x1, .int .i64 x2, .agg ⟨[.int .i64 x29, .int .i64 x30, .slice ax31 nx31 cx31, .int .i64 x32, .int .i64 x33, .int .i64 x34, .int .i64 x35]⟩] w28 fun v36 w37 => v36 = .tuple ⟨[]⟩ ∧
  ∃ m16, m16 < m15 ∧ J12 (IntKind.wrap .i64 (x13 + 1)) w37 m16)
  (∃ (ax38 : Option Addr) (nx38 cx38 : Nat), cel w14 b9 4 = some (.slice ax38 nx38 cx38) ∧
  ∃ J39 : Int → World → Nat → Prop, (∃ m42, J39 0 w14 m42) ∧
  ∀ (x40 : Int), ∀ w41 m42, J39 x40 w41 m42 →
  sp (decide ((x40 : Int) < (nx38 : Nat)))
  (0 ≤ (x40 : Int) ∧ (x40 : Int) < (nx38 : Nat) ∧
  ptAt ax38 fun b44 o45 =>
  ∃ (x46 : Int) (ax47 : Option Addr) (nx47 cx47 : Nat), Row w41 b44 (o45 + x40.toNat * 2) [.int .i64 x46, .slice ax47 nx47 cx47] ∧
  AlP 41 [.int .i64 0, .slice none 0 0] w41 fun b48 w49 =>
  StP b48 0 [.int .i64 x46, .slice ax47 nx47 cx47] w49 fun w50 =>
  ptAt x1 fun b51 o52 =>
  ∃ (ax53 : Option Addr) (nx53 cx53 : Nat), cel w50.drew b51 (o52 + 1) = some (.slice ax53 nx53 cx53) ∧
  0 ≤ (x2 : Int) ∧ (x2 : Int) < (nx53 : Nat) ∧
  ptAt ax53 fun b54 o55 =>
  ∃ (ax56 : Option Addr) (nx56 cx56 : Nat), cel w50.drew b54 (o55 + x2.toNat * 2 + 1) = some (.slice ax56 nx56 cx56) ∧
  ∃ (x57 : Int), cel w50.drew b48 0 = some (.int .i64 x57) ∧
  0 ≤ (x57 : Int) ∧ (x57 : Int) < (nx56 : Nat) ∧
  ptAt ax56 fun b58 o59 =>
  ∃ (ax60 : Option Addr) (nx60 cx60 : Nat), cel w50.drew b58 (o59 + x57.toNat * 6) = some (.slice ax60 nx60 cx60) ∧
  ∃ J61 : Int → World → Nat → Prop, (∃ m64, J61 0 w50.drew m64) ∧
  ∀ (x62 : Int), ∀ w63 m64, J61 x62 w63 m64 →
  sp (decide ((x62 : Int) < (nx60 : Nat)))
  (0 ≤ (x62 : Int) ∧ (x62 : Int) < (nx60 : Nat) ∧
  ptAt ax60 fun b66 o67 =>
  ∃ (x68 : Int), cel w63 b66 (o67 + x62.toNat * 1) = some (.int .i64 x68) ∧
  ptAt x1 fun b69 o70 =>
  ∃ (ax71 : Option Addr) (nx71 cx71 : Nat), cel w63.drew b69 (o70 + 3) = some (.slice ax71 nx71 cx71) ∧
  0 ≤ (x2 : Int) ∧ (x2 : Int) < (nx71 : Nat) ∧
  ptAt ax71 fun b72 o73 =>
  ∃ (x74 : Option Nat), cel w63.drew b72 (o73 + x2.toNat * 1) = some (.map x74) ∧
  ∃ (ax75 : Option Addr) (nx75 cx75 : Nat), cel w63.drew b48 1 = some (.slice ax75 nx75 cx75) ∧
  0 ≤ (x62 : Int) ∧ (x62 : Int) < (nx75 : Nat) ∧
  ptAt ax75 fun b76 o77 =>
  ∃ (x78 : Int), cel w63.drew b76 (o77 + x62.toNat * 1) = some (.int .i64 x78) ∧
  ∃ (x79 : Int), (∀ w', Ext w63.drew w' → Sem.run Pg (Instr.lookup 80 (.map x74) (.int .i64 x78) false) w' = .ok (.int .i64 x79) w') ∧
  CallP Pg 61 [.pointer x1, .int .i64 x2, .int .i64 x68, .int .i64 x79] w63.drew fun v80 w81 => v80 = .tuple ⟨[]⟩ ∧
  ∃ m65, m65 < m64 ∧ J61 (IntKind.wrap .i64 (x62 + 1)) w81 m65)
  (∃ m43, m43 < m42 ∧ J39 (IntKind.wrap .i64 (x40 + 1)) w63 m43))
  (∃ (x82 : Int), cel w41 b9 2 = some (.int .i64 x82) ∧
  sp (decide ((x82 : Int) = 3))
  (ptAt x1 fun b83 o84 =>
  ∃ (ax85 : Option Addr) (nx85 cx85 : Nat), cel w41.drew b83 (o84 + 3 + 2) = some (.slice ax85 nx85 cx85) ∧
  0 ≤ (x2 : Int) ∧ (x2 : Int) < (nx85 : Nat) ∧
  ptAt ax85 fun b86 o87 =>
  ptAt x1 fun b88 o89 =>
  ∃ (ax90 : Option Addr) (nx90 cx90 : Nat), cel w41.drew b88 (o89 + 3) = some (.slice ax90 nx90 cx90) ∧
  0 ≤ (x2 : Int) ∧ (x2 : Int) < (nx90 : Nat) ∧
  ptAt ax90 fun b91 o92 =>
  ∃ (x93 : Option Nat), cel w41.drew b91 (o92 + x2.toNat * 1) = some (.map x93) ∧
  ∃ (x94 : Int), cel w41.drew b9 3 = some (.int .i64 x94) ∧
  ∃ (x95 : Int), (∀ w', Ext w41.drew w' → Sem.run Pg (Instr.lookup 80 (.map x93) (.int .i64 x94) false) w' = .ok (.int .i64 x95) w') ∧
  CallP Pg 63 [.int .i64 x95] w41.drew fun v96 w97 => ∃ (x98 : Int), v96 = .int .i64 x98 ∧
  Ext w41.drew w97 ∧
  CallP Pg 62 [.pointer x1, .pointer (some ⟨b86, o87 + x2.toNat * 1, none⟩), .int .i64 x98] w97 fun v99 w100 => v99 = .tuple ⟨[]⟩ ∧
  R (.tuple ⟨[]⟩) w100)
  (R (.tuple ⟨[]⟩) w41)))
def T33 : List Sh := [.v (.one .ptr), .v (.one (.int .i64)), .v (.agg [.sl, .sl, (.int .i64), (.int .i64), .sl, (.int .i64)]), .v (.one .any), .v (.one .any), .v (.one .ptr), .v (.one .any), .v (.one .ptr), .v (.one .any), .v (.one .ptr), .v (.one (.int .i64)), .v (.one (.int .i64)), .v (.one .ptr), .v (.one .sl), .v (.one (.int .i64)), .v (.one (.int .i64)), .v (.one .bool), .v (.one .ptr), .v (.agg [(.int .i64), (.int .i64), .sl, (.int .i64), (.int .i64), (.int .i64), (.int .i64)]), .v (.one .ptr), .v (.one (.int .i64)), .v (.agg [(.int .i64), (.int .i64), .sl, (.int .i64), (.int .i64), (.int .i64), (.int .i64)]), .t [], .v (.one (.int .i64)), .v (.one .ptr), .v (.one .ptr), .v (.one .sl), .v (.one (.int .i64)), .v (.one (.int .i64)), .v (.one .bool), .v (.one .ptr), .v (.agg [(.int .i64), .sl]), .v (.one .ptr), .v (.one .ptr), .v (.one .ptr), .v (.one .ptr), .v (.one .sl), .v (.one (.int .i64)), .v (.one .ptr), .v (.one .ptr), .v (.one .sl), .v (.one .ptr), .v (.one (.int .i64)), .v (.one .ptr), .v (.one .ptr), .v (.one .sl), .v (.one (.int .i64)), .v (.one (.int .i64)), .v (.one .bool), .v (.one (.int .i64)), .v (.one .ptr), .v (.one (.int .i64)), .v (.one .ptr), .v (.one (.int .i64)), .v (.one (.int .i64)), .v (.one .ptr), .v (.one .ptr), .v (.one .ptr), .v (.one .ptr), .v (.one .sl), .v (.one (.int .i64)), .v (.one .ptr), .v (.one .map), .v (.one .ptr), .v (.one .sl), .v (.one (.int .i64)), .v (.one .ptr), .v (.one (.int .i64)), .v (.one (.int .i64)), .t [], .v (.one (.int .i64)), .v (.one (.int .i64)), .v (.one .ptr), .v (.one .ptr), .v (.one (.int .i64)), .v (.one .bool), .v (.one .ptr), .v (.one .ptr), .v (.one .ptr), .v (.one .ptr), .v (.one .ptr), .v (.one .sl), .v (.one (.int .i64)), .v (.one .ptr), .v (.one .ptr), .v (.one .ptr), .v (.one .ptr), .v (.one .ptr), .v (.one .sl), .v (.one (.int .i64)), .v (.one .ptr), .v (.one .map), .v (.one .ptr), .v (.one .ptr), .v (.one (.int .i64)), .v (.one (.int .i64)), .v (.one (.int .i64)), .t []]
def A33 : Ann := (.seq none .z (.seq none (.seq none .z (.block none (.loop [15] (.seq none .z (.seq none (.cond .z .z) (.seq none (.block none (.seq none .z .z)) .z)))))) (.seq none (.seq none .z (.block none (.loop [28] (.seq none .z (.seq none (.cond .z .z) (.seq none (.block none (.seq none .z (.seq none (.dr [0, 0, 0, 0, 1, 0, 0, 0, 1, 0, 1, 0, 0, 1, 0, 0] [0, 1, 2, 3, 4, 5, 6, 7, 8, 9, 10, 11, 12, 13, 14, 15]) (.block none (.loop [47] (.seq none .z (.seq none (.cond .z .z) (.seq none (.block none (.seq none .z (.dr [0, 0, 0, 0, 0, 0, 0, 1, 0, 0, 1, 0, 1, 0, 0, 1, 1, 3] [0, 1, 2, 3, 4, 5, 6, 7, 8, 9, 10, 11, 12, 13, 14, 15, 16, 17]))) .z)))))))) .z)))))) (.seq none .z (.cond (.dr [0, 0, 0, 0, 0, 1, 0, 0, 0, 0, 0, 0, 1, 0, 0, 1, 0, 0, 1, 1, 2, 3] [0, 1, 2, 3, 4, 5, 6, 7, 8, 9, 10, 11, 12, 13, 14, 15, 16, 17, 18, 19, 20, 21]) .z)))))
theorem F33_eq (x1 : Option Addr) (x2 : Int) (ax3 : Option Addr) (nx3 cx3 : Nat) (ax4 : Option Addr) (nx4 cx4 : Nat) (x5 : Int) (x6 : Int) (ax7 : Option Addr) (nx7 cx7 : Nat) (x8 : Int) (w : World) (R : Value → World → Prop) : F33 x1 x2 ax3 nx3 cx3 ax4 nx4 cx4 x5 x6 ax7 nx7 cx7 x8 w R = denF Go.Proofs.Try.prog T33 Go.Proofs.Try.f33 A33 [.pointer x1, .int .i64 x2, .agg ⟨[.slice ax3 nx3 cx3, .slice ax4 nx4 cx4, .int .i64 x5, .int .i64 x6, .slice ax7 nx7 cx7, .int .i64 x8]⟩] w R := by kernel_rfl
theorem F33_ok (x1 : Option Addr) (x2 : Int) (ax3 : Option Addr) (nx3 cx3 : Nat) (ax4 : Option Addr) (nx4 cx4 : Nat) (x5 : Int) (x6 : Int) (ax7 : Option Addr) (nx7 cx7 : Nat) (x8 : Int) {w : World} {R : Value → World → Prop} (h : F33 x1 x2 ax3 nx3 cx3 ax4 nx4 cx4 x5 x6 ax7 nx7 cx7 x8 w R) : CallP Go.Proofs.Try.prog 33 [.pointer x1, .int .i64 x2, .agg ⟨[.slice ax3 nx3 cx3, .slice ax4 nx4 cx4, .int .i64 x5, .int .i64 x6, .slice ax7 nx7 cx7, .int .i64 x8]⟩] w R :=
  calls_den (fun _ => drawn (by kernel_rfl)) Go.Proofs.Try.func33 (Nat.le_of_ble_eq_true (by kernel_rfl)) ((F33_eq x1 x2 ax3 nx3 cx3 ax4 nx4 cx4 x5 x6 ax7 nx7 cx7 x8 w R).mp h)
end Go.Pl.Try

/- Labels: a block, walked. -/
namespace Go.Pl.M
theorem wayOk_inv {bs : List Blk} {w : Edg} (h : wayOk bs w = true) : 1 ≤ w.to ∧ ∃ b, bs[w.to.toNat]? = some b ∧ w.args.length = b.params.length := by
  unfold wayOk at h
  simp only [Bool.and_eq_true, decide_eq_true_eq] at h
  have h1 : w.to.toNat < bs.length := by omega
  rw [List.getElem?_eq_getElem h1] at h
  exact ⟨h.1.1, _, List.getElem?_eq_getElem h1, by simpa using h.2⟩
end Go.Pl.M
namespace Go.Pl.Try
open M
set_option linter.unusedVariables false
section
variable {E : SEnv} {p : Prg} {cut : List (Int → Bool)} {writes : List Bool} {w0 w : World} {F : List (Nat × Obj)} {S : TS} {os : List Obj}
theorem block_w (hE : SOk E p cut writes w0) (h : Hp w0 w (F ++ SL E S os)) (hS : SSt E p S os) {f : Nat} {fn : Fnc} (hf : p.funcs[f]? = some fn) {b : Blk} {us : List Value} (hb : RBlock w0 us b)
    (hins : ∀ i ∈ b.ins, rightOk p i = true) (hways : b.fin.ways.all (wayOk fn.blocks) = true) :
    CallP Pg 33 [.pointer (some ⟨E.sb, 0, none⟩), .int .i64 f, .agg ⟨us⟩] w fun r w' => r = .tuple ⟨[]⟩ ∧ ∃ os', Hp w0 w' (F ++ SL E (S.block p cut writes fn.blocks f b) os') ∧ SSt E p (S.block p cut writes fn.blocks f b) os' := by
  obtain ⟨ap, np, cp, ai, ni, ci, ae, ne, ce, rfl, hp, hi, he⟩ := hb
  have hfl : f < p.funcs.length := (List.getElem?_eq_some_iff.1 hf).1
  obtain ⟨aa, na, ca, af, nf, cf, hpv, harr, hfun⟩ := hE.prog
  have hfunl := hfun.len
  obtain ⟨bf, obf, vsf, haf, hrowf, hvlf, ab, nb, cb, rfl, hbs⟩ := hfun.at_ _ _ hf
  have hil := hi.len
  have hile := hi.le
  have hel := he.len
  have hele := he.le
  refine F33_ok _ _ _ _ _ _ _ _ _ _ _ _ _ _ ?_
  unfold F33
  refine alp h fun b9 w10 h10 => ⟨_, _, _, h10.cl 0 rfl rfl, ?_⟩
  generalize hbox : (b9, Cl 47 [.slice ap np cp, .slice ai ni ci, .int .i64 b.fin.kind, .int .i64 b.fin.val, .slice ae ne ce, .int .i64 b.fin.trap]) = box at *
  have h10 : Hp w0 w10 ((box :: F) ++ SL E S os) := h10
  have hcl : ∀ {w' S' os' G}, Hp w0 w' (G ++ ((box :: F) ++ SL E S' os')) → ∀ {o : Nat} {v : Value}, [Value.slice ap np cp, .slice ai ni ci, .int .i64 b.fin.kind, .int .i64 b.fin.val, .slice ae ne ce, .int .i64 b.fin.trap][o]? = some v → cel w' b9 o = some v := by
    intro w' S' os' G h' o v hv
    subst hbox
    exact h'.cl G.length (by rw [List.getElem?_append_right (Nat.le_refl _)]; simp; rfl) hv
  refine ⟨fun q w' c => ∃ (j : Nat) (S' : TS) (os' : List Obj), q = j ∧ j ≤ ni ∧ c = ni - j ∧ Hp w0 w' ((box :: F) ++ SL E S' os') ∧ SSt E p S' os' ∧ (b.ins.drop j).foldl (fun s i => s.ins p cut writes f i) S' = b.ins.foldl (fun s i => s.ins p cut writes f i) S,
    ⟨ni, 0, S, os, rfl, by omega, by omega, h10, hS, rfl⟩, ?_⟩
  rintro q w14 c ⟨j, S1, os1, rfl, hj, rfl, h14, hS1, hfold⟩
  refine sp_dec (fun hlt => ?_) (fun hge => ?_)
  · have hx : b.ins[j]? = some b.ins[j] := List.getElem?_eq_getElem (by omega)
    have hdrop : b.ins.drop j = b.ins[j] :: b.ins.drop (j + 1) := List.drop_eq_getElem_cons (by omega)
    generalize b.ins[j] = x at hx hdrop
    rw [hdrop, List.foldl_cons] at hfold
    have hxm := hins x (List.mem_of_getElem? hx)
    obtain ⟨bb, ob, vs, ha, hrow, hvl, hRx⟩ := hi.at_ _ _ hx
    have hRx' := hRx
    obtain ⟨aa', na', ca', rfl, hargs⟩ := hRx
    refine ⟨by omega, by omega, ptAt_of ha ⟨_, _, _, _, _, _, _, _, _, h14.ext.row hrow, ?_⟩⟩
    refine alp h14 fun b26 w27 h27 => ?_
    refine stp h27 0 rfl (by simp) rfl fun w28 h28 => ?_
    refine ⟨_, _, _, _, _, _, _, _, _, h28.row 0 rfl, ?_⟩
    have h28' : Hp w0 w28 (((b26, Cl 37 [.int .i64 x.op, .int .i64 x.dst, .slice aa' na' ca', .int .i64 x.num, .int .i64 x.bin, .int .i64 x.arr, .int .i64 x.fn]) :: (box :: F)) ++ SL E S1 os1) := h28
    refine (tins_w hE h28' hS1 hfl hRx' hxm).mono ?_
    rintro v w37 ⟨rfl, os2, h37, hS2⟩
    exact ⟨rfl, ni - (j + 1), by omega, j + 1, _, os2, wrap_succ (by omega), by omega, rfl, h37.drop 1, hS2, hfold⟩
  · rw [List.drop_of_length_le (by omega), List.foldl_nil] at hfold
    refine ⟨_, _, _, hcl (G := []) h14 rfl, ?_⟩
    refine ⟨fun q w' c => ∃ (j : Nat) (S' : TS) (os' : List Obj), q = j ∧ j ≤ ne ∧ c = ne - j ∧ Hp w0 w' ((box :: F) ++ SL E S' os') ∧ SSt E p S' os' ∧ TS.ways cut fn.blocks f (b.fin.ways.drop j) S' = TS.ways cut fn.blocks f b.fin.ways S1,
      ⟨ne, 0, S1, os1, rfl, by omega, by omega, h14, hS1, rfl⟩, ?_⟩
    rintro q w41 c ⟨k, S2, os2, rfl, hk, rfl, h41, hS2, hws⟩
    refine sp_dec (fun hlt2 => ?_) (fun hge2 => ?_)
    · have hy : b.fin.ways[k]? = some b.fin.ways[k] := List.getElem?_eq_getElem (by omega)
      have hdrop : b.fin.ways.drop k = b.fin.ways[k] :: b.fin.ways.drop (k + 1) := List.drop_eq_getElem_cons (by omega)
      generalize b.fin.ways[k] = e at hy hdrop
      rw [hdrop, TS.ways] at hws
      obtain ⟨hto1, tb, htb, hal⟩ := wayOk_inv ((List.all_eq_true.1 hways) e (List.mem_of_getElem? hy))
      have htl := (List.getElem?_eq_some_iff.1 htb).1
      have hbsl := hbs.len
      rw [htb] at hws
      simp only at hws
      obtain ⟨bw, ow, vw, hae, hroww, hvlw, wa, wn, wc, rfl, hwargs⟩ := he.at_ _ _ hy
      refine ⟨by omega, by omega, ptAt_of hae ⟨_, _, _, _, h41.ext.row hroww, ?_⟩⟩
      refine alp h41 fun b48 w49 h49 => ?_
      refine stp h49 0 rfl (by simp) rfl fun w50 h50 => ?_
      generalize hbox2 : (b48, Cl 41 (splice [.int .i64 0, .slice none 0 0] 0 [.int .i64 e.to, .slice wa wn wc])) = box2 at *
      have h50 : Hp w0 w50 ((box2 :: (box :: F)) ++ SL E S2 os2) := h50
      have hd := h50.drew
      have hcl2 : ∀ {w' S' os'}, Hp w0 w' ((box2 :: (box :: F)) ++ SL E S' os') → ∀ {o : Nat} {v : Value}, [Value.int .i64 e.to, .slice wa wn wc][o]? = some v → cel w' b48 o = some v := by
        intro w' S' os' h' o v hv
        subst hbox2
        exact h'.cl 0 rfl hv
      have hprow : Row w50.drew E.sb 0 E.pv := SL.prog hE hd
      rw [hpv] at hprow
      obtain ⟨bt, ot, tp, ntp, ctp, ti, nti, cti, te, nte, cte, hat, hrowt, htp, -, -⟩ := blkOf hbs htb
      have htpl := htp.len
      have htple := htp.le
      have hwl := hwargs.len
      refine ptAt_of rfl ⟨af, nf, cf, hprow 1 _ rfl, by omega, by omega, ptAt_of haf ⟨ab, nb, cb, hd.ext.cel (hrowf 1 _ (by rfl)), _, hcl2 hd rfl, by omega, by omega, ptAt_of hat ⟨tp, ntp, ctp, hd.ext.cel ?_, ?_⟩⟩⟩
      · exact hrowt 0 _ rfl
      have hzl : (tb.params.zip e.args).length = ntp := by rw [List.length_zip]; omega
      refine ⟨fun q w' c => ∃ (j : Nat) (S' : TS) (os' : List Obj), q = j ∧ j ≤ ntp ∧ c = ntp - j ∧ Hp w0 w' ((box2 :: (box :: F)) ++ SL E S' os') ∧ SSt E p S' os' ∧ TS.way cut f ((tb.params.zip e.args).drop j) S' = TS.way cut f (tb.params.zip e.args) S2,
        ⟨ntp, 0, S2, os2, rfl, by omega, by omega, hd, hS2, rfl⟩, ?_⟩
      rintro q w63 c ⟨r, S3, os3, rfl, hr, rfl, h63, hS3, hway⟩
      have hd3 := h63.drew
      refine sp_dec (fun hlt3 => ?_) (fun hge3 => ?_)
      · obtain ⟨y, hy2⟩ : ∃ y, tb.params[r]? = some y := ⟨_, List.getElem?_eq_getElem (by omega)⟩
        obtain ⟨z, hz⟩ : ∃ z, e.args[r]? = some z := ⟨_, List.getElem?_eq_getElem (by omega)⟩
        obtain ⟨by_, oy, hay, hcy⟩ := RdI.at htp hy2
        obtain ⟨bz, oz, haz, hcz⟩ := RdI.at hwargs hz
        obtain ⟨bv, ov, mb, hav, hcv, hlk⟩ := SL.vcel hE hd3 hS3 hfl
        have hzip := zip_get tb.params e.args r y z hy2 hz
        have hdrop3 : (tb.params.zip e.args).drop r = (y, z) :: (tb.params.zip e.args).drop (r + 1) := by
          rw [List.drop_eq_getElem_cons (by omega)]
          congr 1
          exact (List.getElem?_eq_some_iff.1 hzip).2
        rw [hdrop3, TS.way] at hway
        refine ⟨by omega, by omega, ptAt_of hay ⟨y, h63.ext.cel hcy, ptAt_of rfl ⟨_, _, _, SL.cV hE hd3, by omega, by rw [hE.nv]; omega, ptAt_of hav ⟨_, hcv, _, _, _, hcl2 hd3 rfl, by omega, by omega, ptAt_of haz ⟨z, hd3.ext.cel hcz, _, fun w' hx => hlk w' hx z, ?_⟩⟩⟩⟩⟩
        refine (val_w hE hd3 hS3 hfl y (S3.get f z)).mono ?_
        rintro v w81 ⟨rfl, os4, h81, hS4⟩
        exact ⟨rfl, ntp - (r + 1), by omega, r + 1, _, os4, wrap_succ (by omega), by omega, rfl, h81, hS4, hway⟩
      · rw [List.drop_of_length_le (by omega), TS.way] at hway
        refine ⟨ne - (k + 1), by omega, k + 1, S3, os3, wrap_succ (by omega), by omega, rfl, h63.drop 1, hS3, ?_⟩
        rw [hway]; exact hws
    · rw [List.drop_of_length_le (by omega), TS.ways] at hws
      have hblk : S.block p cut writes fn.blocks f b = if b.fin.kind = 3 then S2.ret f (stays (S2.get f b.fin.val)) else S2 := by
        unfold TS.block
        rw [← hfold]
        simp only
        rw [← hws]
      refine ⟨_, hcl (G := []) h41 rfl, sp_dec (fun h3 => ?_) (fun h3 => ?_)⟩
      · have hd := h41.drew
        obtain ⟨bv, ov, mb, hav, hcv, hlk⟩ := SL.vcel hE hd hS2 hfl
        refine ptAt_of rfl ⟨_, _, _, SL.cR hE hd, by omega, by rw [hE.nr]; omega, ptAt_of rfl (ptAt_of rfl ⟨_, _, _, SL.cV hE hd, by omega, by rw [hE.nv]; omega, ptAt_of hav ⟨_, hcv, _, hcl (G := []) hd rfl, _, fun w' hx => hlk w' hx _, ?_⟩⟩)⟩
        refine (stays_w _ w41.drew).mono ?_
        rintro v w58 ⟨rfl, rfl⟩
        refine ⟨_, rfl, Ext.refl _, (ret_w hE hd hS2 hfl _).mono ?_⟩
        rintro v w61 ⟨rfl, h61, hS61⟩
        rw [hblk, if_pos h3]
        exact ⟨rfl, rfl, os2, h61.drop 1, hS61⟩
      · rw [hblk, if_neg h3]
        exact ⟨rfl, os2, h41.drop 1, hS2⟩
end
end Go.Pl.Try

/- What '(palings/ssa.Prog).Check' does, read off its translation by gen.py. -/
namespace Go.Pl.Try
set_option linter.unusedVariables false
set_option maxRecDepth 100000
def F11 (ax1 : Option Addr) (nx1 cx1 : Nat) (ax2 : Option Addr) (nx2 cx2 : Nat) (x3 : Int) (w : World) (R : Value → World → Prop) : Prop :=
  AlP 32 [.slice ax1 nx1 cx1, .slice ax2 nx2 cx2, .int .i64 x3] w fun b4 w5 =>
  ∃ (ax6 : Option Addr) (nx6 cx6 : Nat), cel w5 b4 0 = some (.slice ax6 nx6 cx6) ∧
  ∃ J7 : Int → World → Nat → Prop, (∃ m10, J7 0 w5 m10) ∧
  ∀ (x8 : Int), ∀ w9 m10, J7 x8 w9 m10 →
  sp (decide ((x8 : Int) < (nx6 : Nat)))
  (∀ K12 : World → Prop, (∀ w13, (
  ∃ m11, m11 < m10 ∧ J7 (IntKind.wrap .i64 (x8 + 1)) w13 m11) → K12 w13) →
  0 ≤ (x8 : Int) ∧ (x8 : Int) < (nx6 : Nat) ∧
  ptAt ax6 fun b14 o15 =>
  ∃ (x16 : ByteArray) (x17 : Int) (x18 : Int), Row w9 b14 (o15 + x8.toNat * 3) [.string x16, .int .i64 x17, .int .i64 x18] ∧
  AlP 25 [.string ⟨#[]⟩, .int .i64 0, .int .i64 0] w9 fun b19 w20 =>
  StP b19 0 [.string x16, .int .i64 x17, .int .i64 x18] w20 fun w21 =>
  ∀ K22 : World → Prop, (∀ w23, (
  R (.int .i64 40) w23) → K22 w23) →
  ∃ (x24 : Int), cel w21 b19 2 = some (.int .i64 x24) ∧
  sp (decide ((x24 : Int) < 0))
  (K22 w21)
  (∃ (x25 : Int), cel w21 b19 2 = some (.int .i64 x25) ∧
  sp (decide ((4096 : Int) < x25))
  (K22 w21)
  (∃ (x26 : Int), cel w21 b19 1 = some (.int .i64 x26) ∧
  sp (decide ((x26 : Int) < 0))
  (K22 w21)
  (∃ (x27 : Int), cel w21 b19 1 = some (.int .i64 x27) ∧
  sp (decide ((2 : Int) < x27))
  (K22 w21)
  (K12 w21)))))
  (∀ K28 : World → Prop, (∀ w29, (
  ∃ (ax30 : Option Addr) (nx30 cx30 : Nat), cel w29 b4 1 = some (.slice ax30 nx30 cx30) ∧
  ∃ J31 : Int → World → Nat → Prop, (∃ m34, J31 0 w29 m34) ∧
  ∀ (x32 : Int), ∀ w33 m34, J31 x32 w33 m34 →
  sp (decide ((x32 : Int) < (nx30 : Nat)))
  (0 ≤ (x32 : Int) ∧ (x32 : Int) < (nx30 : Nat) ∧
  ptAt ax30 fun b36 o37 =>
  ∃ (x38 : ByteArray) (ax39 : Option Addr) (nx39 cx39 : Nat), Row w33 b36 (o37 + x32.toNat * 2) [.string x38, .slice ax39 nx39 cx39] ∧
  AlP 29 [.string ⟨#[]⟩, .slice none 0 0] w33 fun b40 w41 =>
  StP b40 0 [.string x38, .slice ax39 nx39 cx39] w41 fun w42 =>
  ∀ K43 : World → Prop, (∀ w44, (
  ∃ (ax45 : Option Addr) (nx45 cx45 : Nat), cel w44 b40 1 = some (.slice ax45 nx45 cx45) ∧
  ∃ J46 : Int → World → Nat → Prop, (∃ m49, J46 0 w44 m49) ∧
  ∀ (x47 : Int), ∀ w48 m49, J46 x47 w48 m49 →
  sp (decide ((x47 : Int) < (nx45 : Nat)))
  (∀ K51 : World → Prop, (∀ w52, (
  ∃ m50, m50 < m49 ∧ J46 (IntKind.wrap .i64 (x47 + 1)) w52 m50) → K51 w52) →
  0 ≤ (x47 : Int) ∧ (x47 : Int) < (nx45 : Nat) ∧
  ptAt ax45 fun b53 o54 =>
  ∃ (ax55 : Option Addr) (nx55 cx55 : Nat) (ax56 : Option Addr) (nx56 cx56 : Nat) (x57 : Int) (x58 : Int) (ax59 : Option Addr) (nx59 cx59 : Nat) (x60 : Int), Row w48 b53 (o54 + x47.toNat * 6) [.slice ax55 nx55 cx55, .slice ax56 nx56 cx56, .int .i64 x57, .int .i64 x58, .slice ax59 nx59 cx59, .int .i64 x60] ∧
  AlP 47 [.slice none 0 0, .slice none 0 0, .int .i64 0, .int .i64 0, .slice none 0 0, .int .i64 0] w48 fun b61 w62 =>
  StP b61 0 [.slice ax55 nx55 cx55, .slice ax56 nx56 cx56, .int .i64 x57, .int .i64 x58, .slice ax59 nx59 cx59, .int .i64 x60] w62 fun w63 =>
  ∀ K64 : World → Prop, (∀ w65, (
  R (.int .i64 40) w65) → K64 w65) →
  ∃ (x66 : ByteArray) (ax67 : Option Addr) (nx67 cx67 : Nat), Row w63 b40 0 [.string x66, .slice ax67 nx67 cx67] ∧
  ∃ (x68 : Int) (x69 : Int) (ax70 : Option Addr) (nx70 cx70 : Nat) (x71 : Int), Row w63 b61 2 [.int .i64 x68, .int .i64 x69, .slice ax70 nx70 cx70, .int .i64 x71] ∧
  CallP Pg 27 [.agg ⟨[.string x66, .slice ax67 nx67 cx67]⟩, .agg ⟨[.int .i64 x68, .int .i64 x69, .slice ax70 nx70 cx70, .int .i64 x71]⟩] w63 fun v72 w73 => ∃ (x74 : Bool), v72 = .bool x74 ∧
  sp (!x74)
  (K64 w73)
  (∃ (ax75 : Option Addr) (nx75 cx75 : Nat), cel w73 b61 1 = some (.slice ax75 nx75 cx75) ∧
  CallP Pg 28 [.slice ax75 nx75 cx75, .func (.func 29) ⟨[]⟩ ⟨[.pointer (some ⟨b4, 0, none⟩)]⟩] w73 fun v76 w77 => ∃ (x78 : Bool), v76 = .bool x78 ∧
  sp x78
  (K64 w77)
  (K51 w77)))
  (∃ (x79 : ByteArray) (ax80 : Option Addr) (nx80 cx80 : Nat), Row w48 b40 0 [.string x79, .slice ax80 nx80 cx80] ∧
  CallP Pg 31 [.agg ⟨[.string x79, .slice ax80 nx80 cx80]⟩] w48 fun v81 w82 => ∃ (ax83 : Option Addr) (nx83 cx83 : Nat), v81 = .slice ax83 nx83 cx83 ∧
  ∃ J84 : Int → World → Nat → Prop, (∃ m87, J84 0 w82 m87) ∧
  ∀ (x85 : Int), ∀ w86 m87, J84 x85 w86 m87 →
  sp (decide ((x85 : Int) < (nx83 : Nat)))
  (∀ K89 : World → Prop, (∀ w90, (
  ∃ m88, m88 < m87 ∧ J84 (IntKind.wrap .i64 (x85 + 1)) w90 m88) → K89 w90) →
  0 ≤ (x85 : Int) ∧ (x85 : Int) < (nx83 : Nat) ∧
  ptAt ax83 fun b91 o92 =>
  ∃ (x93 : Option Nat), cel w86 b91 (o92 + x85.toNat * 1) = some (.map x93) ∧
  ∃ (x94 : Bool), Sem.run Pg (do eqGuard .neq 56 (.tmp 108) (.const (.map none)) (.map x93) (.map none); binOp .neq 56 (.map x93) (.map none)) w86 = .ok (.bool x94) w86 ∧
  sp x94
  (∃ (ax95 : Option Addr) (nx95 cx95 : Nat), cel w86 b40 1 = some (.slice ax95 nx95 cx95) ∧
  0 ≤ (x85 : Int) ∧ (x85 : Int) < (nx95 : Nat) ∧
  ptAt ax95 fun b96 o97 =>
  ∃ (ax98 : Option Addr) (nx98 cx98 : Nat) (ax99 : Option Addr) (nx99 cx99 : Nat) (x100 : Int) (x101 : Int) (ax102 : Option Addr) (nx102 cx102 : Nat) (x103 : Int), Row w86 b96 (o97 + x85.toNat * 6) [.slice ax98 nx98 cx98, .slice ax99 nx99 cx99, .int .i64 x100, .int .i64 x101, .slice ax102 nx102 cx102, .int .i64 x103] ∧
  CallP Pg 32 [.map x93, .agg ⟨[.slice ax98 nx98 cx98, .slice ax99 nx99 cx99, .int .i64 x100, .int .i64 x101, .slice ax102 nx102 cx102, .int .i64 x103]⟩] w86 fun v104 w105 => ∃ (x106 : Bool), v104 = .bool x106 ∧
  sp (!x106)
  (R (.int .i64 40) w105)
  (K89 w105))
  (K89 w86))
  (∃ m35, m35 < m34 ∧ J31 (IntKind.wrap .i64 (x32 + 1)) w86 m35))) → K43 w44) →
  ∀ K107 : World → Prop, (∀ w108, (
  R (.int .i64 40) w108) → K107 w108) →
  ∃ (ax109 : Option Addr) (nx109 cx109 : Nat), cel w42 b40 1 = some (.slice ax109 nx109 cx109) ∧
  sp (decide (((nx109 : Nat) : Int) = 0))
  (K107 w42)
  (∃ (x110 : ByteArray) (ax111 : Option Addr) (nx111 cx111 : Nat), Row w42 b40 0 [.string x110, .slice ax111 nx111 cx111] ∧
  CallP Pg 25 [.agg ⟨[.string x110, .slice ax111 nx111 cx111]⟩] w42 fun v112 w113 => ∃ (ax114 : Option Addr) (nx114 cx114 : Nat), v112 = .slice ax114 nx114 cx114 ∧
  sp (decide ((6 : Int) < (nx114 : Nat)))
  (K107 w113)
  (∃ (x115 : ByteArray) (ax116 : Option Addr) (nx116 cx116 : Nat), Row w113 b40 0 [.string x115, .slice ax116 nx116 cx116] ∧
  CallP Pg 26 [.agg ⟨[.string x115, .slice ax116 nx116 cx116]⟩] w113 fun v117 w118 => ∃ (x119 : Bool), v117 = .bool x119 ∧
  sp (!x119)
  (K107 w118)
  (K43 w118))))
  (R (.int .i64 0) w33)) → K28 w29) →
  ∀ K120 : World → Prop, (∀ w121, (
  R (.int .i64 40) w121) → K120 w121) →
  ∃ (x122 : Int), cel w9 b4 2 = some (.int .i64 x122) ∧
  sp (decide ((x122 : Int) < 0))
  (K120 w9)
  (∃ (x123 : Int), cel w9 b4 2 = some (.int .i64 x123) ∧
  ∃ (ax124 : Option Addr) (nx124 cx124 : Nat), cel w9 b4 1 = some (.slice ax124 nx124 cx124) ∧
  sp (decide (((nx124 : Nat) : Int) ≤ x123))
  (K120 w9)
  (∃ (ax125 : Option Addr) (nx125 cx125 : Nat), cel w9 b4 1 = some (.slice ax125 nx125 cx125) ∧
  ∃ (x126 : Int), cel w9 b4 2 = some (.int .i64 x126) ∧
  0 ≤ (x126 : Int) ∧ (x126 : Int) < (nx125 : Nat) ∧
  ptAt ax125 fun b127 o128 =>
  ∃ (x129 : ByteArray) (ax130 : Option Addr) (nx130 cx130 : Nat), Row w9 b127 (o128 + x126.toNat * 2) [.string x129, .slice ax130 nx130 cx130] ∧
  CallP Pg 25 [.agg ⟨[.string x129, .slice ax130 nx130 cx130]⟩] w9 fun v131 w132 => ∃ (ax133 : Option Addr) (nx133 cx133 : Nat), v131 = .slice ax133 nx133 cx133 ∧
  sp (decide ((0 : Int) < (nx133 : Nat)))
  (K120 w132)
  (K28 w132))))
def T11 : List Sh := [.v (.agg [.sl, .sl, (.int .i64)]), .v (.one .ptr), .v (.one (.int .i64)), .v (.one .any), .v (.one .ptr), .v (.one .any), .v (.one .ptr), .v (.one .any), .v (.one .ptr), .v (.one (.int .i64)), .v (.one .map), .v (.one .ptr), .v (.one .sl), .v (.one (.int .i64)), .v (.one (.int .i64)), .v (.one .bool), .v (.one .ptr), .v (.agg [.str, (.int .i64), (.int .i64)]), .v (.one .ptr), .v (.one (.int .i64)), .v (.one .bool), .v (.one .bool), .v (.one .ptr), .v (.one (.int .i64)), .v (.one .bool), .v (.one .bool), .v (.one .bool), .v (.one .ptr), .v (.one (.int .i64)), .v (.one .bool), .v (.one .bool), .v (.one .bool), .v (.one .ptr), .v (.one (.int .i64)), .v (.one .bool), .v (.one .bool), .v (.one (.int .i64)), .v (.one .ptr), .v (.one (.int .i64)), .v (.one .bool), .v (.one .bool), .v (.one .ptr), .v (.one (.int .i64)), .v (.one .ptr), .v (.one .sl), .v (.one (.int .i64)), .v (.one .bool), .v (.one .bool), .v (.one .bool), .v (.one .ptr), .v (.one .sl), .v (.one .ptr), .v (.one (.int .i64)), .v (.one .ptr), .v (.agg [.str, .sl]), .v (.one .sl), .v (.one (.int .i64)), .v (.one .bool), .v (.one .bool), .v (.one .ptr), .v (.one .sl), .v (.one (.int .i64)), .v (.one (.int .i64)), .v (.one .bool), .v (.one .ptr), .v (.agg [.str, .sl]), .v (.one .ptr), .v (.one .sl), .v (.one (.int .i64)), .v (.one .bool), .v (.one .bool), .v (.agg [.str, .sl]), .v (.one .sl), .v (.one (.int .i64)), .v (.one .bool), .v (.one .bool), .v (.one .bool), .v (.agg [.str, .sl]), .v (.one .bool), .v (.one .bool), .v (.one .bool), .v (.one .ptr), .v (.one .sl), .v (.one (.int .i64)), .v (.one (.int .i64)), .v (.one .bool), .v (.one .ptr), .v (.agg [.sl, .sl, (.int .i64), (.int .i64), .sl, (.int .i64)]), .v (.agg [.str, .sl]), .v (.one .ptr), .v (.agg [(.int .i64), (.int .i64), .sl, (.int .i64)]), .v (.one .bool), .v (.one .bool), .v (.one .bool), .v (.one .ptr), .v (.one .sl), .v (.one .any), .v (.one .bool), .v (.one .bool), .v (.one (.int .i64)), .v (.agg [.str, .sl]), .v (.one .sl), .v (.one (.int .i64)), .v (.one (.int .i64)), .v (.one .bool), .v (.one (.int .i64)), .v (.one .ptr), .v (.one .map), .v (.one .map), .v (.one .bool), .v (.one .bool), .v (.one .map), .v (.one .ptr), .v (.one .sl), .v (.one (.int .i64)), .v (.one .ptr), .v (.agg [.sl, .sl, (.int .i64), (.int .i64), .sl, (.int .i64)]), .v (.one .bool), .v (.one .bool), .v (.one .bool), .v (.one (.int .i64)), .v (.one (.int .i64))]
def A11 : Ann := (.seq none .z (.seq none (.seq none .z (.block none (.loop [14] (.seq none .z (.seq none (.cond .z .z) (.seq none (.block (some []) (.seq none .z (.ifs (some []) none (.seq none .z .z) .z))) .z)))))) (.seq (some []) (.ifs (some []) none (.seq none .z .z) .z) (.seq none (.seq none .z (.block none (.loop [62] (.seq none .z (.seq none (.cond .z .z) (.seq none (.block none (.seq none .z (.seq (some []) (.ifs (some []) none (.seq none .z .z) .z) (.seq none (.seq none .z (.block none (.loop [84] (.seq none .z (.seq none (.cond .z .z) (.seq none (.block (some []) (.seq none .z (.ifs (some []) none (.seq none .z .z) .z))) .z)))))) (.seq none .z (.block none (.loop [103] (.seq none .z (.seq none (.cond .z .z) (.seq none (.block (some []) (.seq none .z (.ifs none none (.seq none .z .z) .z))) .z)))))))))) .z)))))) (.seq none .z .z)))))
theorem F11_eq (ax1 : Option Addr) (nx1 cx1 : Nat) (ax2 : Option Addr) (nx2 cx2 : Nat) (x3 : Int) (w : World) (R : Value → World → Prop) : F11 ax1 nx1 cx1 ax2 nx2 cx2 x3 w R = denF Go.Proofs.Try.prog T11 Go.Proofs.Try.f11 A11 [.agg ⟨[.slice ax1 nx1 cx1, .slice ax2 nx2 cx2, .int .i64 x3]⟩] w R := by kernel_rfl
theorem F11_ok (ax1 : Option Addr) (nx1 cx1 : Nat) (ax2 : Option Addr) (nx2 cx2 : Nat) (x3 : Int) {w : World} {R : Value → World → Prop} (h : F11 ax1 nx1 cx1 ax2 nx2 cx2 x3 w R) : CallP Go.Proofs.Try.prog 11 [.agg ⟨[.slice ax1 nx1 cx1, .slice ax2 nx2 cx2, .int .i64 x3]⟩] w R :=
  calls_den (fun _ => drawn (by kernel_rfl)) Go.Proofs.Try.func11 (Nat.le_of_ble_eq_true (by kernel_rfl)) ((F11_eq ax1 nx1 cx1 ax2 nx2 cx2 x3 w R).mp h)
end Go.Pl.Try
