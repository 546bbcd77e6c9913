/- Joined texts of the proof, part 4: Den3, Den4, Den5, Mem. -/
import Derived.Test.YtbacmadoenicnaaS03
import Derived.OrdersHeld
import Derived.Laws.AppendOwn
import Derived.Laws.IdiomCopy
set_option maxRecDepth 2000
set_option linter.unusedVariables false
set_option linter.unusedSimpArgs false
set_option linter.unusedSectionVars false
/- 'den': the whole code of a function as a proposition; regions whose order is drawn. -/
namespace Go.Pl
set_option linter.unusedVariables false

inductive Ex where
  | normal | exit (id : Nat) | ret
def Ex.to : Ex → Exit
  | .normal => .normal
  | .exit i => .exit i
  | .ret => .ret
/-- The orders of a region: one operation, or one of several. -/
inductive Tr where
  | nil
  | op (i : Nat) (t : Tr)
  | alt (i : Nat) (t u : Tr)
def Tr.of : List Nat → Tr
  | [] => .nil
  | i :: is => .op i (Tr.of is)
def Tr.dep : Tr → Nat
  | .nil => 0
  | .op _ t => Tr.dep t + 1
  | .alt _ t u => max (Tr.dep t + 1) (Tr.dep u)
inductive Ann where
  | z
  | seq (j : Option (List Nat)) (a b : Ann)
  | ifs (ja jb : Option (List Nat)) (a b : Ann)
  | cond (a b : Ann)
  | block (j : Option (List Nat)) (a : Ann)
  | loop (l : List Nat) (a : Ann)
  | dr (cls ord : List Nat)
  | drt (x : Bool) (cls : List Nat) (t : Tr)

def shOf (T : List Sh) (d : Option Nat) : Sh := match d with | some d => (match T[d]? with | some s => s | none => .v (.one .any)) | none => .v (.one .any)
def kdOf (T : List Sh) (d : Nat) : Kd := match T[d]? with | some (.v (.one k)) => k | _ => .any
def Cur (T : List Sh) : List Nat → Type → Type
  | [], R => R
  | s :: ss, R => (kdOf T s).Fn (Cur T ss R)
def All (T : List Sh) {R : Type} : (l : List Nat) → Env → Cur T l R → (Env → R → Prop) → Prop
  | [], ρ, K, G => G ρ K
  | s :: ss, ρ, K, G => (kdOf T s).allF K fun v k => All T ss (upd ρ s (some v)) k G
def App (T : List Sh) {R : Type} : (l : List Nat) → Cur T l R → Env → (R → Prop) → Prop
  | [], K, _, G => G K
  | s :: ss, K, ρ, G => match ρ s with
    | some v => (kdOf T s).appF K v fun k => App T ss k ρ G
    | none => False
/-- What stands behind is bound to a name where several ways lead to it. -/
def abs (T : List Sh) (j : Option (List Nat)) (ws : List Nat) (ρ : Env) (rest : Env → World → Prop) (body : (Env → World → Prop) → Prop) : Prop :=
  match j with
  | none => body rest
  | some l => ∀ K : Cur T l (World → Prop), All T l (clr ws ρ) K (fun ρ' k => ∀ w', rest ρ' w' → k w') → body fun ρ' w' => App T l K ρ' fun k => k w'
def putE (n : Nat) (ρ : Env) (d : Option Nat) (v : Value) (K : Env → Prop) : Prop :=
  match d with
  | none => K ρ
  | some d => match Nat.blt d n with | true => K (upd ρ d (some v)) | false => False
def gslot (ops : Array Oper) (j : Nat) : Option Nat := match ops[j]? with | some o => o.dst | none => none
def beqB : Bool → Bool → Bool
  | true, true | false, false => true
  | _, _ => false
/-- An operation under its guard. -/
def grd (ops : Array Oper) (ρ : Env) (o : Oper) (run : Env → Prop) (skip : Env → Prop) : Prop :=
  match o.guard with
  | none => run ρ
  | some (j, want) => match gslot ops j with
    | some d => match ρ d with
      | some (.bool b) => sp b (match want with | true => run (upd ρ d (some (.bool true))) | false => skip (upd ρ d (some (.bool true))))
          (match want with | true => skip (upd ρ d (some (.bool false))) | false => run (upd ρ d (some (.bool false))))
      | some (.tuple _) => skip ρ
      | _ => False
    | none => False
def denOps (P : Program) (T : List Sh) (n : Nat) (ops : Array Oper) : List Oper → Env → World → (Env → World → Prop) → Prop
  | [], ρ, w, K => K ρ w
  | o :: os, ρ, w, K => grd ops ρ o
      (fun ρ => opP P ρ o (shOf T o.dst) w fun v w' => putE n ρ o.dst v fun ρ' => denOps P T n ops os ρ' w' K)
      (fun ρ => putE n ρ o.dst undef fun ρ' => denOps P T n ops os ρ' w K)

/-- Nothing that stood has turned. -/
structure Ext (w w' : World) : Prop where
  size : w.heap.size ≤ w'.heap.size
  blk : ∀ b, b < w.heap.size → w'.heap[b]? = w.heap[b]?
  os : w'.os = w.os
  out : w'.output = w.output
theorem Ext.refl (w : World) : Ext w w := ⟨Nat.le_refl _, fun _ _ => rfl, rfl, rfl⟩
theorem Ext.trans {a b c : World} (h : Ext a b) (k : Ext b c) : Ext a c :=
  ⟨Nat.le_trans h.size k.size, fun i hi => (k.blk i (Nat.lt_of_lt_of_le hi h.size)).trans (h.blk i hi), k.os.trans h.os, k.out.trans h.out⟩
theorem Ext.cel {w w' : World} (h : Ext w w') {b o : Nat} {v : Value} (hc : cel w b o = some v) : cel w' b o = some v := by
  have hb := World.block_lt_of_cell? w ⟨b, o, none⟩ hc
  have e := h.blk b hb
  unfold Pl.cel World.cell? at *
  simp only [e]
  exact hc
theorem Ext.row {w w' : World} (h : Ext w w') {b o : Nat} {vs : List Value} (hc : Row w b o vs) : Row w' b o vs :=
  fun j v hj => h.cel (hc j v hj)
/-- Nothing that stood has turned, but what may. -/
structure ExtX (X : Nat → Prop) (w w' : World) : Prop where
  blk : ∀ b, b < w.heap.size → ¬ X b → w'.heap[b]? = w.heap[b]?
theorem ExtX.cel {X : Nat → Prop} {w w' : World} (h : ExtX X w w') {b o : Nat} {v : Value} (hx : ¬ X b) (hc : cel w b o = some v) : cel w' b o = some v := by
  have hb := World.block_lt_of_cell? w ⟨b, o, none⟩ hc
  have e := h.blk b hb hx
  unfold Pl.cel World.cell? at *
  simp only [e]
  exact hc
theorem Ext.x {w w' : World} (X : Nat → Prop) (h : Ext w w') : ExtX X w w' := ⟨fun b hb _ => h.blk b hb⟩
def ExtO (X : Option (Nat → Prop)) (w w' : World) : Prop := match X with | none => Ext w w' | some X => ExtX X w w'
def LdO (X : Option (Nat → Prop)) (b : Nat) (p : Prop) : Prop := match X with | none => p | some X => ¬ X b ∧ p
theorem ExtO.refl (X : Option (Nat → Prop)) (w : World) : ExtO X w w := by
  cases X with
  | none => exact Ext.refl w
  | some X => exact (Ext.refl w).x X
theorem LdO.inv {X : Option (Nat → Prop)} {b : Nat} {p : Prop} (h : LdO X b p) : p ∧ ∀ w w' o v, ExtO X w w' → cel w b o = some v → cel w' b o = some v := by
  cases X with
  | none => exact ⟨h, fun w w' o v hx hc => Ext.cel hx hc⟩
  | some X => exact ⟨h.2, fun w w' o v hx hc => ExtX.cel hx h.1 hc⟩
def RunS (P : Program) (s : Sem Value) (sh : Sh) (X : Option (Nat → Prop)) (w0 : World) (K : Value → Prop) : Prop := sh.ex fun v => (∀ w, ExtO X w0 w → s.run P w = .ok v w) ∧ K v
/-- Operations that a drawn order may take at any time: they read what stood when the region began. -/
def opD (P : Program) (ρ : Env) (o : Oper) (sh : Sh) (X : Option (Nat → Prop)) (w0 : World) (K : Value → Prop) : Prop :=
  match o.op with
  | .move x | .assign x => ev ρ x K
  | .pick c a b => ev ρ c fun v => match v with
    | .bool b' => match b' with
      | true => ev ρ a K
      | false => ev ρ b K
    | _ => False
  | .load t x => ev ρ x fun v => match v with
    | .pointer p => match sh with
      | .v s => match ldOk P t s with | true => ptAt p fun b o => LdO X b (LdP s b o w0 K) | false => False
      | _ => False
    | _ => False
  | .nilCheck x => ev ρ x fun v => match v with
    | .pointer p => ptAt p fun b o => K (.pointer (some ⟨b, o, none⟩))
    | _ => False
  | .binOp op t x y _ => ev ρ x fun a => ev ρ y fun b => match a, b with
    | .int k a, .int k' b => binP P op t (.int k a) (.int k' b) x y sh w0 K
    | .bool a, .bool b => binP P op t (.bool a) (.bool b) x y sh w0 K
    | a, b => sh.ex fun v => (∀ w', (do eqGuard op t x y a b; binOp op t a b : Sem Value).run P w' = .ok v w') ∧ K v
  | .unOp op _ x => ev ρ x fun v => match op, v with
    | .not, .bool b => K (.bool (!b))
    | .neg, .int k n => K (.int k (k.wrap (0 - n)))
    | _, _ => False
  | .fieldAddr s x f => ev ρ x fun v => match v with
    | .pointer p => match fieldOff P s f with
      | some off => ptAt p fun b o => K (.pointer (some ⟨b, o + off, none⟩))
      | none => False
    | _ => False
  | .indexAddr t x i => ev ρ x fun v => ev ρ i fun i => match i with
    | .int _ n => match v with
      | .slice a len _ => match elemOfSl P t with
        | some (_, size) => 0 ≤ n ∧ n < len ∧ ptAt a fun b o => K (.pointer (some ⟨b, o + n.toNat * size, none⟩))
        | none => False
      | .pointer p => match arrOf P t with
        | some (len, size) => 0 ≤ n ∧ n < len ∧ ptAt p fun b o => K (.pointer (some ⟨b, o + n.toNat * size, none⟩))
        | none => False
      | _ => False
    | _ => False
  | .lookup t x i ok => ev ρ x fun v => ev ρ i fun i => RunS P (Instr.lookup t v i ok) sh X w0 K
  | .extract t i => ev ρ t fun v => match v with
    | .tuple vs => match vs[i]? with | some u => K u | none => False
    | _ => False
  | .build t parts => evp ρ parts.toList fun ps => match zeroOf P t with
    | some z => match P.underlying t with
      | some (.struct fs) => match plc P fs.toList with
        | some pl => match Instr.fill (fun i => pl[i]?) z.cells ps with
          | some cs => K (.agg cs)
          | none => False
        | none => False
      | _ => False
    | none => False
  | .call c => evs ρ c.args.toList fun vs => match c.callee with
    | .builtin .len => match vs with
      | [.slice _ n _] => match (c.argTypes[0]?).bind P.underlying with | some (.slice _) => K (.int .i64 n) | _ => False
      | _ => False
    | .builtin .max => match vs with
      | .int k x :: r => foldI mxI x r fun z => K (.int k z)
      | _ => False
    | .builtin .min => match vs with
      | .int k x :: r => foldI mnI x r fun z => K (.int k z)
      | _ => False
    | _ => False
  | _ => False
/-- What must hold that an operation may be taken now, whatever the order. -/
def waits (ops : Array Oper) : Nat → Nat → Nat → Bool
  | 0, _, _ => false
  | f + 1, j, i => match ops[j]? with
    | some o => o.after.toList.any fun e => Region.binds .any e && (Nat.beq e.on i || waits ops f e.on i)
    | none => false
def clsOf (cls : List Nat) (i : Nat) : Nat := match cls[i]? with | some c => c | none => 0
def isPure : Op → Bool
  | .load .. | .lookup .. => false
  | _ => true
def isLate (cls : List Nat) (i : Nat) : Bool := Nat.ble 3 (clsOf cls i)
def okQ (ops : Array Oper) (cls : List Nat) (listed : Array Bool) (i : Nat) (o : Oper) : Bool :=
  Region.noSelect ops && Region.free .any ops listed i && (Region.ready .any ops listed).contains i && !isLate cls i &&
  (isPure o.op || (List.range ops.size).all fun j => !isLate cls j || waits ops ops.size j i)
def beqL : List Nat → List Nat → Bool
  | [], [] => true
  | a :: as, b :: bs => match Nat.beq a b with | true => beqL as bs | false => false
  | _, _ => false
def okN (ops : Array Oper) (listed : Array Bool) (pre : List Nat) (i : Nat) : Bool := beqL (Region.ready .any ops listed) (pre ++ [i])
def okE (ops : Array Oper) (listed : Array Bool) : Bool := match Region.ready .any ops listed with | [] => true | _ => false
/-- An operation that is taken alone, or in turn with others. -/
def loud (P : Program) (T : List Sh) (n : Nat) (ops : Array Oper) (late : Bool) (X : Option (Nat → Prop)) (w0 : World) (i : Nat) (o : Oper) (ρ : Env) (w : World) (go : Env → World → Prop) : Prop :=
  grd ops ρ o
    (fun ρ => opP P ρ o (shOf T o.dst) w fun v w' => match late with
      | true => putE n ρ o.dst v fun ρ' => go ρ' w'
      | false => ExtO X w0 w' ∧ putE n ρ o.dst v fun ρ' => go ρ' w')
    (fun ρ => putE n ρ o.dst undef fun ρ' => go ρ' w)
def denD (P : Program) (T : List Sh) (n : Nat) (ops : Array Oper) (cls : List Nat) (X : Option (Nat → Prop)) (w0 : World) : Tr → List Nat → Array Bool → Env → World → (Env → World → Prop) → Prop
  | .nil, pre, listed, ρ, w, K => match pre with | [] => (match okE ops listed with | true => K ρ w | false => False) | _ :: _ => False
  | .op i t, pre, listed, ρ, w, K => match ops[i]? with
    | none => False
    | some o => match Nat.ble 2 (clsOf cls i) with
      | false => match pre with
        | [] => (match okQ ops cls listed i o with
          | true => grd ops ρ o
            (fun ρ => opD P ρ o (shOf T o.dst) X w0 fun v => putE n ρ o.dst v fun ρ' => denD P T n ops cls X w0 t [] (listed.setIfInBounds i true) ρ' w K)
            (fun ρ => putE n ρ o.dst undef fun ρ' => denD P T n ops cls X w0 t [] (listed.setIfInBounds i true) ρ' w K)
          | false => False)
        | _ :: _ => False
      | true => match okN ops listed pre i with
        | true => loud P T n ops (isLate cls i) X w0 i o ρ w fun ρ' w' => denD P T n ops cls X w0 t [] (listed.setIfInBounds i true) ρ' w' K
        | false => False
  | .alt i t u, pre, listed, ρ, w, K => match ops[i]? with
    | none => False
    | some o => match Nat.ble 2 (clsOf cls i) with
      | false => False
      | true => loud P T n ops (isLate cls i) X w0 i o ρ w (fun ρ' w' => denD P T n ops cls X w0 t [] (listed.setIfInBounds i true) ρ' w' K) ∧ denD P T n ops cls X w0 u (pre ++ [i]) listed ρ w K
def denR (P : Program) (T : List Sh) (n : Nat) (ops : Array Oper) (cls : List Nat) (X : Option (Nat → Prop)) (t : Tr) (ρ : Env) (w : World) (K : Env → World → Prop) : Prop :=
  match Nat.ble (Tr.dep t) ops.size with
  | true => denD P T n ops cls X w.drew t [] (Array.replicate ops.size false) ρ w.drew K
  | false => False
/-- The temporaries that code writes. -/
def wr : Code → List Nat
  | .region _ ops _ => ops.toList.filterMap (·.dst)
  | .seq x y => wr x ++ wr y
  | .cond _ x y => wr x ++ wr y
  | .block _ x => wr x
  | .loop x => wr x
  | .scope x => wr x
  | _ => []
def Ex.seqQ (K : Env → World → Prop) (Q : Ex → Env → World → Prop) : Ex → Env → World → Prop
  | .normal => K
  | .exit i => Q (.exit i)
  | .ret => Q .ret
def condV (v : Value) (A B : Prop) : Prop := match v with | .bool t => sp t A B | _ => False
def Ex.blkQ (id : Nat) (K : Env → World → Prop) (Q : Ex → Env → World → Prop) : Ex → Env → World → Prop
  | .normal => K
  | .exit i => match Nat.beq i id with | true => K | false => Q (.exit i)
  | .ret => Q .ret
def Ex.loopQ (T : List Sh) (l : List Nat) (J : Cur T l (World → Nat → Prop)) (m : Nat) (Q : Ex → Env → World → Prop) : Ex → Env → World → Prop
  | .normal => fun ρ w => App T l J ρ fun (j : World → Nat → Prop) => ∃ m', m' < m ∧ j w m'
  | .exit i => Q (.exit i)
  | .ret => Q .ret
def den (P : Program) (T : List Sh) (n : Nat) : Code → Ann → Env → World → (Ex → Env → World → Prop) → Prop
  | .skip, _, ρ, w, Q => Q .normal ρ w
  | .label _, _, ρ, w, Q => Q .normal ρ w
  | .exit i, _, ρ, w, Q => Q (.exit i) ρ w
  | .ret, _, ρ, w, Q => Q .ret ρ w
  | .region _ ops false, _, ρ, w, Q => denOps P T n ops ops.toList ρ w (Q .normal)
  | .region _ ops true, .dr cls ord, ρ, w, Q => denR P T n ops cls none (Tr.of ord) ρ w (Q .normal)
  | .region _ ops true, .drt x cls t, ρ, w, Q => match x with
    | true => ∃ X : Nat → Prop, denR P T n ops cls (some X) t ρ w (Q .normal)
    | false => denR P T n ops cls none t ρ w (Q .normal)
  | .seq x y, .seq j a b, ρ, w, Q => abs T j (wr x) ρ (fun ρ' w' => den P T n y b ρ' w' Q) fun K => den P T n x a ρ w (Ex.seqQ K Q)
  | .seq x (.cond c y z), .ifs ja jb a b, ρ, w, Q => abs T ja (wr x) ρ (fun ρ' w' => den P T n y a ρ' w' Q) fun KA => abs T jb (wr x) ρ (fun ρ' w' => den P T n z b ρ' w' Q) fun KB =>
      den P T n x .z ρ w (Ex.seqQ (fun ρ' w' => ev ρ' c fun v => condV v (KA ρ' w') (KB ρ' w')) Q)
  | .cond c x y, .cond a b, ρ, w, Q => ev ρ c fun v => condV v (den P T n x a ρ w Q) (den P T n y b ρ w Q)
  | .block id x, .block j a, ρ, w, Q => abs T j (wr x) ρ (Q .normal) fun K => den P T n x a ρ w (Ex.blkQ id K Q)
  | .loop x, .loop l a, ρ, w, Q => ∃ J : Cur T l (World → Nat → Prop), App T l J ρ (fun (j : World → Nat → Prop) => ∃ m, j w m) ∧
      All T l (clr (wr x) ρ) J fun ρ' (j : World → Nat → Prop) => ∀ w' m, j w' m → den P T n x a ρ' w' (Ex.loopQ T l J m Q)
  | _, _, _, _, _ => False
/-- The results. -/
def resP (P : Program) (T : List Sh) : List ResultVar → Env → World → (List Value → Prop) → Prop
  | [], _, _, K => K []
  | .tmp t :: rs, ρ, w, K => match ρ t with | some v => resP P T rs ρ w fun vs => K (v :: vs) | none => False
  | .cell t ty :: rs, ρ, w, K => match ρ t with
    | some (.pointer (some ⟨b, o, none⟩)) => match T[t]? with
      | some (.t [s]) => match ldOk P ty s with
        | true => LdP s b o w fun v => resP P T rs ρ w fun vs => K (v :: vs)
        | false => False
      | _ => False
    | _ => False
def retP (P : Program) (T : List Sh) (fn : Func) (R : Value → World → Prop) (ρ : Env) (w : World) : Prop :=
  resP P T fn.results.toList ρ w fun vs => match vs with
    | [v] => R v w
    | vs => R (.tuple ⟨vs⟩) w
def Ex.retQ (P : Program) (T : List Sh) (fn : Func) (R : Value → World → Prop) : Ex → Env → World → Prop
  | .exit _ => fun _ _ => False
  | .normal => retP P T fn R
  | .ret => retP P T fn R
def env0 (vs : List Value) : Env := fun t => vs[t]?
def denF (P : Program) (T : List Sh) (fn : Func) (ann : Ann) (args : List Value) (w : World) (R : Value → World → Prop) : Prop :=
  match fn.body with
  | some c => den P T fn.ntmps c ann (env0 args) w (Ex.retQ P T fn R)
  | none => False
end Go.Pl

/- 'den' is sound: what it says of a function's code gives the run of a call ('calls_den'). -/
namespace Go.Pl
set_option linter.unusedVariables false

structure Ag (n : Nat) (ρ : Env) (a : Act) : Prop where
  sz : a.tmps.size = n
  df : a.defers = []
  on : ∀ t v, ρ t = some v → t < n ∧ a.tmps.getD t undef = v
def Pr (ws : List Nat) (a a' : Act) : Prop := ∀ t, t ∉ ws → a'.tmps.getD t undef = a.tmps.getD t undef
theorem Pr.refl (ws : List Nat) (a : Act) : Pr ws a a := fun _ _ => rfl
theorem Pr.trans {ws : List Nat} {a b c : Act} (h : Pr ws a b) (k : Pr ws b c) : Pr ws a c := fun t ht => (k t ht).trans (h t ht)
theorem Pr.mono {ws ws' : List Nat} {a b : Act} (h : Pr ws a b) (hs : ∀ t, t ∈ ws → t ∈ ws') : Pr ws' a b := fun t ht => h t fun hm => ht (hs t hm)

theorem getD_set (xs : Array Value) (d t : Nat) (v u : Value) : (xs.setIfInBounds d v).getD t u = if t = d ∧ d < xs.size then v else xs.getD t u := by
  simp only [Array.getD_eq_getD_getElem?, Array.getElem?_setIfInBounds]
  by_cases h : d = t
  · subst h
    by_cases h2 : d < xs.size
    · simp [h2]
    · simp [h2]
  · simp [h, Ne.symm h]
theorem ag_put {n : Nat} {ρ : Env} {a : Act} {d : Option Nat} {v : Value} {K : Env → Prop} (hA : Ag n ρ a) (h : putE n ρ d v K) :
    ∃ ρ', K ρ' ∧ Ag n ρ' (a.put d v) ∧ Pr d.toList a (a.put d v) := by
  cases d with
  | none => exact ⟨ρ, h, hA, Pr.refl _ _⟩
  | some d =>
    unfold putE at h
    simp only at h
    split at h
    · rename_i hlt
      have hlt : d < n := by simpa [Nat.blt_eq] using hlt
      refine ⟨_, h, ⟨by simp [Act.put, hA.sz], by simp [Act.put, hA.df], fun t u ht => ?_⟩, fun t ht => ?_⟩
      · simp only [Act.put, getD_set]
        by_cases e : t = d
        · subst e
          rw [upd_same] at ht
          cases ht
          exact ⟨hlt, by simp [hA.sz, hlt]⟩
        · rw [upd_ne _ _ e] at ht
          have := hA.on t u ht
          exact ⟨this.1, by simp [e]; simpa using this.2⟩
      · simp only [Act.put, getD_set]
        rw [if_neg (fun e => ht (by simp [e.1]))]
    · exact h.elim
theorem ag_upd {n : Nat} {ρ : Env} {a : Act} {d : Nat} {v : Value} (hA : Ag n ρ a) (h : ρ d = some v) : Ag n (upd ρ d (some v)) a :=
  ⟨hA.sz, hA.df, fun t u ht => by
    by_cases e : t = d
    · subst e; rw [upd_same] at ht; cases ht; exact hA.on _ _ h
    · rw [upd_ne _ _ e] at ht; exact hA.on t u ht⟩
theorem grd_inv {n : Nat} {ops : Array Oper} {ρ : Env} {a : Act} {o : Oper} {run skip : Env → Prop} (hA : Ag n ρ a) (h : grd ops ρ o run skip) :
    ∃ ρ', Ag n ρ' a ∧ ((Region.wanted o (yielded ops a.tmps) = true ∧ run ρ') ∨ (Region.wanted o (yielded ops a.tmps) = false ∧ skip ρ')) := by
  unfold grd at h
  split at h
  · rename_i hg
    exact ⟨ρ, hA, .inl ⟨by simp [Region.wanted, hg], h⟩⟩
  · rename_i j want hg
    split at h
    · rename_i d hd
      split at h
      · rename_i b hb
        have hv := hA.on d _ hb
        have hy : yielded ops a.tmps j = some b := by
          have hlt : d < a.tmps.size := by rw [hA.sz]; exact hv.1
          have hd' : (ops[j]?).bind (·.dst) = some d := by
            unfold gslot at hd
            split at hd
            · rename_i o' ho'; simp [ho', hd]
            · cases hd
          have hg2 : a.tmps[d]? = some (.bool b) := by
            rw [Array.getElem?_eq_getElem hlt]
            have := hv.2
            simp only [Array.getD_eq_getD_getElem?, Array.getElem?_eq_getElem hlt, Option.getD_some] at this
            rw [this]
          unfold yielded
          rw [hd']
          simp [hg2]
        have hw : Region.wanted o (yielded ops a.tmps) = (b == want) := by
          simp [Region.wanted, hg, hy]
        refine ⟨upd ρ d (some (.bool b)), ag_upd hA hb, ?_⟩
        rw [hw]
        cases b <;> cases want <;> simp only [sp] at h <;> simp [h]
      · rename_i vs hb
        have hv := hA.on d _ hb
        have hy : yielded ops a.tmps j = none := by
          have hlt : d < a.tmps.size := by rw [hA.sz]; exact hv.1
          have hd' : (ops[j]?).bind (·.dst) = some d := by
            unfold gslot at hd
            split at hd
            · rename_i o' ho'; simp [ho', hd]
            · cases hd
          have hg2 : a.tmps[d]? = some (.tuple vs) := by
            rw [Array.getElem?_eq_getElem hlt]
            have := hv.2
            simp only [Array.getD_eq_getD_getElem?, Array.getElem?_eq_getElem hlt, Option.getD_some] at this
            rw [this]
          unfold yielded
          rw [hd']
          simp [hg2]
        exact ⟨ρ, hA, .inr ⟨by simp [Region.wanted, hg, hy], h⟩⟩
      · exact h.elim
    · exact h.elim

section
variable {P : Program} {T : List Sh} {n : Nat}
theorem denOps_wp (ops : Array Oper) (Q : Exit → Act → World → Prop) (a0 : Act) : ∀ (os : List Oper) (is : List Nat) (ρ : Env) (w : World) (K : Env → World → Prop) (a : Act),
    is.map (fun i => ops[i]?) = os.map some → Ag n ρ a → denOps P T n ops os ρ w K → Pr (ops.toList.filterMap (·.dst)) a0 a → (∀ o ∈ os, o ∈ ops.toList) →
    (∀ ρ' w' a', Ag n ρ' a' → Pr (ops.toList.filterMap (·.dst)) a0 a' → K ρ' w' → Q .normal a' w') → wpOps P ops Q is a w
  | [], is, ρ, w, K, a, hi, hA, h, hp, hm, hK => by
    cases is with
    | nil => exact hK _ _ _ hA hp h
    | cons i is => simp at hi
  | o :: os, is, ρ, w, K, a, hi, hA, h, hp, hm, hK => by
    cases is with
    | nil => simp at hi
    | cons i is =>
      simp only [List.map_cons, List.cons.injEq] at hi
      have hsub : ∀ t, t ∈ o.dst.toList → t ∈ ops.toList.filterMap (·.dst) := fun t ht => by
        cases hd : o.dst with
        | none => simp [hd] at ht
        | some d => simp [hd] at ht; subst ht; exact List.mem_filterMap.2 ⟨o, hm o (by simp), hd⟩
      obtain ⟨ρ1, hA1, ⟨hw, hr⟩ | ⟨hw, hr⟩⟩ := grd_inv hA h
      · simp only [wpOps, hi.1, hw, if_true]
        refine .inl (Oper.wp_mono ?_ (op_wp hA1.on hr))
        rintro a' w' ⟨v, rfl, hv⟩
        obtain ⟨ρ2, h2, hA2, hp2⟩ := ag_put hA1 hv
        exact denOps_wp ops Q a0 os is ρ2 w' K _ hi.2 hA2 h2 (hp.trans (hp2.mono hsub)) (fun o' ho' => hm o' (by simp [ho'])) hK
      · simp only [wpOps, hi.1, hw, if_false, Bool.false_eq_true]
        obtain ⟨ρ2, h2, hA2, hp2⟩ := ag_put hA1 hr
        exact denOps_wp ops Q a0 os is _ w K _ hi.2 hA2 h2 (hp.trans (hp2.mono hsub)) (fun o' ho' => hm o' (by simp [ho'])) hK
/-- The names of the ways, filled with a function of what is known there. -/
def mkC (T : List Sh) {R : Type} (f : Env → R) : (l : List Nat) → Env → Cur T l R
  | [], ρ => f ρ
  | s :: ss, ρ => (kdOf T s).mkF fun v => mkC T f ss (upd ρ s (some v))
theorem all_mk {R : Type} (f : Env → R) (G : Env → R → Prop) (h : ∀ ρ, G ρ (f ρ)) : ∀ (l : List Nat) (ρ : Env), All T l ρ (mkC T f l ρ) G
  | [], ρ => h ρ
  | _ :: ss, ρ => Kd.all_mk fun v => all_mk f G h ss _
/-- What is handed to such a name is known behind it. -/
theorem app_mk {R : Type} (f : Env → R) (ρ1 : Env) (G : R → Prop) : ∀ (l : List Nat) (ρ0 : Env), App T l (mkC T f l ρ0) ρ1 G →
    ∃ ρ', (∀ t v, ρ' t = some v → (t ∈ l ∧ ρ1 t = some v) ∨ ρ0 t = some v) ∧ G (f ρ')
  | [], ρ0, h => ⟨ρ0, fun _ _ h => .inr h, h⟩
  | s :: ss, ρ0, h => by
    unfold App at h
    split at h
    · rename_i v hv
      obtain ⟨ρ', h1, h2⟩ := app_mk f ρ1 G ss _ (Kd.app_mk h)
      refine ⟨ρ', fun t u hu => ?_, h2⟩
      rcases h1 t u hu with ⟨hm, h3⟩ | h3
      · exact .inl ⟨by simp [hm], h3⟩
      · by_cases e : t = s
        · subst e
          rw [upd_same] at h3
          cases h3
          exact .inl ⟨by simp, hv⟩
        · rw [upd_ne _ _ e] at h3
          exact .inr h3
    · exact h.elim
theorem clr_some {ws : List Nat} {ρ : Env} {t : Nat} {v : Value} (h : clr ws ρ t = some v) : t ∉ ws ∧ ρ t = some v := by
  unfold clr at h
  split at h
  · cases h
  · rename_i hb
    refine ⟨fun hm => ?_, h⟩
    have : ws.any (Nat.beq t) = true := List.any_eq_true.2 ⟨t, hm, Nat.beq_refl t⟩
    rw [this] at hb
    cases hb
/-- From an environment at a name's use to the one behind it. -/
theorem ag_join {ws l : List Nat} {ρ0 ρ1 ρ' : Env} {a0 a1 : Act} (h0 : Ag n ρ0 a0) (h1 : Ag n ρ1 a1) (hp : Pr ws a0 a1)
    (h : ∀ t v, ρ' t = some v → (t ∈ l ∧ ρ1 t = some v) ∨ clr ws ρ0 t = some v) : Ag n ρ' a1 :=
  ⟨h1.sz, h1.df, fun t v ht => by
    rcases h t v ht with ⟨_, h2⟩ | h2
    · exact h1.on t v h2
    · obtain ⟨h3, h4⟩ := clr_some h2
      have := h0.on t v h4
      exact ⟨this.1, by rw [hp t h3]; exact this.2⟩⟩
theorem abs_inv {j : Option (List Nat)} {ws : List Nat} {ρ0 : Env} {a0 : Act} {rest : Env → World → Prop} {body : (Env → World → Prop) → Prop} (goal : Act → World → Prop)
    (h0 : Ag n ρ0 a0) (h : abs T j ws ρ0 rest body) (hr : ∀ ρ' w' a', Ag n ρ' a' → Pr ws a0 a' → rest ρ' w' → goal a' w') :
    ∃ K : Env → World → Prop, body K ∧ ∀ ρ' w' a', Ag n ρ' a' → Pr ws a0 a' → K ρ' w' → goal a' w' := by
  cases j with
  | none => exact ⟨rest, h, hr⟩
  | some l =>
    refine ⟨_, h (mkC T (fun ρ' w' => ∀ a', Ag n ρ' a' → Pr ws a0 a' → goal a' w') l (clr ws ρ0)) (all_mk _ _ (fun ρ' w' hw a' hA hp => hr ρ' w' a' hA hp hw) _ _), ?_⟩
    intro ρ1 w1 a1 hA1 hp1 hK
    obtain ⟨ρ', h1, h2⟩ := app_mk _ ρ1 _ l _ hK
    exact h2 a1 (ag_join h0 hA1 hp1 h1) hp1
theorem least {S : Nat → Prop} : (∃ m, S m) → ∃ m, S m ∧ ∀ k, S k → m ≤ k := by
  rintro ⟨m, hm⟩
  induction m using Nat.strongRecOn with
  | _ m ih =>
    by_cases h : ∃ k, k < m ∧ S k
    · obtain ⟨k, hk, hs⟩ := h; exact ih k hk hs
    · exact ⟨m, hm, fun k hk => Nat.le_of_not_lt fun hlt => h ⟨k, hlt, hk⟩⟩
theorem wp_loop_idx {c : Code} {Q : Exit → Act → World → Prop} (I : Nat → Act → World → Prop) {a : Act} {w : World} (h0 : ∃ m, I m a w)
    (round : ∀ m a w, I m a w → c.wp P (Exit.then (fun a' w' => ∃ m', m' < m ∧ I m' a' w') Q) a w) : (Code.loop c).wp P Q a w := by
  classical
  refine wp_loop (fun a w => ∃ m, I m a w) (fun a w => if h : ∃ m, I m a w then (least h).choose else 0) h0 ?_
  intro a w h
  have hm := (least h).choose_spec
  refine wp_mono (round _ a w hm.1) ?_
  intro e a' w' hq
  cases e with
  | normal =>
    obtain ⟨m', hlt, hI⟩ := hq
    have h' : ∃ m, I m a' w' := ⟨m', hI⟩
    refine ⟨h', ?_⟩
    simp only [dif_pos h, dif_pos h']
    exact Nat.lt_of_le_of_lt ((least h').choose_spec.2 m' hI) hlt
  | _ => exact hq
/-- A loop's relation at what is known: its round, at that very place. -/
theorem all_app : ∀ {R : Type} (l : List Nat) (ρ0 ρ1 : Env) (J : Cur T l R) (G : Env → R → Prop) (H : R → Prop), All T l ρ0 J G → App T l J ρ1 H →
    ∃ ρ' j, (∀ t v, ρ' t = some v → (t ∈ l ∧ ρ1 t = some v) ∨ ρ0 t = some v) ∧ G ρ' j ∧ H j
  | _, [], ρ0, ρ1, J, G, H, hG, hH => ⟨ρ0, J, fun _ _ h => .inr h, hG, hH⟩
  | _, s :: ss, ρ0, ρ1, J, G, H, hG, hH => by
    unfold App at hH
    split at hH
    · rename_i v hv
      obtain ⟨k, hk, hK⟩ := Kd.all_app hG hH
      obtain ⟨ρ', j, h1, h2, h3⟩ := all_app ss _ ρ1 k G H hk hK
      refine ⟨ρ', j, fun t u hu => ?_, h2, h3⟩
      rcases h1 t u hu with ⟨hm, h4⟩ | h4
      · exact .inl ⟨by simp [hm], h4⟩
      · by_cases e : t = s
        · subst e
          rw [upd_same] at h4
          cases h4
          exact .inl ⟨by simp, hv⟩
        · rw [upd_ne _ _ e] at h4
          exact .inr h4
    · exact hH.elim
/-- The rule of a region whose order is drawn. -/
def Drawn (P : Program) (T : List Sh) (n : Nat) : Prop := ∀ (ops : Array Oper) (cls : List Nat) (X : Option (Nat → Prop)) (id : Nat) (t : Tr) (ρ : Env) (w : World) (K : Env → World → Prop) (a : Act) (Q : Exit → Act → World → Prop), Ag n ρ a →
      denR P T n ops cls X t ρ w K →
      (∀ ρ' w' a', Ag n ρ' a' → Pr (ops.toList.filterMap (·.dst)) a a' → K ρ' w' → Q .normal a' w') → (Code.region id ops true).wp P Q a w
def Sound (P : Program) (T : List Sh) (n : Nat) (c : Code) : Prop := ∀ (ann : Ann) (ρ : Env) (w : World) (Q : Ex → Env → World → Prop) (a : Act) (Q' : Exit → Act → World → Prop), Ag n ρ a → den P T n c ann ρ w Q →
    (∀ e ρ' w' a', Ag n ρ' a' → Pr (wr c) a a' → Q e ρ' w' → Q' e.to a' w') → c.wp P Q' a w
def Subs (P : Program) (T : List Sh) (n : Nat) : Code → Prop
  | .cond _ y z => Sound P T n y ∧ Sound P T n z
  | _ => True
theorem den_both (hD : Drawn P T n) : ∀ (c : Code), Sound P T n c ∧ Subs P T n c := by
  intro c
  induction c with
  | skip => refine ⟨?_, trivial⟩; intro ann ρ w Q a Q' hA h hQ; exact wp_skip (hQ .normal _ _ _ hA (Pr.refl _ _) (by simpa [den] using h))
  | label l => refine ⟨?_, trivial⟩; intro ann ρ w Q a Q' hA h hQ; exact wp_label (hQ .normal _ _ _ hA (Pr.refl _ _) (by simpa [den] using h))
  | exit i => refine ⟨?_, trivial⟩; intro ann ρ w Q a Q' hA h hQ; exact wp_exit (hQ (.exit i) _ _ _ hA (Pr.refl _ _) (by simpa [den] using h))
  | ret => refine ⟨?_, trivial⟩; intro ann ρ w Q a Q' hA h hQ; exact wp_ret (hQ .ret _ _ _ hA (Pr.refl _ _) (by simpa [den] using h))
  | region id ops draw =>
    refine ⟨?_, trivial⟩
    intro ann ρ w Q a Q' hA h hQ
    cases draw with
    | false =>
      have h : denOps P T n ops ops.toList ρ w (Q .normal) := by simpa [den] using h
      refine wp_region (denOps_wp ops Q' a ops.toList _ ρ w _ a ?_ hA h (Pr.refl _ _) (fun o ho => ho) (fun ρ' w' a' hA' hp hK => hQ .normal _ _ _ hA' hp hK))
      apply List.ext_getElem?
      intro i
      simp only [List.getElem?_map]
      by_cases hi : i < ops.size
      · simp [hi]
      · simp [hi]
    | true =>
      cases ann with
      | dr cls ord =>
        have h : denR P T n ops cls none (Tr.of ord) ρ w (Q .normal) := by simpa [den] using h
        exact hD ops cls none id _ ρ w _ a Q' hA h (fun ρ' w' a' hA' hp hK => hQ .normal _ _ _ hA' hp hK)
      | drt x cls t =>
        cases x with
        | false =>
          have h : denR P T n ops cls none t ρ w (Q .normal) := by simpa [den] using h
          exact hD ops cls none id t ρ w _ a Q' hA h (fun ρ' w' a' hA' hp hK => hQ .normal _ _ _ hA' hp hK)
        | true =>
          obtain ⟨X, h⟩ : ∃ X : Nat → Prop, denR P T n ops cls (some X) t ρ w (Q .normal) := by simpa [den] using h
          exact hD ops cls (some X) id t ρ w _ a Q' hA h (fun ρ' w' a' hA' hp hK => hQ .normal _ _ _ hA' hp hK)
      | _ => simp [den] at h
  | seq x y ihx ihy =>
    obtain ⟨ihx, _⟩ := ihx
    obtain ⟨ihy, suby⟩ := ihy
    refine ⟨?_, trivial⟩
    intro ann ρ w Q a Q' hA h hQ
    have wrs : ∀ z, (z = wr x ∨ z = wr y) → ∀ t, t ∈ z → t ∈ wr (Code.seq x y) := by
      rintro z (rfl | rfl) t ht <;> simp [wr, ht]
    refine wp_seq ?_
    cases ann with
    | seq j A B =>
      have h : abs T j (wr x) ρ (fun ρ' w' => den P T n y B ρ' w' Q) fun K => den P T n x A ρ w (Ex.seqQ K Q) := by simpa [den] using h
      obtain ⟨K, hb, hK⟩ := abs_inv (fun a' w' => y.wp P Q' a' w') hA h (fun ρ' w' a' hA' hp hr => ihy B ρ' w' Q a' Q' hA' hr (fun e ρ2 w2 a2 hA2 hp2 hq => hQ e ρ2 w2 a2 hA2 ((hp.mono (wrs _ (.inl rfl))).trans (hp2.mono (wrs _ (.inr rfl)))) hq))
      refine ihx A ρ w _ a _ hA hb ?_
      intro e ρ' w' a' hA' hp hq
      cases e with
      | normal => exact hK _ _ _ hA' hp hq
      | exit i => exact hQ (.exit i) _ _ _ hA' (hp.mono (wrs _ (.inl rfl))) hq
      | ret => exact hQ .ret _ _ _ hA' (hp.mono (wrs _ (.inl rfl))) hq
    | ifs ja jb A B =>
      cases y with
      | cond c y z =>
        have h : abs T ja (wr x) ρ (fun ρ' w' => den P T n y A ρ' w' Q) fun KA => abs T jb (wr x) ρ (fun ρ' w' => den P T n z B ρ' w' Q) fun KB =>
          den P T n x .z ρ w (Ex.seqQ (fun ρ' w' => ev ρ' c fun v => condV v (KA ρ' w') (KB ρ' w')) Q) := by simpa [den] using h
        have wy : ∀ t, t ∈ wr y → t ∈ wr (Code.seq x (.cond c y z)) := by intro t ht; simp [wr, ht]
        have wz : ∀ t, t ∈ wr z → t ∈ wr (Code.seq x (.cond c y z)) := by intro t ht; simp [wr, ht]
        obtain ⟨KA, h, hKA⟩ := abs_inv (fun a' w' => y.wp P Q' a' w') hA h (fun ρ' w' a' hA' hp hr => suby.1 A ρ' w' Q a' Q' hA' hr (fun e ρ2 w2 a2 hA2 hp2 hq => hQ e ρ2 w2 a2 hA2 ((hp.mono (wrs _ (.inl rfl))).trans (hp2.mono wy)) hq))
        obtain ⟨KB, h, hKB⟩ := abs_inv (fun a' w' => z.wp P Q' a' w') hA h (fun ρ' w' a' hA' hp hr => suby.2 B ρ' w' Q a' Q' hA' hr (fun e ρ2 w2 a2 hA2 hp2 hq => hQ e ρ2 w2 a2 hA2 ((hp.mono (wrs _ (.inl rfl))).trans (hp2.mono wz)) hq))
        refine ihx .z ρ w _ a _ hA h ?_
        intro e ρ' w' a' hA' hp hq
        cases e with
        | normal =>
          have hq := ev_inv hA'.on hq
          unfold condV at hq
          split at hq
          · rename_i t ht
            refine wp_cond_split ht (fun e => ?_) (fun e => ?_)
            · subst e; exact hKA _ _ _ hA' hp hq
            · subst e; exact hKB _ _ _ hA' hp hq
          · exact hq.elim
        | exit i => exact hQ (.exit i) _ _ _ hA' (hp.mono (wrs _ (.inl rfl))) hq
        | ret => exact hQ .ret _ _ _ hA' (hp.mono (wrs _ (.inl rfl))) hq
      | _ => simp [den] at h
    | _ => simp [den] at h
  | cond c x y ihx ihy =>
    obtain ⟨ihx, _⟩ := ihx
    obtain ⟨ihy, _⟩ := ihy
    refine ⟨?_, ihx, ihy⟩
    intro ann ρ w Q a Q' hA h hQ
    cases ann with
    | cond A B =>
      have h : ev ρ c fun v => condV v (den P T n x A ρ w Q) (den P T n y B ρ w Q) := by simpa [den] using h
      have h := ev_inv hA.on h
      unfold condV at h
      split at h
      · rename_i t ht
        refine wp_cond_split ht (fun e => ?_) (fun e => ?_)
        · subst e; exact ihx A ρ w Q a Q' hA h (fun e ρ2 w2 a2 hA2 hp2 hq => hQ e ρ2 w2 a2 hA2 (hp2.mono (by intro t ht; simp [wr, ht])) hq)
        · subst e; exact ihy B ρ w Q a Q' hA h (fun e ρ2 w2 a2 hA2 hp2 hq => hQ e ρ2 w2 a2 hA2 (hp2.mono (by intro t ht; simp [wr, ht])) hq)
      · exact h.elim
    | _ => simp [den] at h
  | block id x ih =>
    obtain ⟨ih, _⟩ := ih
    refine ⟨?_, trivial⟩
    intro ann ρ w Q a Q' hA h hQ
    cases ann with
    | block j A =>
      have h : abs T j (wr x) ρ (Q .normal) fun K => den P T n x A ρ w (Ex.blkQ id K Q) := by simpa [den] using h
      obtain ⟨K, hb, hK⟩ := abs_inv (fun a' w' => Q' .normal a' w') hA h (fun ρ' w' a' hA' hp hr => hQ .normal ρ' w' a' hA' hp hr)
      refine wp_block (ih A ρ w _ a _ hA hb ?_)
      intro e ρ' w' a' hA' hp hq
      cases e with
      | normal => exact hK _ _ _ hA' hp hq
      | exit i =>
        simp only [Ex.blkQ] at hq
        simp only [Ex.to, Exit.inBlock]
        cases e : Nat.beq i id with
        | true =>
          simp only [e] at hq
          rw [if_pos (Nat.eq_of_beq_eq_true e)]
          exact hK _ _ _ hA' hp hq
        | false =>
          simp only [e] at hq
          rw [if_neg (fun e' => by rw [e', Nat.beq_refl] at e; cases e)]
          exact hQ (.exit i) _ _ _ hA' hp hq
      | ret => exact hQ .ret _ _ _ hA' hp hq
    | _ => simp [den] at h
  | loop x ih =>
    obtain ⟨ih, _⟩ := ih
    refine ⟨?_, trivial⟩
    intro ann ρ w Q a Q' hA h hQ
    cases ann with
    | loop l A =>
      have h : ∃ J : Cur T l (World → Nat → Prop), App T l J ρ (fun (j : World → Nat → Prop) => ∃ m, j w m) ∧
          All T l (clr (wr x) ρ) J fun ρ' (j : World → Nat → Prop) => ∀ w' m, j w' m → den P T n x A ρ' w' (Ex.loopQ T l J m Q) := by simpa [den] using h
      obtain ⟨J, h0, hr⟩ := h
      have step : ∀ (H : (World → Nat → Prop) → Prop) (ρ1 : Env) (a1 : Act), Ag n ρ1 a1 → Pr (wr x) a a1 → App T l J ρ1 H → ∃ (ρ' : Env) (j : World → Nat → Prop), Ag n ρ' a1 ∧ Pr (wr x) a a1 ∧ H j ∧
          ∀ w' m, j w' m → den P T n x A ρ' w' (Ex.loopQ T l J m Q) := by
        intro H ρ1 a1 hA1 hp1 hH
        obtain ⟨ρ', j, h1, h2, h3⟩ := all_app l _ ρ1 J _ H hr hH
        exact ⟨ρ', j, ag_join hA hA1 hp1 h1, hp1, h3, h2⟩
      refine wp_loop_idx (fun m a1 w1 => ∃ (ρ' : Env) (j : World → Nat → Prop), Ag n ρ' a1 ∧ Pr (wr x) a a1 ∧ j w1 m ∧
          ∀ w' m, j w' m → den P T n x A ρ' w' (Ex.loopQ T l J m Q)) ?_ ?_
      · obtain ⟨ρ', j, h1, h2, ⟨m, h3⟩, h4⟩ := step _ ρ a hA (Pr.refl _ _) h0
        exact ⟨m, ρ', j, h1, h2, h3, h4⟩
      · rintro m a1 w1 ⟨ρ', j, hA1, hp1, hi, hd⟩
        refine ih A ρ' w1 _ a1 _ hA1 (hd w1 m hi) ?_
        intro e ρ2 w2 a2 hA2 hp2 hq
        cases e with
        | normal =>
          obtain ⟨ρ3, j3, h1, h2, ⟨m', hlt, h3⟩, h4⟩ := step _ ρ2 a2 hA2 (hp1.trans hp2) hq
          exact ⟨m', hlt, ρ3, j3, h1, h2, h3, h4⟩
        | exit i => exact hQ (.exit i) _ _ _ hA2 (hp1.trans hp2) hq
        | ret => exact hQ .ret _ _ _ hA2 (hp1.trans hp2) hq
    | _ => simp [den] at h
  | _ => refine ⟨?_, trivial⟩; intro ann ρ w Q a Q' hA h hQ; simp [den] at h
theorem den_wp (hD : Drawn P T n) (c : Code) : Sound P T n c := (den_both hD c).1
def resG (tmps : Array Value) : ResultVar → Sem Value
  | .tmp t => pure (tmps.getD t undef)
  | .cell a t => do loadVar t (← asAddr (tmps.getD a undef))
theorem results_is (fn : Func) (tmps : Array Value) : results fn tmps = (do
    let vs ← fn.results.mapM (resG tmps)
    pure (if h : vs.size = 1 then vs[0] else .tuple vs)) := by
  unfold results
  congr 1
theorem resG_tmp (tmps : Array Value) (t : Tmp) (w : World) : (resG tmps (.tmp t)).run P w = .ok (tmps.getD t undef) w := rfl
theorem resG_cell {tmps : Array Value} {c : Tmp} {ty : TypeId} {p : Addr} {v : Value} {w : World} (h : tmps.getD c undef = .pointer (some p)) (hr : (loadVar ty p).run P w = .ok v w) :
    (resG tmps (.cell c ty)).run P w = .ok v w := by
  simp only [resG, Sem.run_bind, h, asAddr, Sem.run_pure, Result.andThen_ok, hr]
theorem resP_run : ∀ {rs : List ResultVar} {ρ : Env} {w : World} {a : Act} {K : List Value → Prop}, Ag n ρ a → resP P T rs ρ w K →
    ∃ vs, (rs.mapM (resG a.tmps)).run P w = .ok vs w ∧ K vs
  | [], ρ, w, a, K, hA, h => ⟨[], rfl, h⟩
  | .tmp t :: rs, ρ, w, a, K, hA, h => by
    unfold resP at h
    split at h
    · rename_i v hv
      obtain ⟨vs, h1, h2⟩ := resP_run hA h
      refine ⟨v :: vs, ?_, h2⟩
      simp only [List.mapM_cons, Sem.run_bind, resG_tmp, Sem.run_pure, Result.andThen_ok, h1, (hA.on t v hv).2]
    · exact h.elim
  | .cell c ty :: rs, ρ, w, a, K, hA, h => by
    unfold resP at h
    split at h
    · rename_i b o hv
      split at h
      · rename_i s hs
        split at h
        · rename_i hok
          obtain ⟨v, hr, h⟩ := ldP_run hok h
          obtain ⟨vs, h1, h2⟩ := resP_run hA h
          refine ⟨v :: vs, ?_, h2⟩
          have hr' : (loadVar ty ⟨b, o, none⟩).run P w = .ok v w := by simpa [Instr.loadAt, Instr.sureAddr] using hr
          simp only [List.mapM_cons, Sem.run_bind, resG_cell (hA.on c _ hv).2 hr', Sem.run_pure, Result.andThen_ok, h1]
        · exact h.elim
      · exact h.elim
    · exact h.elim
theorem calls_den (hD : ∀ n, Drawn P T n) {f : FuncId} {fn : Func} {ann : Ann} {args : List Value} {w : World} {R : Value → World → Prop} (hf : P.funcs[f]? = some fn) (hl : args.length ≤ fn.ntmps)
    (h : denF P T fn ann args w R) : CallP P f args w R := by
  unfold denF at h
  split at h
  · rename_i c hb
    have hA : Ag fn.ntmps (env0 args) { tmps := (⟨args⟩ : Array Value) ++ Array.replicate (fn.ntmps - (⟨args⟩ : Array Value).size) undef, defers := [] } := by
      refine ⟨by simp; omega, rfl, fun t v ht => ?_⟩
      unfold env0 at ht
      have hlt := (List.getElem?_eq_some_iff.1 ht).1
      refine ⟨by omega, ?_⟩
      simp only [Array.getD_eq_getD_getElem?]
      rw [Array.getElem?_append_left (by simpa using hlt)]
      simp [ht]
    refine calls_of_wp hf hb (den_wp (hD _) c ann _ w _ _ _ hA h ?_)
    have key : ∀ (ρ' : Env) (w' : World) (a' : Act), Ag fn.ntmps ρ' a' → retP P T fn R ρ' w' → ∃ v, (results fn a'.tmps).run P w' = .ok v w' ∧ Ret R (.returned v) w' := by
      intro ρ' w' a' hA' hq
      unfold retP at hq
      obtain ⟨vs, h1, h2⟩ := resP_run hA' hq
      have hm : (fn.results.mapM (resG a'.tmps)).run P w' = .ok vs.toArray w' := by
        rw [Array.mapM_eq_mapM_toList, Sem.run_map, h1]; rfl
      rw [results_is, Sem.run_bind, hm]
      simp only [Result.andThen_ok, Sem.run_pure]
      split at h2
      · exact ⟨_, rfl, _, rfl, h2⟩
      · rename_i hne
        have : ¬ vs.toArray.size = 1 := by
          intro e
          obtain ⟨v, rfl⟩ := List.length_eq_one_iff.1 (by simpa using e)
          exact hne v rfl
        rw [dif_neg this]
        exact ⟨_, rfl, _, rfl, h2⟩
    intro e ρ' w' a' hA' _ hq
    cases e with
    | normal => exact ⟨hA'.df, key _ _ _ hA' hq⟩
    | exit i => exact hq.elim
    | ret => exact ⟨hA'.df, key _ _ _ hA' hq⟩
  · exact h.elim
end
end Go.Pl

/- Regions whose order is drawn: 'denD' is sound. -/
namespace Go.Pl
set_option linter.unusedVariables false
section
variable {P : Program} {T : List Sh} {n : Nat} {ops : Array Oper} {Q : Exit → Act → World → Prop} {S : World → Prop} {c3 : Nat → Bool}
def noC3 (c3 : Nat → Bool) (listed : Array Bool) : Prop := ∀ j, c3 j = true → listed.getD j false = false
def wpAnyC (P : Program) (ops : Array Oper) (Q : Exit → Act → World → Prop) (S : World → Prop) (c3 : Nat → Bool) : Nat → Array Bool → Act → World → Prop
  | 0, listed, a, w => Region.ready .any ops listed = [] ∧ Q .normal a w
  | fuel + 1, listed, a, w =>
    (Region.ready .any ops listed = [] → Q .normal a w) ∧
    ∀ i ∈ Region.ready .any ops listed, wpOp P ops Q i (fun a' w' => (noC3 c3 (listed.setIfInBounds i true) → S w') ∧ wpAnyC P ops Q S c3 fuel (listed.setIfInBounds i true) a' w') a w
theorem wpAny_of_C : ∀ (fuel : Nat) (listed : Array Bool) (a : Act) (w : World), wpAnyC P ops Q S c3 fuel listed a w → wpAny P .any ops Q fuel listed a w
  | 0, _, _, _, h => h
  | fuel + 1, _, _, _, h => ⟨h.1, fun i hi => wpOp_mono (fun _ _ h' => wpAny_of_C fuel _ _ _ h'.2) (h.2 i hi)⟩
def Down (ops : Array Oper) (listed : Array Bool) : Prop := ∀ (j : Nat) (o : Oper), listed.getD j false = true → ops[j]? = some o → ∀ e ∈ o.after, Region.binds .any e = true → listed.getD e.on false = true
theorem getD_set_eq {listed : Array Bool} {i j : Nat} (h : (listed.setIfInBounds i true).getD j false = true) : i = j ∨ listed.getD j false = true := by
  by_cases hij : i = j
  · exact .inl hij
  · rw [getD_set_ne false hij] at h; exact .inr h
theorem down_add {listed : Array Bool} {i : Nat} (hd : Down ops listed) (hr : i ∈ Region.ready .any ops listed) : Down ops (listed.setIfInBounds i true) := by
  intro j o hj ho e he hb
  rcases getD_set_eq hj with rfl | hj
  · obtain ⟨_, o', ho', hall⟩ := mem_ready.1 hr
    rw [ho] at ho'; cases ho'
    exact getD_set_true (hall e he hb)
  · exact getD_set_true (hd j o hj ho e he hb)
theorem waits_inv {f j i : Nat} (h : waits ops (f + 1) j i = true) : ∃ o, ops[j]? = some o ∧ ∃ e ∈ o.after, Region.binds .any e = true ∧ (e.on = i ∨ waits ops f e.on i = true) := by
  unfold waits at h
  split at h
  · rename_i o ho
    obtain ⟨e, he, h⟩ := List.any_eq_true.1 h
    simp only [Bool.and_eq_true, Bool.or_eq_true] at h
    exact ⟨o, ho, e, by simpa using he, h.1, h.2.imp Nat.eq_of_beq_eq_true id⟩
  · cases h
theorem waits_listed {listed : Array Bool} (hd : Down ops listed) : ∀ (f j i : Nat), listed.getD j false = true → waits ops f j i = true → listed.getD i false = true
  | 0, _, _, _, h => by cases h
  | f + 1, j, i, hj, h => by
    obtain ⟨o, ho, e, he, hb, h⟩ := waits_inv h
    have := hd j o hj ho e he hb
    rcases h with rfl | h
    · exact this
    · exact waits_listed hd f _ _ this h
theorem waits_ready {listed : Array Bool} (hd : Down ops listed) {f j i : Nat} (hr : j ∈ Region.ready .any ops listed) (h : waits ops f j i = true) : listed.getD i false = true := by
  cases f with
  | zero => cases h
  | succ f =>
    obtain ⟨o, ho, e, he, hb, h⟩ := waits_inv h
    obtain ⟨_, o', ho', hall⟩ := mem_ready.1 hr
    rw [ho] at ho'; cases ho'
    have := hall e he hb
    rcases h with rfl | h
    · exact this
    · exact waits_listed hd f _ _ this h
theorem ready_un {listed : Array Bool} {i : Nat} (h : i ∈ Region.ready .any ops listed) : listed.getD i false = false := by
  have := (mem_ready.1 h).1
  rcases Nat.lt_or_ge i listed.size with h' | h'
  · simp [h'] at this ⊢; exact this
  · simp [Array.getElem?_eq_none h'] at this
theorem noC3_sub {listed : Array Bool} {i : Nat} (h : noC3 c3 (listed.setIfInBounds i true)) : noC3 c3 listed := by
  intro j hj
  have := h j hj
  cases hl : listed.getD j false with
  | false => rfl
  | true => rw [getD_set_true hl] at this; cases this
theorem noC3_add {listed : Array Bool} {i : Nat} (h : noC3 c3 listed) (hi : c3 i = false) : noC3 c3 (listed.setIfInBounds i true) := by
  intro j hj
  have hij : i ≠ j := by intro e; rw [e, hj] at hi; cases hi
  rw [getD_set_ne false hij]
  exact h j hj
/-- A read may be taken first, where what writes waits for it; what reads nothing, ever. -/
theorem firstC {R : World → Prop} {i : Nat} {oi : Oper} {v : Value} (hi : ops[i]? = some oi) (hsel : ∀ (j : Nat) (o : Oper) cs b, ops[j]? = some o → o.op ≠ .select cs b)
    (hQ : ∀ c a w, Q (.panic c) (a.put oi.dst v) w → Q (.panic c) a w) (hci : c3 i = false)
    (hR : (∀ w, R w) ∨ ((∀ w, S w → R w) ∧ ∀ j, c3 j = true → j < ops.size → ∃ f, waits ops f j i = true)) :
    ∀ (fuel : Nat) (listed : Array Bool) (a : Act) (w : World), Down ops listed → listed.size = ops.size →
      (∀ j oj, ops[j]? = some oj → j ≠ i → listed.getD j true = false → (∀ e ∈ oj.after, Region.binds .any e = true → e.on ≠ i) → oi.apart ops oj = true) →
      i ∈ Region.ready .any ops listed → YieldsIf P ops R oi v a → R w → (noC3 c3 listed → S w) →
      wpAnyC P ops Q S c3 fuel (listed.setIfInBounds i true) (a.put oi.dst v) w → wpAnyC P ops Q S c3 (fuel + 1) listed a w := by
  intro fuel
  induction fuel with
  | zero =>
    intro listed a w _ _ _ hr hy hRw hS H
    refine ⟨fun h => (by rw [h] at hr; cases hr), fun j hj => ?_⟩
    by_cases hji : j = i
    · subst hji; exact hy.wpOp hi hRw ⟨fun h => hS (noC3_sub h), H⟩
    · have := ready_mono hj hji
      rw [H.1] at this
      cases this
  | succ fuel ih =>
    intro listed a w hdown hsize hfree hr hy hRw hS H
    refine ⟨fun h => (by rw [h] at hr; cases hr), fun j hj => ?_⟩
    by_cases hji : j = i
    · subst hji; exact hy.wpOp hi hRw ⟨fun h => hS (noC3_sub h), H⟩
    · have h1 := H.2 j (ready_mono hj hji)
      obtain ⟨hjun, oj, hoj, hall⟩ := mem_ready.1 hj
      have hiun := ready_un hr
      have hnot : ∀ e ∈ oj.after, Region.binds .any e = true → e.on ≠ i := fun e he hb heq => by
        have h1 := hall e he hb
        rw [heq, hiun] at h1
        cases h1
      have h2 := wpOp_putIf hoj (hfree j oj hoj hji hjun hnot) (fun cs b => hsel i oi cs b hi) (fun cs b => hsel j oj cs b hoj) hQ hy h1
      have hfree' : ∀ k ok, ops[k]? = some ok → k ≠ i → (listed.setIfInBounds j true).getD k true = false →
          (∀ e ∈ ok.after, Region.binds .any e = true → e.on ≠ i) → oi.apart ops ok = true := fun k ok hk hki hun hno => by
        refine hfree k ok hk hki ?_ hno
        by_cases hjk : j = k
        · subst hjk; exact hjun
        · rw [getD_set_ne true hjk] at hun; exact hun
      refine wpOp_mono (fun a' w' h3 => ⟨fun hn => ?_, ih (listed.setIfInBounds j true) a' w' (down_add hdown hj) (by simpa using hsize) hfree' (ready_mono hr (Ne.symm hji)) h3.1 ?_ ?_ ?_⟩) h2
      · refine h3.2.1 ?_
        rw [Array.setIfInBounds_comm _ _ (Ne.symm hji)]
        exact noC3_add hn hci
      · rcases hR with hR | ⟨hSR, hw⟩
        · exact hR _
        · refine hSR _ (h3.2.1 (noC3_add (i := j) (noC3_add (i := i) ?_ hci) ?_))
          · intro k hk
            cases hl : listed.getD k false with
            | false => rfl
            | true =>
              have hks : k < ops.size := by
                rw [← hsize]
                rcases Nat.lt_or_ge k listed.size with h' | h'
                · exact h'
                · simp [Array.getElem?_eq_none h'] at hl
              obtain ⟨f, hf⟩ := hw k hk hks
              rw [waits_listed hdown f k i hl hf] at hiun
              cases hiun
          · cases hc : c3 j with
            | false => rfl
            | true =>
              obtain ⟨f, hf⟩ := hw j hc (Array.getElem?_eq_some_iff.1 hoj).1
              rw [waits_ready hdown hj hf] at hiun
              cases hiun
      · intro hn
        refine h3.2.1 ?_
        rw [Array.setIfInBounds_comm _ _ (Ne.symm hji)]
        exact noC3_add hn hci
      · rw [Array.setIfInBounds_comm _ _ hji]
        exact h3.2.2
theorem yv {o : Oper} {a : Act} {s : Sem Value} (he : (execOp a.eval o) = (do pure (Next.value (← s)))) {v : Value} {w : World} (hr : s.run P w = .ok v w) : (execOp a.eval o).run P w = .ok (.value v) w := by
  rw [he]; simp [hr]
theorem runS_yl {s : Sem Value} {sh : Sh} {X : Option (Nat → Prop)} {w0 : World} {K : Value → Prop} (h : RunS P s sh X w0 K) : ∃ v, (∀ w, ExtO X w0 w → s.run P w = .ok v w) ∧ K v := Sh.ex_inv h
theorem ldP_ext {t : TypeId} {s : Sh1} {b o : Nat} {w0 : World} {K : Value → Prop} {E : World → Prop} (hE : ∀ w o v, E w → cel w0 b o = some v → cel w b o = some v) (ho : ldOk P t s = true) (h : LdP s b o w0 K) :
    ∃ v, K v ∧ ∀ w, E w → (Instr.loadAt t (.pointer (some ⟨b, o, none⟩))).run P w = .ok v w := by
  cases s with
  | one k =>
    obtain ⟨x, hx, hK⟩ := Kd.exV_inv h
    refine ⟨_, hK, fun w hw => ?_⟩
    have hx' := hE w _ _ hw hx
    unfold cel at hx'
    simp [Instr.loadAt, Instr.sureAddr, loadVar, ldOk_one ho w, run_load, hx']
  | agg ks =>
    obtain ⟨vs, hl, hr, hK⟩ := exL_len h
    refine ⟨_, hK, fun w hw => ?_⟩
    have hrow : Row w b o vs := fun j v hj => hE w _ _ hw (hr j v hj)
    simp only [ldOk] at ho
    have hag : isAggT P t = some true := by
      split at ho
      · assumption
      · cases ho
    cases hi : P.info? t with
    | none => simp [hag, hi] at ho
    | some i =>
      simp only [hag, hi] at ho
      have hs : i.size = ks.length := Nat.eq_of_beq_eq_true ho
      have hl2 : (loadCells ⟨b, o, none⟩ vs.length).run P w = .ok vs.toArray w :=
        run_loadCells_list (P := P) w ⟨b, o, none⟩ vs (fun j v hv => by rw [Addr.add_mid]; exact hrow j v hv)
      simp [Instr.loadAt, Instr.sureAddr, loadVar, isAggT_run hag w, info_of_size hi w, hs, ← hl, hl2]
theorem binP_any {op : BinOp} {t : TypeId} {vx vy : Value} {x y : Operand} {sh : Sh} {w w' : World} {K : Value → Prop}
    (hxy : (∃ k a k' b, vx = .int k a ∧ vy = .int k' b) ∨ (∃ a b, vx = .bool a ∧ vy = .bool b)) (h : binP P op t vx vy x y sh w K) : binP P op t vx vy x y sh w' K := by
  rcases hxy with ⟨k, a, k', b, rfl, rfl⟩ | ⟨a, b, rfl, rfl⟩
  · exact h
  · exact h
theorem bin_any {op : BinOp} {t : TypeId} {vx vy : Value} {x y : Operand} {sh : Sh} {w : World} {K : Value → Prop}
    (hxy : (∃ k a k' b, vx = .int k a ∧ vy = .int k' b) ∨ (∃ a b, vx = .bool a ∧ vy = .bool b)) (h : binP P op t vx vy x y sh w K) :
    ∃ v, K v ∧ ∀ w', (do eqGuard op t x y vx vy; binOp op t vx vy : Sem Value).run P w' = .ok v w' := by
  rcases hxy with ⟨k, a, k', b, rfl, rfl⟩ | ⟨a, b, rfl, rfl⟩
  · have hg : ∀ w, (eqGuard op t x y (.int k a) (.int k' b)).run P w = .ok () w := by
      intro w; unfold eqGuard; cases op <;> simp
    unfold binP at h
    simp only at h
    split at h
    · refine ⟨_, h.2, fun w => ?_⟩
      simp [hg, binOp, Op.shift, Int.not_lt.2 h.1]
    · refine ⟨_, h.2, fun w => ?_⟩
      simp [hg, binOp, Op.shift, Int.not_lt.2 h.1]
    · split at h
      · exact h.elim
      · rename_i hk
        have hkk := ikEq_eq hk
        subst hkk
        split at h <;> first
          | exact h.elim
          | (refine ⟨_, h.2, fun w => ?_⟩; simp [hg, binOp, Op.intDiv, h.1])
          | (refine ⟨_, h, fun w => ?_⟩; simp [hg, binOp, Op.intArith]; done)
          | (refine ⟨_, h, fun w => ?_⟩; simp [hg, binOp, Op.intBits, bitsI]; done)
          | (refine ⟨_, h, fun w => ?_⟩; simp [hg, binOp, Op.intCmp]; done)
          | (refine ⟨_, h, fun w => ?_⟩; simp [hg, binOp, Op.intCmp]; rfl)
  · unfold binP at h
    simp only at h
    split at h
    · split at h
      · rename_i hu
        refine ⟨_, h, fun w => ?_⟩
        simp [eqGuard, binOp, Op.equal, bool_eq a b hu]
      · exact h.elim
    · split at h
      · rename_i hu
        refine ⟨_, h, fun w => ?_⟩
        simp [eqGuard, binOp, Op.equal, bool_eq a b hu]
      · exact h.elim
    · exact h.elim
theorem opD_run {ρ : Env} {o : Oper} {sh : Sh} {X : Option (Nat → Prop)} {w0 : World} {K : Value → Prop} {a : Act} (hA : ∀ t v, ρ t = some v → t < n ∧ a.tmps.getD t undef = v) (h : opD P ρ o sh X w0 K) :
    ∃ v, K v ∧ ∀ w, (isPure o.op = true ∨ ExtO X w0 w) → (execOp a.eval o).run P w = .ok (.value v) w := by
  unfold opD at h
  split at h
  case h_1 x ho => exact ⟨_, ev_inv hA h, fun w _ => by simp only [execOp, ho]; rfl⟩
  case h_2 x ho => exact ⟨_, ev_inv hA h, fun w _ => by simp only [execOp, ho]; rfl⟩
  case h_3 c x y ho =>
    replace h := ev_inv hA h
    split at h
    · rename_i b hb
      split at h
      · exact ⟨_, ev_inv hA h, fun w _ => by simp [execOp, ho, asBool, hb]⟩
      · exact ⟨_, ev_inv hA h, fun w _ => by simp [execOp, ho, asBool, hb]⟩
    · exact h.elim
  case h_4 t x ho =>
    replace h := ev_inv hA h
    split at h
    · rename_i p hx
      split at h
      · split at h
        · rename_i hok
          obtain ⟨b, o', rfl, h⟩ := ptAt_inv h
          obtain ⟨h, hX⟩ := LdO.inv h
          obtain ⟨v, hK, hr⟩ := ldP_ext (E := ExtO X w0) (fun w o v hx hc => hX w0 w o v hx hc) hok h
          refine ⟨v, hK, fun w hw => ?_⟩
          rcases hw with hw | hw
          · simp [isPure, ho] at hw
          · exact yv (s := Instr.loadAt t (a.eval x)) (by simp [execOp, ho]) (by rw [hx]; exact hr w hw)
        · exact h.elim
      · exact h.elim
    · exact h.elim
  case h_5 x ho =>
    replace h := ev_inv hA h
    split at h
    · rename_i p hx
      obtain ⟨b, o', rfl, h⟩ := ptAt_inv h
      exact ⟨_, h, fun w _ => by simp [execOp, ho, hx]⟩
    · exact h.elim
  case h_6 op t x y yt ho =>
    replace h := ev_inv hA (ev_inv hA h)
    split at h
    · rename_i k p k' q hx hy
      obtain ⟨v, hK, hr⟩ := bin_any (.inl ⟨_, _, _, _, rfl, rfl⟩) h
      exact ⟨v, hK, fun w _ => yv (s := do eqGuard op t x y (a.eval x) (a.eval y); binOp op t (a.eval x) (a.eval y)) (by simp only [execOp, ho]) (by rw [hx, hy]; exact hr w)⟩
    · rename_i p q hx hy
      obtain ⟨v, hK, hr⟩ := bin_any (.inr ⟨_, _, rfl, rfl⟩) h
      exact ⟨v, hK, fun w _ => yv (s := do eqGuard op t x y (a.eval x) (a.eval y); binOp op t (a.eval x) (a.eval y)) (by simp only [execOp, ho]) (by rw [hx, hy]; exact hr w)⟩
    · obtain ⟨v, hr, hK⟩ := Sh.ex_inv h
      exact ⟨v, hK, fun w _ => yv (s := do eqGuard op t x y (a.eval x) (a.eval y); binOp op t (a.eval x) (a.eval y)) (by simp only [execOp, ho]) (hr w)⟩
  case h_7 op t x ho =>
    replace h := ev_inv hA h
    have hex : execOp a.eval o = (do pure (Next.value (← Op.unary op (a.eval x)))) := by simp only [execOp, ho]
    split at h
    · rename_i b hx
      exact ⟨_, h, fun w _ => yv hex (by rw [hx]; simp [Op.unary])⟩
    · rename_i k m hx
      exact ⟨_, h, fun w _ => yv hex (by rw [hx]; simp [Op.unary, Op.intArith])⟩
    · exact h.elim
  case h_8 s x f ho =>
    replace h := ev_inv hA h
    split at h
    · rename_i p hx
      split at h
      · rename_i off hoff
        obtain ⟨b, o', rfl, h⟩ := ptAt_inv h
        refine ⟨_, h, fun w _ => yv (s := Instr.fieldAt s (a.eval x) f) (by simp only [execOp, ho]) ?_⟩
        unfold fieldOff at hoff
        split at hoff
        · rename_i fs hu
          split at hoff
          · rename_i fd hfd
            split at hoff
            · rename_i i hi
              split at hoff
              · cases hoff
              · rename_i m hm
                cases hoff
                have hne : ¬ i.size = 0 := by omega
                rw [hx]
                simp only [Instr.fieldAt, Instr.sureAddr, Sem.run_bind, run_und w hu, Result.andThen_ok, hfd, Sem.run_pure, fieldPlace, info_of_size hi w, if_neg hne, Addr.add_mid]
            · cases hoff
          · cases hoff
        · cases hoff
      · exact h.elim
    · exact h.elim
  case h_9 t x i ho =>
    replace h := ev_inv hA (ev_inv hA h)
    have hex : execOp a.eval o = (do pure (Next.value (← Instr.indexAt t (a.eval x) (a.eval i)))) := by simp only [execOp, ho]
    split at h
    · rename_i k m hi
      split at h
      · rename_i p len c hx
        split at h
        · rename_i e size he
          obtain ⟨h1, h2, h⟩ := h
          obtain ⟨b, o', rfl, h3⟩ := ptAt_inv h
          unfold elemOfSl at he
          split at he
          · rename_i e' hu
            split at he
            · rename_i j hj
              simp only [Option.some.injEq, Prod.mk.injEq] at he
              obtain ⟨rfl, rfl⟩ := he
              refine ⟨_, h3, fun w _ => yv hex ?_⟩
              rw [hx, hi]
              simp [Instr.indexAt, asIntOf, run_und w hu, h1, h2, info_of_size hj w, Addr.add_mid]
            · cases he
          · cases he
        · exact h.elim
      · rename_i p hx
        split at h
        · rename_i len size he
          obtain ⟨h1, h2, h⟩ := h
          obtain ⟨b, o', rfl, h3⟩ := ptAt_inv h
          unfold arrOf at he
          split at he
          · rename_i len' e' hu
            split at he
            · rename_i j hj
              simp only [Option.some.injEq, Prod.mk.injEq] at he
              obtain ⟨rfl, rfl⟩ := he
              refine ⟨_, h3, fun w _ => yv hex ?_⟩
              rw [hx, hi]
              simp [Instr.indexAt, asIntOf, run_und w hu, Instr.sureAddr, h1, h2, info_of_size hj w, Addr.add_mid]
            · cases he
          · cases he
        · exact h.elim
      · exact h.elim
    · exact h.elim
  case h_10 t x i ok ho =>
    replace h := ev_inv hA (ev_inv hA h)
    obtain ⟨v, hr, hK⟩ := runS_yl h
    refine ⟨v, hK, fun w hw => ?_⟩
    rcases hw with hw | hw
    · simp [isPure, ho] at hw
    · exact yv (s := Instr.lookup t (a.eval x) (a.eval i) ok) (by simp only [execOp, ho]) (hr w hw)
  case h_11 t i ho =>
    replace h := ev_inv hA h
    split at h
    · rename_i vs hx
      split at h
      · rename_i u hu
        exact ⟨_, h, fun w _ => yv (s := Instr.extract (a.eval t) i) (by simp only [execOp, ho]) (by rw [hx]; simp [Instr.extract, hu])⟩
      · exact h.elim
    · exact h.elim
  case h_12 t parts ho =>
    replace h := evp_inv hA h
    have hp : (parts.map fun (i, x) => (i, a.eval x)).toList = parts.toList.map fun (i, x) => (i, a.eval x) := by simp
    rw [← hp] at h
    have hex : execOp a.eval o = (do pure (Next.value (← Instr.build t (parts.map fun (i, x) => (i, a.eval x))))) := by simp only [execOp, ho]
    generalize (parts.map fun (i, x) => (i, a.eval x)) = q at h hex
    clear hp
    split at h
    · rename_i z hz
      unfold zeroOf at hz
      split at hz
      · rename_i i hi
        split at h
        · rename_i fs hu
          split at h
          · rename_i pl hpl
            split at h
            · rename_i cs hf
              refine ⟨_, h, fun w _ => yv hex ?_⟩
              have hm : (fs.mapM fun f => (do pure (f.offset, ← sizeOf f.type) : Sem (Nat × Nat))).run P w = .ok pl.toArray w := by
                rw [Array.mapM_eq_mapM_toList, Sem.run_map, run_plc _ _ hpl w]; rfl
              simp only [Instr.build, zeroValue, typeInfo, program, Sem.run_bind, Sem.run, hi, hz, Result.andThen_ok, Sem.run_pure, run_und w hu, hm, List.getElem?_toArray, hf]
            · exact h.elim
          · exact h.elim
        · exact h.elim
      · cases hz
    · exact h.elim
  case h_13 c ho =>
    replace h := evs_inv hA h
    have hm : c.args.map a.eval = ⟨c.args.toList.map a.eval⟩ := map_arr _ _
    generalize hvs : c.args.toList.map a.eval = vs at h hm
    have hx : ∀ b, c.callee = .builtin b → ∃ cs, execOp a.eval o = builtin b c.argTypes o.type cs ⟨vs⟩ := by
      intro b hc
      simp only [execOp, ho, resolve, hc, hm]
      exact ⟨_, rfl⟩
    split at h
    · rename_i hc
      obtain ⟨cs, he⟩ := hx _ hc
      split at h
      · rename_i s nn cc
        split at h
        · rename_i e hu
          refine ⟨_, h, fun w _ => yv he ?_⟩
          obtain ⟨t, ht, hu⟩ := Option.bind_eq_some_iff.1 hu
          simp [Builtin.len_, ht, run_und w hu, goInt]
        · exact h.elim
      · exact h.elim
    · rename_i hc
      obtain ⟨cs, he⟩ := hx _ hc
      split at h
      · obtain ⟨z, hz, hK⟩ := foldI_max h
        exact ⟨_, hK, fun w _ => yv he (by simpa [Builtin.max_] using hz w)⟩
      · exact h.elim
    · rename_i hc
      obtain ⟨cs, he⟩ := hx _ hc
      split at h
      · obtain ⟨z, hz, hK⟩ := foldI_min h
        exact ⟨_, hK, fun w _ => yv he (by simpa [Builtin.min_] using hz w)⟩
      · exact h.elim
    · exact h.elim
  case h_14 => exact h.elim
theorem okQ_inv {cls : List Nat} {listed : Array Bool} {i : Nat} {o : Oper} (h : okQ ops cls listed i o = true) :
    Region.noSelect ops = true ∧ Region.free .any ops listed i = true ∧ i ∈ Region.ready .any ops listed ∧ isLate cls i = false ∧
    (isPure o.op = true ∨ ∀ j, isLate cls j = true → j < ops.size → ∃ f, waits ops f j i = true) := by
  unfold okQ at h
  simp only [Bool.and_eq_true, Bool.or_eq_true, Bool.not_eq_true', List.all_eq_true, List.mem_range] at h
  refine ⟨h.1.1.1.1, h.1.1.1.2, by simpa using h.1.1.2, h.1.2, h.2.imp id fun hw j hj hlt => ?_⟩
  rcases hw j hlt with h1 | h1
  · rw [hj] at h1; cases h1
  · exact ⟨_, h1⟩
theorem beqL_eq : ∀ {a b : List Nat}, beqL a b = true → a = b
  | [], [], _ => rfl
  | [], _ :: _, h => by cases h
  | _ :: _, [], h => by cases h
  | a :: as, b :: bs, h => by
    unfold beqL at h
    split at h
    · rename_i e; rw [Nat.eq_of_beq_eq_true e, beqL_eq h]
    · cases h
theorem okN_inv {listed : Array Bool} {pre : List Nat} {i : Nat} (h : okN ops listed pre i = true) : Region.ready .any ops listed = pre ++ [i] := beqL_eq h
theorem okE_inv {listed : Array Bool} (h : okE ops listed = true) : Region.ready .any ops listed = [] := by
  unfold okE at h
  split at h
  · assumption
  · cases h
theorem late_lo {cls : List Nat} {i : Nat} (h : Nat.ble 2 (clsOf cls i) = false) : isLate cls i = false := by
  cases hl : isLate cls i with
  | false => rfl
  | true =>
    unfold isLate at hl
    have h1 := Nat.le_of_ble_eq_true hl
    have h2 : Nat.ble 2 (clsOf cls i) = true := Nat.ble_eq_true_of_le (by omega)
    rw [h] at h2; cases h2
/-- One operation, and what is behind it. -/
def Stp (P : Program) (ops : Array Oper) (Q : Exit → Act → World → Prop) (S : World → Prop) (c3 : Nat → Bool) (fuel : Nat) (listed : Array Bool) (a : Act) (w : World) (i : Nat) : Prop :=
  wpOp P ops Q i (fun a' w' => (noC3 c3 (listed.setIfInBounds i true) → S w') ∧ wpAnyC P ops Q S c3 fuel (listed.setIfInBounds i true) a' w') a w
theorem wpAnyC_end {fuel : Nat} {listed : Array Bool} {a : Act} {w : World} (h : Region.ready .any ops listed = []) (hq : Q .normal a w) : wpAnyC P ops Q S c3 fuel listed a w := by
  cases fuel with
  | zero => exact ⟨h, hq⟩
  | succ f => exact ⟨fun _ => hq, fun i hi => by rw [h] at hi; cases hi⟩
theorem denD_wp {cls : List Nat} {X : Option (Nat → Prop)} {w0 : World} (a0 : Act) (hQ : ∀ c a w, ¬ Q (.panic c) a w) : ∀ (t : Tr) (pre : List Nat) (fuel : Nat) (listed : Array Bool) (ρ : Env) (w : World) (K : Env → World → Prop) (a : Act), Tr.dep t ≤ fuel → Ag n ρ a →
    Down ops listed → listed.size = ops.size → (noC3 (isLate cls) listed → ExtO X w0 w) → denD P T n ops cls X w0 t pre listed ρ w K → Pr (ops.toList.filterMap (·.dst)) a0 a →
    (∀ ρ' w' a', Ag n ρ' a' → Pr (ops.toList.filterMap (·.dst)) a0 a' → K ρ' w' → Q .normal a' w') →
    (pre = [] ∧ wpAnyC P ops Q (ExtO X w0) (isLate cls) fuel listed a w) ∨ (∃ hs f, hs ≠ [] ∧ fuel = f + 1 ∧ Region.ready .any ops listed = pre ++ hs ∧ ∀ i ∈ hs, Stp P ops Q (ExtO X w0) (isLate cls) f listed a w i) := by
  intro t
  have both : ∀ {t : Tr} {fuel : Nat} {listed : Array Bool} {a : Act} {w : World}, ((([] : List Nat) = [] ∧ wpAnyC P ops Q (ExtO X w0) (isLate cls) fuel listed a w) ∨ (∃ hs f, hs ≠ [] ∧ fuel = f + 1 ∧ Region.ready .any ops listed = [] ++ hs ∧ ∀ i ∈ hs, Stp P ops Q (ExtO X w0) (isLate cls) f listed a w i)) →
      wpAnyC P ops Q (ExtO X w0) (isLate cls) fuel listed a w := by
    intro t fuel listed a w h
    rcases h with h | ⟨hs, f, hne, rfl, hr, hst⟩
    · exact h.2
    · rw [List.nil_append] at hr
      exact ⟨fun e => absurd (hr.symm.trans e) hne, fun i hi => hst i (by rw [← hr]; exact hi)⟩
  have dsub : ∀ {i : Nat} {o : Oper}, ops[i]? = some o → ∀ t, t ∈ o.dst.toList → t ∈ ops.toList.filterMap (·.dst) := fun {i o} ho t ht => by
    cases hd' : o.dst with
    | none => simp [hd'] at ht
    | some d =>
      simp [hd'] at ht
      subst ht
      exact List.mem_filterMap.2 ⟨o, by rw [Array.mem_toList_iff]; exact Array.mem_of_getElem? ho, hd'⟩
  -- one that is taken alone, or in turn
  have hloud : ∀ {i : Nat} {o : Oper} {f : Nat} {listed : Array Bool} {ρ : Env} {w : World} {a : Act} {go : Env → World → Prop}, ops[i]? = some o → Ag n ρ a → Pr (ops.toList.filterMap (·.dst)) a0 a → listed.size = ops.size →
      (noC3 (isLate cls) listed → ExtO X w0 w) → loud P T n ops (isLate cls i) X w0 i o ρ w go →
      (∀ ρ' w' a', Ag n ρ' a' → Pr (ops.toList.filterMap (·.dst)) a0 a' → (noC3 (isLate cls) (listed.setIfInBounds i true) → ExtO X w0 w') → go ρ' w' → wpAnyC P ops Q (ExtO X w0) (isLate cls) f (listed.setIfInBounds i true) a' w') →
      Stp P ops Q (ExtO X w0) (isLate cls) f listed a w i := by
    intro i o f listed ρ w a go ho hA hp hs hE hl hgo
    have hin : i < listed.size := by rw [hs]; exact (Array.getElem?_eq_some_iff.1 ho).1
    have hsub := dsub ho
    unfold loud at hl
    unfold Stp
    obtain ⟨ρ1, hA1, ⟨hw, hr⟩ | ⟨hw, hr⟩⟩ := grd_inv hA hl
    · unfold wpOp
      simp only [ho, hw, if_true]
      refine .inl (Oper.wp_mono ?_ (op_wp hA1.on hr))
      rintro a' w' ⟨v, rfl, hv⟩
      have hv' : (isLate cls i = false → ExtO X w0 w') ∧ putE n ρ1 o.dst v fun ρ' => go ρ' w' := by
        split at hv
        · rename_i e; exact ⟨fun h => by (rw [e] at h; cases h), hv⟩
        · exact ⟨fun _ => hv.1, hv.2⟩
      obtain ⟨ρ2, h2, hA2, hp2⟩ := ag_put hA1 hv'.2
      have hE' : noC3 (isLate cls) (listed.setIfInBounds i true) → ExtO X w0 w' := fun hn => by
        refine hv'.1 ?_
        cases hl : isLate cls i with
        | false => rfl
        | true =>
          have := hn i hl
          simp [hin] at this
      exact ⟨hE', hgo ρ2 w' _ hA2 (hp.trans (hp2.mono hsub)) hE' h2⟩
    · unfold wpOp
      simp only [ho, hw, if_false, Bool.false_eq_true]
      obtain ⟨ρ2, h2, hA2, hp2⟩ := ag_put hA1 hr
      have hE' : noC3 (isLate cls) (listed.setIfInBounds i true) → ExtO X w0 w := fun h => hE (noC3_sub h)
      exact ⟨hE', hgo ρ2 w _ hA2 (hp.trans (hp2.mono hsub)) hE' h2⟩
  induction t with
  | nil =>
    intro pre fuel listed ρ w K a hf hA hd hs hE h hp hK
    unfold denD at h
    split at h
    · split at h
      · rename_i he
        exact .inl ⟨rfl, wpAnyC_end (okE_inv he) (hK _ _ _ hA hp h)⟩
      · exact h.elim
    · exact h.elim
  | op i t ih =>
    intro pre fuel listed ρ w K a hf hA hd hs hE h hp hK
    unfold denD at h
    obtain ⟨fuel, rfl⟩ : ∃ f, fuel = f + 1 := ⟨fuel - 1, by simp only [Tr.dep] at hf; omega⟩
    have hft : Tr.dep t ≤ fuel := by simp only [Tr.dep] at hf; omega
    split at h
    · exact h.elim
    · rename_i o ho
      have hset : (listed.setIfInBounds i true).size = ops.size := by simpa using hs
      split at h
      · rename_i hlo
        split at h
        case h_2 => exact h.elim
        split at h
        case h_2 => exact h.elim
        rename_i hok
        refine .inl ⟨rfl, ?_⟩
        have hsub := dsub ho
        obtain ⟨hsel, hfree, hready, hlate, hpw⟩ := okQ_inv hok
        have hn : noC3 (isLate cls) listed ∨ isPure o.op = true := by
          rcases hpw with hpu | hwt
          · exact .inr hpu
          · refine .inl fun j hj => ?_
            cases hl : listed.getD j false with
            | false => rfl
            | true =>
              have hjs : j < ops.size := by
                rw [← hs]
                rcases Nat.lt_or_ge j listed.size with h' | h'
                · exact h'
                · simp [Array.getElem?_eq_none h'] at hl
              obtain ⟨f, hf⟩ := hwt j hj hjs
              have := waits_listed hd f j i hl hf
              rw [ready_un hready] at this
              cases this
        have hE' : noC3 (isLate cls) (listed.setIfInBounds i true) → ExtO X w0 w := fun h => hE (noC3_sub h)
        obtain ⟨ρ1, hA1, ⟨hw, hr⟩ | ⟨hw, hr⟩⟩ := grd_inv hA h
        · obtain ⟨v, hv, hrun⟩ := opD_run hA1.on hr
          obtain ⟨ρ2, h2, hA2, hp2⟩ := ag_put hA1 hv
          have hnext := both (t := t) (ih [] fuel _ ρ2 w K _ hft hA2 (down_add hd hready) hset hE' h2 (hp.trans (hp2.mono hsub)) hK)
          by_cases hpu : isPure o.op = true
          · exact firstC (R := fun _ => True) ho (Region.noSelect_spec hsel) (fun c a w h => absurd h (hQ _ _ _)) hlate (.inl fun _ => trivial) _ listed a w hd hs (Region.free_spec ho hfree) hready
              (.inl ⟨hw, fun w' _ => hrun w' (.inl hpu)⟩) trivial hE hnext
          · exact firstC (R := ExtO X w0) ho (Region.noSelect_spec hsel) (fun c a w h => absurd h (hQ _ _ _)) hlate (.inr ⟨fun _ h => h, hpw.resolve_left hpu⟩) _ listed a w hd hs (Region.free_spec ho hfree) hready
              (.inl ⟨hw, fun w' hw' => hrun w' (.inr hw')⟩) (hE (hn.resolve_right hpu)) hE hnext
        · obtain ⟨ρ2, h2, hA2, hp2⟩ := ag_put hA1 hr
          have hnext := both (t := t) (ih [] fuel _ _ w K _ hft hA2 (down_add hd hready) hset hE' h2 (hp.trans (hp2.mono hsub)) hK)
          exact firstC (R := fun _ => True) ho (Region.noSelect_spec hsel) (fun c a w h => absurd h (hQ _ _ _)) hlate (.inl fun _ => trivial) _ listed a w hd hs (Region.free_spec ho hfree) hready
            (.inr ⟨hw, rfl⟩) trivial hE hnext
      · split at h
        case h_2 => exact h.elim
        rename_i hok
        have hrd := okN_inv hok
        have hready : i ∈ Region.ready .any ops listed := by rw [hrd]; simp
        refine .inr ⟨[i], fuel, by simp, rfl, hrd, fun j hj => ?_⟩
        rw [List.mem_singleton] at hj
        subst hj
        exact hloud ho hA hp hs hE h fun ρ' w' a' hA' hp' hE' hg => both (t := t) (ih [] fuel _ ρ' w' K a' hft hA' (down_add hd hready) hset hE' hg hp' hK)
  | alt i t u iht ihu =>
    intro pre fuel listed ρ w K a hf hA hd hs hE h hp hK
    unfold denD at h
    obtain ⟨fuel, rfl⟩ : ∃ f, fuel = f + 1 := ⟨fuel - 1, by simp only [Tr.dep] at hf; omega⟩
    have hft : Tr.dep t ≤ fuel := by simp only [Tr.dep] at hf; omega
    have hfu : Tr.dep u ≤ fuel + 1 := by simp only [Tr.dep] at hf; omega
    split at h
    · exact h.elim
    · rename_i o ho
      have hset : (listed.setIfInBounds i true).size = ops.size := by simpa using hs
      split at h
      · exact h.elim
      · obtain ⟨h1, h2⟩ := h
        rcases ihu (pre ++ [i]) (fuel + 1) listed ρ w K a hfu hA hd hs hE h2 hp hK with ⟨e, _⟩ | ⟨hs', f, hne, hf', hrd, hst⟩
        · simp at e
        · have hff : fuel = f := by omega
          subst hff
          have hready : i ∈ Region.ready .any ops listed := by rw [hrd]; simp
          refine .inr ⟨i :: hs', fuel, by simp, rfl, by rw [hrd]; simp, fun j hj => ?_⟩
          rcases List.mem_cons.1 hj with rfl | hj
          · exact hloud ho hA hp hs hE h1 fun ρ' w' a' hA' hp' hE' hg => both (t := t) (iht [] fuel _ ρ' w' K a' hft hA' (down_add hd hready) hset hE' hg hp' hK)
          · exact hst j hj
theorem denD_any {cls : List Nat} {X : Option (Nat → Prop)} {w0 : World} (a0 : Act) (hQ : ∀ c a w, ¬ Q (.panic c) a w) {t : Tr} {fuel : Nat} {listed : Array Bool} {ρ : Env} {w : World} {K : Env → World → Prop} {a : Act} (hf : Tr.dep t ≤ fuel) (hA : Ag n ρ a)
    (hd : Down ops listed) (hs : listed.size = ops.size) (hE : noC3 (isLate cls) listed → ExtO X w0 w) (h : denD P T n ops cls X w0 t [] listed ρ w K) (hp : Pr (ops.toList.filterMap (·.dst)) a0 a)
    (hK : ∀ ρ' w' a', Ag n ρ' a' → Pr (ops.toList.filterMap (·.dst)) a0 a' → K ρ' w' → Q .normal a' w') : wpAnyC P ops Q (ExtO X w0) (isLate cls) fuel listed a w := by
  rcases denD_wp a0 hQ t [] fuel listed ρ w K a hf hA hd hs hE h hp hK with h | ⟨hs, f, hne, rfl, hr, hst⟩
  · exact h.2
  · rw [List.nil_append] at hr
    exact ⟨fun e => absurd (hr.symm.trans e) hne, fun i hi => hst i (by rw [← hr]; exact hi)⟩
theorem drawn (hmix : P.follows .mixedOrders = true) : Drawn P T n := by
  intro ops cls X id t ρ w K a Q hA h hK
  unfold denR at h
  split at h
  case h_2 => exact h.elim
  rename_i hlen
  have hlen := Nat.le_of_ble_eq_true hlen
  have hsz : (Array.replicate ops.size false).size = ops.size := by simp
  have h0 : ∀ j, (Array.replicate ops.size false).getD j false = false := by
    intro j
    simp only [Array.getD_eq_getD_getElem?, Array.getElem?_replicate]
    split <;> rfl
  have hdown : Down ops (Array.replicate ops.size false) := by
    intro j o hj
    rw [h0] at hj
    cases hj
  have key := denD_any (Q := fun e a w => (∀ c, e ≠ .panic c) ∧ Q e a w) (T := T) (P := P) (n := n) (w0 := w.drew) a (fun c a w h => h.1 c rfl) hlen hA hdown hsz (fun _ => ExtO.refl _ _) h (Pr.refl _ _)
    (fun ρ' w' a' hA' hp hk => ⟨fun c => by simp, hK ρ' w' a' hA' hp hk⟩)
  have key := wpAny_of_C _ _ _ _ key
  exact wp_mono (wp_region_any hmix key) (fun e a w h => h.2)
end
end Go.Pl

/- Memory of a call's own, as a list of blocks; slices that are appended to; what is read of arguments. -/
namespace Go.Pl
set_option linter.unusedVariables false

abbrev Cl (e : TypeId) (vs : List Value) : Obj := .cells ⟨vs⟩ e (0, 0)
def splice (old : List Value) (o : Nat) (vs : List Value) : List Value := old.take o ++ vs ++ old.drop (o + vs.length)
theorem splice_length {old vs : List Value} {o : Nat} (h : o + vs.length ≤ old.length) : (splice old o vs).length = old.length := by
  simp [splice]; omega
theorem splice_nil (old : List Value) (o : Nat) : splice old o [] = old := by simp [splice]
theorem splice_cons {old vs : List Value} {o : Nat} {v : Value} (h : o < old.length) : splice (old.set o v) (o + 1) vs = splice old o (v :: vs) := by
  simp only [splice, List.length_cons]
  rw [List.drop_set_of_lt (by omega)]
  have : (old.set o v).take (o + 1) = old.take o ++ [v] := by
    rw [List.take_set, List.take_add_one, List.set_append]
    simp [List.length_take, Nat.min_eq_left (Nat.le_of_lt h), List.getElem?_eq_getElem h]
  rw [this]
  simp [Nat.add_comm, Nat.add_left_comm]
theorem setCell_heap (w : World) (b o : Nat) (v : Value) (vs : List Value) (e : TypeId) (fr : Nat × Nat) (h : w.heap[b]? = some (.cells ⟨vs⟩ e fr)) :
    (w.setCell ⟨b, o, none⟩ v).heap[b]? = some (.cells ⟨vs.set o v⟩ e fr) := by
  simp [World.setCell, Array.getElem?_modify, h]
theorem setCell_other (w : World) (b o k : Nat) (v : Value) (h : k ≠ b) : (w.setCell ⟨b, o, none⟩ v).heap[k]? = w.heap[k]? := by
  simp [World.setCell, Array.getElem?_modify, Ne.symm h]
theorem setCell_size (w : World) (a : Addr) (v : Value) : (w.setCell a v).heap.size = w.heap.size := by simp [World.setCell]
theorem setCells_heap (b : Nat) (e : TypeId) (fr : Nat × Nat) : ∀ (vs : List Value) (o : Nat) (w : World) (old : List Value), w.heap[b]? = some (.cells ⟨old⟩ e fr) → o + vs.length ≤ old.length →
    (w.setCells b o vs).heap[b]? = some (.cells ⟨splice old o vs⟩ e fr) ∧ (w.setCells b o vs).heap.size = w.heap.size ∧ (∀ k, k ≠ b → (w.setCells b o vs).heap[k]? = w.heap[k]?) ∧ (w.setCells b o vs).os = w.os ∧ (w.setCells b o vs).output = w.output
  | [], o, w, old, h, _ => by simp [World.setCells, splice_nil, h]
  | v :: vs, o, w, old, h, hl => by
    simp only [List.length_cons] at hl
    have h1 := setCell_heap w b o v old e fr h
    obtain ⟨h2, h3, h4⟩ := setCells_heap b e fr vs (o + 1) (w.setCell ⟨b, o, none⟩ v) (old.set o v) h1 (by simp; omega)
    simp only [World.setCells]
    refine ⟨?_, ?_, ?_, ?_, ?_⟩
    · rw [h2, splice_cons (by omega)]
    · rw [h3, setCell_size]
    · intro k hk; rw [h4.1 k hk, setCell_other w b o k v hk]
    · rw [h4.2.1]; rfl
    · rw [h4.2.2]; rfl
theorem cel_of {w : World} {b o : Nat} {vs : List Value} {e : TypeId} {fr : Nat × Nat} {v : Value} (h : w.heap[b]? = some (.cells ⟨vs⟩ e fr)) (hv : vs[o]? = some v) : cel w b o = some v := by
  simp [cel, World.cell?, h, hv]
theorem there_of {w : World} {b o n : Nat} {vs : List Value} {e : TypeId} (h : w.heap[b]? = some (Cl e vs)) (hn : o + n ≤ vs.length) : w.there b o n := by
  intro j hj
  have : o + j < vs.length := by omega
  refine ⟨?_, by simp [World.frozen?, h]⟩
  simp [World.cell?, h, List.getElem?_eq_getElem this]

/-- w is w0 with new blocks; among these are the blocks of 'L', as 'L' has them. -/
structure Hp (w0 w : World) (L : List (Nat × Obj)) : Prop where
  ext : Ext w0 w
  nd : (L.map Prod.fst).Nodup
  own : ∀ p ∈ L, w0.heap.size ≤ p.1 ∧ w.heap[p.1]? = some p.2
section
variable {w0 w w1 : World} {L L' : List (Nat × Obj)}
theorem Hp.refl (w : World) : Hp w w [] := ⟨Ext.refl w, by simp, by simp⟩
theorem Hp.at (h : Hp w0 w L) (i : Nat) {b : Nat} {o : Obj} (hi : L[i]? = some (b, o)) : w.heap[b]? = some o := (h.own (b, o) (List.mem_of_getElem? hi)).2
theorem Hp.cl (h : Hp w0 w L) (i : Nat) {b : Nat} {e : TypeId} {vs : List Value} (hi : L[i]? = some (b, Cl e vs)) {o : Nat} {v : Value} (hv : vs[o]? = some v) : cel w b o = some v :=
  cel_of (h.at i hi) hv
theorem Hp.lt (h : Hp w0 w L) {p : Nat × Obj} (hp : p ∈ L) : p.1 < w.heap.size := (Array.getElem?_eq_some_iff.1 (h.own p hp).2).1
theorem ext_alloc (w : World) (o : Obj) : Ext w (w.alloc o) := ⟨by simp, fun b hb => heap_alloc_old w o b hb, rfl, rfl⟩
theorem Hp.al (h : Hp w0 w L) (o : Obj) : Hp w0 (w.alloc o) ((w.heap.size, o) :: L) := by
  refine ⟨h.ext.trans (ext_alloc w o), ?_, ?_⟩
  · simp only [List.map_cons, List.nodup_cons]
    refine ⟨fun hm => ?_, h.nd⟩
    obtain ⟨p, hp, e⟩ := List.mem_map.1 hm
    have := h.lt hp
    omega
  · intro p hp
    rcases List.mem_cons.1 hp with rfl | hp
    · exact ⟨h.ext.size, heap_alloc_new w o⟩
    · obtain ⟨h1, h2⟩ := h.own p hp
      exact ⟨h1, by rw [(ext_alloc w o).blk _ (h.lt hp)]; exact h2⟩
theorem Hp.step (h : Hp w0 w L) (hx : Ext w w1) : Hp w0 w1 L :=
  ⟨h.ext.trans hx, h.nd, fun p hp => ⟨(h.own p hp).1, by rw [hx.blk _ (h.lt hp)]; exact (h.own p hp).2⟩⟩
/-- Behind a call that has made 'L''. -/
theorem Hp.call (h : Hp w0 w L) (h' : Hp w w1 L') : Hp w0 w1 (L' ++ L) := by
  refine ⟨h.ext.trans h'.ext, ?_, ?_⟩
  · rw [List.map_append, List.nodup_append]
    refine ⟨h'.nd, h.nd, ?_⟩
    intro a ha b hb e
    obtain ⟨p, hp, rfl⟩ := List.mem_map.1 ha
    obtain ⟨q, hq, rfl⟩ := List.mem_map.1 hb
    have := (h'.own p hp).1
    have := h.lt hq
    omega
  · intro p hp
    rcases List.mem_append.1 hp with hp | hp
    · exact ⟨Nat.le_trans h.ext.size (h'.own p hp).1, (h'.own p hp).2⟩
    · exact (h.step h'.ext).own p hp
theorem Hp.sub (h : Hp w0 w L) (hs : L'.Sublist L) : Hp w0 w L' :=
  ⟨h.ext, h.nd.sublist (hs.map _), fun p hp => h.own p (hs.subset hp)⟩
theorem Hp.perm (h : Hp w0 w L) (hs : L.Perm L') : Hp w0 w L' :=
  ⟨h.ext, (hs.map _).nodup_iff.1 h.nd, fun p hp => h.own p (hs.mem_iff.2 hp)⟩
theorem Hp.drew (h : Hp w0 w L) : Hp w0 w.drew L := h.step ⟨Nat.le_refl _, fun _ _ => rfl, rfl, rfl⟩
theorem ext_drew (w : World) : Ext w w.drew := ⟨Nat.le_refl _, fun _ _ => rfl, rfl, rfl⟩
/-- One block of the call's own turns. -/
theorem Hp.turn (h : Hp w0 w L) (i : Nat) {b : Nat} {o o' : Obj} (hi : L[i]? = some (b, o)) (hs : w1.heap.size = w.heap.size) (hb : w1.heap[b]? = some o') (hkq : (∀ k, k ≠ b → w1.heap[k]? = w.heap[k]?) ∧ w1.os = w.os ∧ w1.output = w.output) :
    Hp w0 w1 (L.set i (b, o')) := by
  obtain ⟨hk, hq1, hq2⟩ := hkq
  have hmem := List.mem_of_getElem? hi
  have hlt := (List.getElem?_eq_some_iff.1 hi).1
  have hge := (h.own _ hmem).1
  refine ⟨⟨by rw [hs]; exact h.ext.size, fun k hk' => ?_, hq1.trans h.ext.os, hq2.trans h.ext.out⟩, ?_, ?_⟩
  · rw [hk k (by simp at hge; omega)]; exact h.ext.blk k hk'
  · have : (L.set i (b, o')).map Prod.fst = L.map Prod.fst := by
      rw [List.map_set]
      apply List.ext_getElem?
      intro j
      rw [List.getElem?_set]
      split
      · rename_i e; subst e
        have hib := (List.getElem?_eq_some_iff.1 hi).2
        simp [hlt, hib]
      · rfl
    rw [this]; exact h.nd
  · intro p hp
    obtain ⟨j, hj⟩ := List.mem_iff_getElem?.1 hp
    rw [List.getElem?_set] at hj
    split at hj
    · rename_i e
      first
        | (cases hj; exact ⟨hge, hb⟩)
        | (split at hj
           · cases hj; exact ⟨hge, hb⟩
           · cases hj)
    · rename_i e
      have hpm := List.mem_of_getElem? hj
      obtain ⟨h1, h2⟩ := h.own p hpm
      refine ⟨h1, ?_⟩
      rw [hk p.1 ?_]; exact h2
      intro heq
      -- two places of one block
      have hnd := List.pairwise_iff_getElem.1 h.nd
      have hj' := (List.getElem?_eq_some_iff.1 hj).1
      have hv : ∀ (m : Nat) (q : Nat × Obj) (hm : m < (L.map Prod.fst).length), L[m]? = some q → (L.map Prod.fst)[m] = q.1 := by
        intro m q hm hq
        rw [List.getElem_map, (List.getElem?_eq_some_iff.1 hq).2]
      rcases Nat.lt_or_gt_of_ne e with hlt' | hgt
      · exact hnd i j (by simpa using hlt) (by simpa using hj') hlt' (by rw [hv i _ _ hi, hv j _ _ hj]; exact heq.symm)
      · exact hnd j i (by simpa using hj') (by simpa using hlt) hgt (by rw [hv i _ _ hi, hv j _ _ hj]; exact heq)
theorem alp {e : TypeId} {vs : List Value} {G : Nat → World → Prop} (h : Hp w0 w L) (k : ∀ b w1, Hp w0 w1 ((b, Cl e vs) :: L) → G b w1) : AlP e vs w G := k _ _ (h.al _)
theorem alpx {e : TypeId} {vs : List Value} {G : Nat → World → Prop} (h : Hp w0 w L) (k : ∀ b w1, Ext w w1 → Hp w0 w1 ((b, Cl e vs) :: L) → G b w1) : AlP e vs w G := k _ _ (ext_alloc w _) (h.al _)
theorem alm {G : Nat → World → Prop} (h : Hp w0 w L) (k : ∀ b w1, Hp w0 w1 ((b, .map #[] 0) :: L) → G b w1) : AlM w G := k _ _ (h.al _)
theorem stp {b o : Nat} {vs old : List Value} {e : TypeId} {K : World → Prop} (h : Hp w0 w L) (i : Nat) (hi : L[i]? = some (b, Cl e old)) (hl : o + vs.length ≤ old.length) (h1 : vs.all (·.oneCell') = true)
    (k : ∀ w1, Hp w0 w1 (L.set i (b, Cl e (splice old o vs))) → K w1) : StP b o vs w K := by
  have hb := h.at i hi
  obtain ⟨h2, h3, h4⟩ := setCells_heap b e (0, 0) vs o w old hb hl
  exact ⟨there_of hb hl, h1, k _ (h.turn i hi h3 h2 h4)⟩
end
end Go.Pl
