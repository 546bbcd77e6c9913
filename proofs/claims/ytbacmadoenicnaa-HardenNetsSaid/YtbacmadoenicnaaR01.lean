/- Joined texts of the proof, part 1: Den, Den2, Den3. -/
import Derived.Orders
import Derived.Calls
import Derived.KernelRfl
import Derived.Deep.MidRow
import Derived.Laws.Cells
import Derived.Laws.Sem
import Derived.Laws.NewBlocks
import Derived.Lib.Strings
import Derived.OrdersHeld
set_option maxRecDepth 2000
set_option linter.unusedVariables false
set_option linter.unusedSimpArgs false
set_option linter.unusedSectionVars false
/- A reading of translated functions in plain propositions: 'den' turns a function's code, with a table of the kinds of its temporaries, into a proposition without frames; 'den_sound' says that the proposition gives the run. -/
namespace Go.Pl
set_option linter.unusedVariables false

inductive Kd where
  | int (k : IntKind) | bool | str | ptr | sl | map | any
/-- Functions of what a value of a kind is made of. -/
def Kd.Fn : Kd → Type → Type
  | .int _, R => Int → R
  | .bool, R => Bool → R
  | .str, R => ByteArray → R
  | .ptr, R => Option Addr → R
  | .sl, R => Option Addr → Nat → Nat → R
  | .map, R => Option Nat → R
  | .any, R => Value → R
def Kd.exV : Kd → (Value → Prop) → Prop
  | .int k, K => ∃ x : Int, K (.int k x)
  | .bool, K => ∃ x : Bool, K (.bool x)
  | .str, K => ∃ x : ByteArray, K (.string x)
  | .ptr, K => ∃ x : Option Addr, K (.pointer x)
  | .sl, K => ∃ (a : Option Addr) (n c : Nat), K (.slice a n c)
  | .map, K => ∃ x : Option Nat, K (.map x)
  | .any, K => ∃ x : Value, K x
theorem Kd.exV_inv {k : Kd} {K : Value → Prop} (h : k.exV K) : ∃ v, K v := by
  cases k <;> first
    | (obtain ⟨x, h⟩ := h; exact ⟨_, h⟩)
    | (obtain ⟨a, n, c, h⟩ := h; exact ⟨_, h⟩)
def ikEq : IntKind → IntKind → Bool
  | .i8, .i8 | .i16, .i16 | .i32, .i32 | .i64, .i64 | .u8, .u8 | .u16, .u16 | .u32, .u32 | .u64, .u64 => true
  | _, _ => false
theorem ikEq_eq {a b : IntKind} (h : ikEq a b = true) : a = b := by cases a <;> cases b <;> first | rfl | (simp [ikEq] at h)
def Kd.allF : (k : Kd) → {R : Type} → k.Fn R → (Value → R → Prop) → Prop
  | .int q, _, f, G => ∀ x : Int, G (.int q x) ((f : Int → _) x)
  | .bool, _, f, G => ∀ x : Bool, G (.bool x) ((f : Bool → _) x)
  | .str, _, f, G => ∀ x : ByteArray, G (.string x) ((f : ByteArray → _) x)
  | .ptr, _, f, G => ∀ x : Option Addr, G (.pointer x) ((f : Option Addr → _) x)
  | .sl, _, f, G => ∀ (a : Option Addr) (n c : Nat), G (.slice a n c) ((f : Option Addr → Nat → Nat → _) a n c)
  | .map, _, f, G => ∀ x : Option Nat, G (.map x) ((f : Option Nat → _) x)
  | .any, _, f, G => ∀ x : Value, G x ((f : Value → _) x)
/-- A function, at what a value is made of. -/
def Kd.appF : (k : Kd) → {R : Type} → k.Fn R → Value → (R → Prop) → Prop
  | .int q, _, f, .int q' x, K => match ikEq q q' with | true => K ((f : Int → _) x) | false => False
  | .bool, _, f, .bool x, K => K ((f : Bool → _) x)
  | .str, _, f, .string x, K => K ((f : ByteArray → _) x)
  | .ptr, _, f, .pointer p, K => K ((f : Option Addr → _) p)
  | .sl, _, f, .slice a n c, K => K ((f : Option Addr → Nat → Nat → _) a n c)
  | .map, _, f, .map x, K => K ((f : Option Nat → _) x)
  | .any, _, f, v, K => K ((f : Value → _) v)
  | _, _, _, _, _ => False
def Kd.mkF : (k : Kd) → {R : Type} → (Value → R) → k.Fn R
  | .int q, _, g => fun (x : Int) => g (.int q x)
  | .bool, _, g => fun (x : Bool) => g (.bool x)
  | .str, _, g => fun (x : ByteArray) => g (.string x)
  | .ptr, _, g => fun (x : Option Addr) => g (.pointer x)
  | .sl, _, g => fun (a : Option Addr) (n c : Nat) => g (.slice a n c)
  | .map, _, g => fun (x : Option Nat) => g (.map x)
  | .any, _, g => fun (x : Value) => g x
theorem Kd.app_mk {k : Kd} {R : Type} {g : Value → R} {v : Value} {K : R → Prop} (h : k.appF (k.mkF g) v K) : K (g v) := by
  cases k <;> cases v <;> simp only [Kd.appF, Kd.mkF] at h <;> first
    | exact h
    | exact h.elim
    | (split at h; · rename_i e; rw [← ikEq_eq e]; exact h
       · exact h.elim)
theorem Kd.all_mk {k : Kd} {R : Type} {g : Value → R} {G : Value → R → Prop} (h : ∀ v, G v (g v)) : k.allF (k.mkF g) G := by
  cases k <;> simp only [Kd.allF, Kd.mkF] <;> intros <;> exact h _
theorem Kd.all_app {k : Kd} {R : Type} {f : k.Fn R} {v : Value} {G : Value → R → Prop} {H : R → Prop} (h : k.allF f G) (hv : k.appF f v H) : ∃ r, G v r ∧ H r := by
  cases k <;> cases v <;> simp only [Kd.appF, Kd.allF] at h hv <;> first
    | exact ⟨_, h _, hv⟩
    | exact ⟨_, h _ _ _, hv⟩
    | exact hv.elim
    | (split at hv; · rename_i e; have e' := ikEq_eq e; subst e'; exact ⟨_, h _, hv⟩
       · exact hv.elim)

abbrev Env := Nat → Option Value
def upd (ρ : Env) (d : Nat) (v : Option Value) : Env := fun t => match Nat.beq t d with | true => v | false => ρ t
theorem upd_same (ρ : Env) (d : Nat) (v : Option Value) : upd ρ d v d = v := by
  simp [upd]
theorem upd_ne (ρ : Env) {d t : Nat} (v : Option Value) (h : t ≠ d) : upd ρ d v t = ρ t := by
  have : Nat.beq t d = false := by cases hb : Nat.beq t d with | false => rfl | true => exact absurd (Nat.eq_of_beq_eq_true hb) h
  simp [upd, this]
def clr (ws : List Nat) (ρ : Env) : Env := fun t => match ws.any (Nat.beq t) with | true => none | false => ρ t

inductive Sh1 where
  | one (k : Kd) | agg (ks : List Kd)
inductive Sh where
  | v (s : Sh1) | t (ss : List Sh1)
def exL : List Kd → (List Value → Prop) → Prop
  | [], K => K []
  | k :: ks, K => k.exV fun v => exL ks fun vs => K (v :: vs)
def Sh1.ex : Sh1 → (Value → Prop) → Prop
  | .one k, K => k.exV K
  | .agg ks, K => exL ks fun vs => K (.agg ⟨vs⟩)
def exS : List Sh1 → (List Value → Prop) → Prop
  | [], K => K []
  | s :: ss, K => s.ex fun v => exS ss fun vs => K (v :: vs)
def Sh.ex : Sh → (Value → Prop) → Prop
  | .v s, K => s.ex K
  | .t ss, K => exS ss fun vs => K (.tuple ⟨vs⟩)
theorem exL_len : ∀ {ks : List Kd} {Q : List Value → Prop}, exL ks Q → ∃ vs, vs.length = ks.length ∧ Q vs
  | [], Q, h => ⟨[], rfl, h⟩
  | k :: ks, Q, h => let ⟨v, h⟩ := Kd.exV_inv h; let ⟨vs, h1, h2⟩ := exL_len h; ⟨_, by simp [h1], h2⟩
theorem exL_inv {ks : List Kd} {K : List Value → Prop} (h : exL ks K) : ∃ vs, K vs := let ⟨vs, _, h⟩ := exL_len h; ⟨vs, h⟩
theorem Sh1.ex_inv {s : Sh1} {K : Value → Prop} (h : s.ex K) : ∃ v, K v := by
  cases s with
  | one k => exact Kd.exV_inv h
  | agg ks => obtain ⟨vs, h⟩ := exL_inv h; exact ⟨_, h⟩
theorem exS_inv : ∀ {ss : List Sh1} {K : List Value → Prop}, exS ss K → ∃ vs, K vs
  | [], _, h => ⟨_, h⟩
  | _ :: _, _, h => let ⟨_, h'⟩ := Sh1.ex_inv h; let ⟨_, h''⟩ := exS_inv h'; ⟨_, h''⟩
theorem Sh.ex_inv {s : Sh} {K : Value → Prop} (h : s.ex K) : ∃ v, K v := by
  cases s with
  | v s => exact Sh1.ex_inv h
  | t ss => obtain ⟨vs, h⟩ := exS_inv h; exact ⟨_, h⟩

/-- Where a pointer leads to. -/
def ptAt (p : Option Addr) (K : Nat → Nat → Prop) : Prop := match p with | some ⟨b, o, none⟩ => K b o | _ => False
theorem ptAt_inv {p : Option Addr} {K : Nat → Nat → Prop} (h : ptAt p K) : ∃ b o, p = some ⟨b, o, none⟩ ∧ K b o := by
  unfold ptAt at h
  split at h
  · exact ⟨_, _, rfl, h⟩
  · exact h.elim
theorem ptAt_of {p : Option Addr} {K : Nat → Nat → Prop} {b o : Nat} (e : p = some ⟨b, o, none⟩) (h : K b o) : ptAt p K := by subst e; exact h
/-- A cell of a block. -/
def cel (w : World) (b o : Nat) : Option Value := w.cell? ⟨b, o, none⟩
def Row (w : World) (b o : Nat) (vs : List Value) : Prop := w.rangeAt b o vs
def LdP (sh : Sh1) (b o : Nat) (w : World) (K : Value → Prop) : Prop :=
  match sh with
  | .one k => k.exV fun v => cel w b o = some v ∧ K v
  | .agg ks => exL ks fun vs => Row w b o vs ∧ K (.agg ⟨vs⟩)
def StP (b o : Nat) (vs : List Value) (w : World) (K : World → Prop) : Prop :=
  w.there b o vs.length ∧ (vs.all (·.oneCell')) = true ∧ K (w.setCells b o vs)
/-- New cells. -/
def AlP (e : TypeId) (vs : List Value) (w : World) (K : Nat → World → Prop) : Prop :=
  K w.heap.size (w.alloc (.cells ⟨vs⟩ e))
def AlM (w : World) (K : Nat → World → Prop) : Prop := K w.heap.size (w.alloc (.map #[] 0))
def RunQ (P : Program) (s : Sem Value) (sh : Sh) (w : World) (K : Value → Prop) : Prop := sh.ex fun v => s.run P w = .ok v w ∧ K v
def RunP (P : Program) (s : Sem Value) (sh : Sh) (w : World) (K : Value → World → Prop) : Prop := sh.ex fun v => ∃ w', s.run P w = .ok v w' ∧ K v w'
/-- A step of a range: it is over, or something has come. -/
def NextP (P : Program) (s : Sem Value) (str : Bool) (w : World) (K : Value → World → Prop) : Prop :=
  (∃ w', s.run P w = .ok (.tuple ⟨[.bool false]⟩) w' ∧ K (.tuple ⟨[.bool false]⟩) w') ∨
  match str with
  | true => ∃ (p c : Int) (w' : World), s.run P w = .ok (.tuple ⟨[.bool true, .int .i64 p, .int .i32 c]⟩) w' ∧ K (.tuple ⟨[.bool true, .int .i64 p, .int .i32 c]⟩) w'
  | false => ∃ (k v : Value) (w' : World), s.run P w = .ok (.tuple ⟨[.bool true, k, v]⟩) w' ∧ K (.tuple ⟨[.bool true, k, v]⟩) w'
theorem NextP.inv {P : Program} {s : Sem Value} {str : Bool} {w : World} {K : Value → World → Prop} (h : NextP P s str w K) : ∃ v w', s.run P w = .ok v w' ∧ K v w' := by
  rcases h with ⟨w', h1, h2⟩ | h
  · exact ⟨_, w', h1, h2⟩
  · cases str with
    | true => obtain ⟨p, c, w', h1, h2⟩ := h; exact ⟨_, w', h1, h2⟩
    | false => obtain ⟨p, c, w', h1, h2⟩ := h; exact ⟨_, w', h1, h2⟩
def RunU (P : Program) (s : Sem Unit) (w : World) (K : World → Prop) : Prop := ∃ w', s.run P w = .ok () w' ∧ K w'
def Ret (K : Value → World → Prop) (e : Ending) (w : World) : Prop := ∃ v, e = .returned v ∧ K v w
def CallP (P : Program) (f : FuncId) (vs : List Value) (w : World) (K : Value → World → Prop) : Prop := Calls P f ⟨vs⟩ w (Ret K)
def callable (P : Program) (f : FuncId) : Bool :=
  match P.funcs[f]? with
  | some fn => !(fn.name == "runtime.NumGoroutine") && fn.body.isSome
  | none => false
def CallV (P : Program) (v : Value) (vs : List Value) (w : World) (K : Value → World → Prop) : Prop :=
  match v with
  | .func (.func f) first cap => callable P f = true ∧ CallP P f (first.toList ++ vs ++ cap.toList) w K
  | _ => False
def sp (b : Bool) (A B : Prop) : Prop := match b with | true => A | false => B
theorem sp_true {b : Bool} {A B : Prop} (h : b = true) (a : A) : sp b A B := by subst h; exact a
theorem sp_false {b : Bool} {A B : Prop} (h : b = false) (x : B) : sp b A B := by subst h; exact x
theorem sp_of {b : Bool} {A B : Prop} (h : b = true → A) (k : b = false → B) : sp b A B := by cases b; exact k rfl; exact h rfl
theorem sp_dec {p : Prop} [Decidable p] {A B : Prop} (h : p → A) (k : ¬p → B) : sp (decide p) A B :=
  sp_of (fun e => h (by simpa using e)) (fun e => k (by simpa using e))

/-! ### operations -/
def ev (ρ : Env) (x : Operand) (K : Value → Prop) : Prop :=
  match x with
  | .const v => K v
  | .tmp t => match ρ t with | some v => K v | none => False
  | .func f => K (.func (.func f) #[] #[])
  | .global g => K (.pointer (some ⟨g, 0, none⟩))
def evs (ρ : Env) : List Operand → (List Value → Prop) → Prop
  | [], K => K []
  | x :: xs, K => ev ρ x fun v => evs ρ xs fun vs => K (v :: vs)
def evo (ρ : Env) : Option Operand → (Option Value → Prop) → Prop
  | none, K => K none
  | some x, K => ev ρ x fun v => K (some v)
def evp (ρ : Env) : List (Nat × Operand) → (List (Nat × Value) → Prop) → Prop
  | [], K => K []
  | (i, x) :: xs, K => ev ρ x fun v => evp ρ xs fun vs => K ((i, v) :: vs)

def isAggT (P : Program) (t : TypeId) : Option Bool :=
  match P.underlying t with
  | some (.struct _) | some (.array _ _) => some true
  | some _ => some false
  | none => none
def fieldOff (P : Program) (s f : Nat) : Option Nat :=
  match P.underlying s with
  | some (.struct fs) => match fs[f]? with
    | some fd => match P.info? fd.type with
      | some i => match i.size with | 0 => none | _ + 1 => some fd.offset
      | none => none
    | none => none
  | _ => none
def elemOfSl (P : Program) (t : TypeId) : Option (TypeId × Nat) :=
  match P.underlying t with
  | some (.slice e) => match P.info? e with | some i => some (e, i.size) | none => none
  | _ => none
def arrOf (P : Program) (t : TypeId) : Option (Nat × Nat) :=
  match P.underlying t with
  | some (.array len e) => match P.info? e with | some i => some (len, i.size) | none => none
  | _ => none
def zeroOf (P : Program) (t : TypeId) : Option Value := match P.info? t with | some i => i.zero | none => none
def ldOk (P : Program) (t : TypeId) : Sh1 → Bool
  | .one _ => match isAggT P t with | some false => true | _ => false
  | .agg ks => match isAggT P t, P.info? t with | some true, some i => Nat.beq i.size ks.length | _, _ => false
def fieldV (P : Program) (t : TypeId) (cs : Array Value) (f : Nat) : Option Value :=
  match P.underlying t with
  | some (.struct fs) => match fs[f]? with
    | some fd => match isAggT P fd.type with
      | some true => match P.info? fd.type with | some i => some (.agg (cs.extract fd.offset (fd.offset + i.size))) | none => none
      | some false => cs[fd.offset]?
      | none => none
    | none => none
  | _ => none
/-- The places and sizes of a struct's fields. -/
def plc (P : Program) : List Field → Option (List (Nat × Nat))
  | [] => some []
  | f :: fs => match P.info? f.type with
    | some j => match plc P fs with
      | some r => some ((f.offset, j.size) :: r)
      | none => none
    | none => none
def bitsI (op : BinOp) (k : IntKind) (x y : Int) : Int :=
  match op with
  | .and => k.wrap ((BitVec.ofInt k.bits x &&& BitVec.ofInt k.bits y).toNat)
  | .or => k.wrap ((BitVec.ofInt k.bits x ||| BitVec.ofInt k.bits y).toNat)
  | .xor => k.wrap ((BitVec.ofInt k.bits x ^^^ BitVec.ofInt k.bits y).toNat)
  | _ => k.wrap ((BitVec.ofInt k.bits x &&& ~~~ BitVec.ofInt k.bits y).toNat)
def binP (P : Program) (op : BinOp) (t : TypeId) (vx vy : Value) (x y : Operand) (sh : Sh) (w : World) (K : Value → Prop) : Prop :=
  match vx, vy with
  | .int k a, .int k' b =>
    match op with
    | .shl => 0 ≤ b ∧ K (.int k (k.wrap (a * 2 ^ (min b.toNat k.bits))))
    | .shr => 0 ≤ b ∧ K (.int k (a.fdiv (2 ^ (min b.toNat k.bits))))
    | op => match ikEq k k' with
      | false => False
      | true => match op with
        | .add => K (.int k (k.wrap (a + b)))
        | .sub => K (.int k (k.wrap (a - b)))
        | .mul => K (.int k (k.wrap (a * b)))
        | .quo => b ≠ 0 ∧ K (.int k (k.wrap (a.tdiv b)))
        | .rem => b ≠ 0 ∧ K (.int k (a.tmod b))
        | .and => K (.int k (bitsI .and k a b))
        | .or => K (.int k (bitsI .or k a b))
        | .xor => K (.int k (bitsI .xor k a b))
        | .andNot => K (.int k (bitsI .andNot k a b))
        | .eql => K (.bool (decide (a = b)))
        | .neq => K (.bool (!decide (a = b)))
        | .lss => K (.bool (decide (a < b)))
        | .leq => K (.bool (decide (a ≤ b)))
        | .gtr => K (.bool (decide (b < a)))
        | .geq => K (.bool (decide (b ≤ a)))
        | _ => False
  | .string a, .string b =>
    match op with
    | .eql => K (.bool (decide (a = b)))
    | .neq => K (.bool (!decide (a = b)))
    | _ => RunQ P (do eqGuard op t x y (.string a) (.string b); binOp op t (.string a) (.string b)) sh w K
  | .bool a, .bool b =>
    match op with
    | .eql => match P.underlying t with | some .bool => K (.bool (a == b)) | _ => False
    | .neq => match P.underlying t with | some .bool => K (.bool (!(a == b))) | _ => False
    | _ => False
  | a, b => RunQ P (do eqGuard op t x y a b; binOp op t a b) sh w K
def mxI (x y : Int) : Int := if y > x then y else x
def mnI (x y : Int) : Int := if y < x then y else x
def foldI (f : Int → Int → Int) : Int → List Value → (Int → Prop) → Prop
  | x, [], K => K x
  | x, .int _ y :: r, K => foldI f (f x y) r K
  | _, _, _ => False
def callP (P : Program) (ρ : Env) (c : Call) (type : TypeId) (sh : Sh) (w : World) (K : Value → World → Prop) : Prop :=
  evs ρ c.args.toList fun vs =>
  match c.callee with
  | .value (.func f) => match callable P f with
    | true => CallP P f vs w fun v w' => sh.ex fun u => v = u ∧ K u w'
    | false => False
  | .value x => ev ρ x fun v => CallV P v vs w fun v w' => sh.ex fun u => v = u ∧ K u w'
  | .builtin .len => match vs with
    | [.slice _ n _] => match (c.argTypes[0]?).bind P.underlying with | some (.slice _) => K (.int .i64 n) w | _ => False
    | [.string s] => match (c.argTypes[0]?).bind P.underlying with | some .string => K (.int .i64 s.size) w | _ => False
    | vs => RunQ P (Builtin.len_ c.argTypes type ⟨vs⟩) sh w fun v => K v w
  | .builtin .max => match vs with
    | .int k x :: r => foldI mxI x r fun z => K (.int k z) w
    | _ => False
  | .builtin .min => match vs with
    | .int k x :: r => foldI mnI x r fun z => K (.int k z) w
    | _ => False
  | .builtin .append => RunP P (Builtin.append_ c.argTypes type ⟨vs⟩) sh w K
  | .builtin .delete => RunP P (Builtin.delete_ c.argTypes type ⟨vs⟩) sh w K
  | .builtin .copy => RunP P (Builtin.copy_ c.argTypes type ⟨vs⟩) sh w K
  | .builtin .cap => RunQ P (Builtin.cap_ c.argTypes type ⟨vs⟩) sh w fun v => K v w
  | _ => False
def opP (P : Program) (ρ : Env) (o : Oper) (sh : Sh) (w : World) (K : Value → World → Prop) : Prop :=
  match o.op with
  | .move x | .assign x => ev ρ x fun v => K v w
  | .pick c a b => ev ρ c fun v => match v with
    | .bool b' => match b' with
      | true => ev ρ a fun v => K v w
      | false => ev ρ b fun v => K v w
    | _ => False
  | .alloc e => match zeroOf P e with
    | some v => AlP e v.cells.toList w fun b w' => K (.pointer (some ⟨b, 0, none⟩)) w'
    | none => False
  | .box e x => ev ρ x fun v => AlP e v.cells.toList w fun b w' => K (.pointer (some ⟨b, 0, none⟩)) w'
  | .build t parts => evp ρ parts.toList fun ps => match zeroOf P t with
    | some z => match P.underlying t with
      | some (.struct fs) => match plc P fs.toList with
        | some pl => match Instr.fill (fun i => pl[i]?) z.cells ps with
          | some cs => K (.agg cs) w
          | none => False
        | none => False
      | some (.array _ e) => match P.info? e with
        | some j => match Instr.fill (fun i => some (i * j.size, j.size)) z.cells ps with
          | some cs => K (.agg cs) w
          | none => False
        | none => False
      | _ => False
    | none => False
  | .buildSlice t len parts => evp ρ parts.toList fun ps => match elemOfSl P t with
    | some (e, size) => match Nat.ble (len * size) 10000 with
      | true => match zeroOf P e with
        | some z => match Instr.fill (fun i => some (i * size, size)) ((Array.range (len * size)).map (z.cells[· % z.cells.size]!)) ps with
          | some cs => AlP e cs.toList w fun b w' => K (.slice (some ⟨b, 0, none⟩) len len) w'
          | none => False
        | none => False
      | false => False
    | none => False
  | .load t x => ev ρ x fun v => match v with
    | .pointer p => match sh with
      | .v s => match ldOk P t s with | true => ptAt p fun b o => LdP s b o w fun v => K v w | false => False
      | _ => False
    | _ => False
  | .store t x y => ev ρ x fun v => ev ρ y fun u => match v with
    | .pointer p => match isAggT P t with
      | some true => match u with
        | .agg cs => match P.info? t with
          | some i => match Nat.beq cs.size i.size with | true => ptAt p fun b o => StP b o cs.toList w fun w' => K undef w' | false => False
          | none => False
        | _ => False
      | some false => match P.info? t with
        | some i => match Nat.beq 1 i.size with | true => ptAt p fun b o => StP b o [u] w fun w' => K undef w' | false => False
        | none => False
      | none => False
    | _ => False
  | .nilCheck x => ev ρ x fun v => match v with
    | .pointer p => ptAt p fun b o => K (.pointer (some ⟨b, o, none⟩)) w
    | .slice a n c => K (.slice a n c) w
    | .map m => K (.map m) w
    | .func (.func f) x y => K (.func (.func f) x y) w
    | _ => False
  | .binOp op t x y _ => ev ρ x fun a => ev ρ y fun b => binP P op t a b x y sh w fun v => K v w
  | .unOp op _ x => ev ρ x fun v => match op, v with
    | .not, .bool b => K (.bool (!b)) w
    | .neg, .int k n => K (.int k (k.wrap (0 - n))) w
    | op, v => RunQ P (Op.unary op v) sh w fun v => K v w
  | .convert s d x => ev ρ x fun v => match P.underlying s, P.underlying d, v with
    | some (.int _), some (.int k), .int _ n => K (.int k (k.wrap n)) w
    | _, _, v => RunP P (convert s d v) sh w K
  | .makeFunc fn first cap => evs ρ first.toList fun xs => evs ρ cap.toList fun ys => K (.func fn ⟨xs⟩ ⟨ys⟩) w
  | .makeMap _ none => AlM w fun b w' => K (.map (some b)) w'
  | .makeSlice t l c => ev ρ l fun l => ev ρ c fun c => RunP P (Instr.makeSlice t l c) sh w K
  | .slice t x lo hi mx => ev ρ x fun v => evo ρ lo fun lo => evo ρ hi fun hi => evo ρ mx fun mx => RunQ P (Instr.sliceAt t v lo hi mx) sh w fun v => K v w
  | .fieldAddr s x f => ev ρ x fun v => match v with
    | .pointer p => match fieldOff P s f with
      | some off => ptAt p fun b o => K (.pointer (some ⟨b, o + off, none⟩)) w
      | none => False
    | _ => False
  | .field t x f => ev ρ x fun v => match v with
    | .agg cs => match fieldV P t cs f with | some u => K u w | none => False
    | _ => False
  | .indexAddr t x i => ev ρ x fun v => ev ρ i fun i => match i with
    | .int k n => match v with
      | .slice a len _ => match elemOfSl P t with
        | some (_, size) => 0 ≤ n ∧ n < len ∧ ptAt a fun b o => K (.pointer (some ⟨b, o + n.toNat * size, none⟩)) w
        | none => False
      | .pointer p => match arrOf P t with
        | some (len, size) => 0 ≤ n ∧ n < len ∧ ptAt p fun b o => K (.pointer (some ⟨b, o + n.toNat * size, none⟩)) w
        | none => False
      | _ => False
    | _ => False
  | .index t x i => ev ρ x fun v => ev ρ i fun i => RunQ P (Instr.index t v i) sh w fun v => K v w
  | .lookup t x i ok => ev ρ x fun v => ev ρ i fun i => RunQ P (Instr.lookup t v i ok) sh w fun v => K v w
  | .mapUpdate t m k x | .insert t m k x => ev ρ m fun m => ev ρ k fun k => ev ρ x fun x => RunU P (Instr.mapUpdate t m k x) w fun w' => K undef w'
  | .range t x => ev ρ x fun v => RunP P (Instr.range t v) sh w K
  | .next it s => ev ρ it fun v => NextP P (Instr.next v s o.type) s w K
  | .entry it => ev ρ it fun v => RunQ P (Instr.entry v) sh w fun v => K v w
  | .extract t i => ev ρ t fun v => match v with
    | .tuple vs => match vs[i]? with | some u => K u w | none => False
    | _ => False
  | .makeInterface t x => ev ρ x fun v => RunP P (Instr.makeInterface t v) sh w K
  | .call c => callP P ρ c o.type sh w K
  | _ => False
/-- The 'slice' of a variable slice: where its address may be nil. -/
theorem ev_inv {n : Nat} {ρ : Env} {x : Operand} {K : Value → Prop} {a : Act} (hA : ∀ t v, ρ t = some v → t < n ∧ a.tmps.getD t undef = v) (h : ev ρ x K) : K (a.eval x) := by
  cases x with
  | const v => exact h
  | global g => exact h
  | func f => exact h
  | tmp t =>
    simp only [ev] at h
    split at h
    · rename_i v hv
      simp only [Act.eval]
      rw [(hA t v hv).2]
      exact h
    · exact h.elim

theorem evs_inv {n : Nat} {ρ : Env} {a : Act} (hA : ∀ t v, ρ t = some v → t < n ∧ a.tmps.getD t undef = v) : ∀ {xs : List Operand} {K : List Value → Prop}, evs ρ xs K → K (xs.map a.eval)
  | [], _, h => h
  | x :: xs, K, h => by
    have h1 := ev_inv hA h
    exact evs_inv (xs := xs) (K := fun vs => K (a.eval x :: vs)) hA h1
theorem evo_inv {n : Nat} {ρ : Env} {a : Act} (hA : ∀ t v, ρ t = some v → t < n ∧ a.tmps.getD t undef = v) : ∀ {x : Option Operand} {K : Option Value → Prop}, evo ρ x K → K (x.map a.eval)
  | none, _, h => h
  | some _, _, h => ev_inv hA h
theorem evp_inv {n : Nat} {ρ : Env} {a : Act} (hA : ∀ t v, ρ t = some v → t < n ∧ a.tmps.getD t undef = v) : ∀ {xs : List (Nat × Operand)} {K : List (Nat × Value) → Prop}, evp ρ xs K → K (xs.map fun (i, x) => (i, a.eval x))
  | [], _, h => h
  | (i, x) :: xs, K, h => by
    have h1 := ev_inv hA h
    exact evp_inv (xs := xs) (K := fun vs => K ((i, a.eval x) :: vs)) hA h1
theorem map_arr {α β : Type} (f : α → β) (xs : Array α) : xs.map f = ⟨xs.toList.map f⟩ := by cases xs; simp
theorem run_und {P : Program} {t : TypeId} {d : TypeDesc} (w : World) (h : P.underlying t = some d) : (underlying t).run P w = .ok d w := run_underlying h w

section
variable {P : Program} {n : Nat} {ρ : Env} {a : Act} {w : World}
/-- The value that the operation yields, the world behind it. -/
def Yl (P : Program) (o : Oper) (a : Act) (w : World) (K : Value → World → Prop) : Prop :=
  ∃ r w', (execOp a.eval o).run P w = .ok r w' ∧ ((∃ v, r = .value v ∧ K v w') ∨ (r = .skip ∧ K undef w'))
theorem Yl.wp {o : Oper} {K : Value → World → Prop} {Q : Exit → Act → World → Prop} (h : Yl P o a w K) : o.wp P a w (fun a' w' => ∃ v, a' = a.put o.dst v ∧ K v w') Q := by
  obtain ⟨r, w', hr, ⟨v, rfl, h⟩ | ⟨rfl, h⟩⟩ := h
  · unfold Oper.wp; rw [hr]; exact ⟨v, rfl, h⟩
  · unfold Oper.wp; rw [hr]; exact ⟨undef, rfl, h⟩
theorem ldOk_one {t : TypeId} {k : Kd} (h : ldOk P t (.one k) = true) (w : World) : (isAgg t).run P w = .ok false w := by
  unfold ldOk isAggT at h
  unfold isAgg
  rw [Sem.run_bind]
  cases hu : P.underlying t with
  | none => simp [hu] at h
  | some d =>
    rw [run_und w hu]
    simp only [Result.andThen_ok]
    simp only [hu] at h
    cases d <;> first | rfl | (simp at h)
theorem isAggT_run {t : TypeId} {b : Bool} (h : isAggT P t = some b) (w : World) : (isAgg t).run P w = .ok b w := by
  unfold isAggT at h
  unfold isAgg
  rw [Sem.run_bind]
  cases hu : P.underlying t with
  | none => simp [hu] at h
  | some d =>
    rw [run_und w hu]
    simp only [Result.andThen_ok]
    simp only [hu] at h
    cases d <;> (simp at h; subst h; rfl)
theorem info_of_size {t : TypeId} {i : TypeInfo} (h : P.info? t = some i) (w : World) : (sizeOf t).run P w = .ok i.size w := by
  simp [sizeOf, typeInfo, h]
theorem ldP_run {t : TypeId} {s : Sh1} {b o : Nat} {K : Value → Prop} (ho : ldOk P t s = true) (h : LdP s b o w K) :
    ∃ v, (Instr.loadAt t (.pointer (some ⟨b, o, none⟩))).run P w = .ok v w ∧ K v := by
  cases s with
  | one k =>
    obtain ⟨x, hx, hK⟩ := Kd.exV_inv h
    refine ⟨_, ?_, hK⟩
    unfold cel at hx
    simp [Instr.loadAt, Instr.sureAddr, loadVar, ldOk_one ho w, run_load, hx]
  | agg ks =>
    obtain ⟨vs, hl, hr, hK⟩ := exL_len h
    refine ⟨_, ?_, hK⟩
    simp only [ldOk] at ho
    have hag : isAggT P t = some true := by
      split at ho
      · assumption
      · cases ho
    cases hi : P.info? t with
    | none => simp [hag, hi] at ho
    | some i =>
      simp only [hag, hi] at ho
      have hs : i.size = ks.length := Nat.eq_of_beq_eq_true ho
      have hl2 : (loadCells ⟨b, o, none⟩ vs.length).run P w = .ok vs.toArray w :=
        run_loadCells_list (P := P) w ⟨b, o, none⟩ vs (fun j v hv => by rw [Addr.add_mid]; exact hr j v hv)
      simp [Instr.loadAt, Instr.sureAddr, loadVar, isAggT_run hag w, info_of_size hi w, hs, ← hl, hl2]
theorem runQ_yl {s : Sem Value} {sh : Sh} {K : Value → Prop} (h : RunQ P s sh w K) : ∃ v, s.run P w = .ok v w ∧ K v := Sh.ex_inv h
theorem runP_yl {s : Sem Value} {sh : Sh} {K : Value → World → Prop} (h : RunP P s sh w K) : ∃ v w', s.run P w = .ok v w' ∧ K v w' := Sh.ex_inv h
end
end Go.Pl

/- 'opP' is sound, operation by operation. -/
namespace Go.Pl
set_option linter.unusedVariables false
section
variable {P : Program} {n : Nat} {ρ : Env} {a : Act} {w : World} {o : Oper} {sh : Sh} {K : Value → World → Prop}

theorem yl_val {s : Sem Value} (he : (execOp a.eval o) = (do pure (Next.value (← s)))) {v : Value} {w' : World} (hr : s.run P w = .ok v w') (hK : K v w') : Yl P o a w K := by
  refine ⟨.value v, w', ?_, .inl ⟨v, rfl, hK⟩⟩
  rw [he]
  simp [hr]
theorem yl_unit {s : Sem Unit} (he : (execOp a.eval o) = (do s; pure Next.skip)) {w' : World} (hr : s.run P w = .ok () w') (hK : K undef w') : Yl P o a w K := by
  refine ⟨.skip, w', ?_, .inr ⟨rfl, hK⟩⟩
  rw [he]
  simp [hr]
theorem str_eq (a b : ByteArray) : (a.toList == b.toList) = decide (a = b) := by
  rw [Lib.toList_data, Lib.toList_data]
  by_cases h : a = b
  · subst h; simp
  · rw [decide_eq_false h, beq_eq_false_iff_ne]
    intro e
    exact h (by cases a; cases b; simp at e; simp [e])
theorem bool_eq {P : Program} {t : TypeId} (a b : Bool) {w : World} (hu : P.underlying t = some .bool) : (Op.equalIn Op.maxDepth t (.bool a) (.bool b)).run P w = .ok (a == b) w := by
  have e : Op.maxDepth = Nat.succ 9999 := rfl
  rw [e, Op.equalIn]
  simp only [Sem.run_bind, run_und w hu, Result.andThen_ok, Sem.run_pure]
theorem bin_run {op : BinOp} {t : TypeId} {vx vy : Value} {x y : Operand} {K : Value → Prop} (h : binP P op t vx vy x y sh w K) :
    ∃ v, (do eqGuard op t x y vx vy; binOp op t vx vy : Sem Value).run P w = .ok v w ∧ K v := by
  unfold binP at h
  split at h
  · rename_i k a k' b
    have hg : (eqGuard op t x y (.int k a) (.int k' b)).run P w = .ok () w := by
      unfold eqGuard; cases op <;> simp
    split at h
    · refine ⟨_, ?_, h.2⟩
      simp [hg, binOp, Op.shift, Int.not_lt.2 h.1]
    · refine ⟨_, ?_, h.2⟩
      simp [hg, binOp, Op.shift, Int.not_lt.2 h.1]
    · rename_i h1 h2
      split at h
      · exact h.elim
      · rename_i hk
        have hkk := ikEq_eq hk
        subst hkk
        split at h <;> first
          | exact h.elim
          | (refine ⟨_, ?_, h.2⟩; simp [hg, binOp, Op.intDiv, h.1])
          | (refine ⟨_, ?_, h⟩; simp [hg, binOp, Op.intArith]; done)
          | (refine ⟨_, ?_, h⟩; simp [hg, binOp, Op.intBits, bitsI]; done)
          | (refine ⟨_, ?_, h⟩; simp [hg, binOp, Op.intCmp]; done)
          | (refine ⟨_, ?_, h⟩; simp [hg, binOp, Op.intCmp]; rfl)
  · rename_i a b
    split at h
    · refine ⟨_, ?_, h⟩
      simp [eqGuard, binOp, Op.stringOp, str_eq]
    · refine ⟨_, ?_, h⟩
      simp [eqGuard, binOp, Op.stringOp, str_eq]
    · exact runQ_yl h
  · rename_i a b
    split at h
    · split at h
      · rename_i hu
        refine ⟨_, ?_, h⟩
        simp [eqGuard, binOp, Op.equal, bool_eq a b hu]
      · exact h.elim
    · split at h
      · rename_i hu
        refine ⟨_, ?_, h⟩
        simp [eqGuard, binOp, Op.equal, bool_eq a b hu]
      · exact h.elim
    · exact h.elim
  · exact runQ_yl h
theorem callFunc_run {f : FuncId} (args : Array Value) (h : callable P f = true) (w : World) : (callFunc f args).run P w = .ok (.enter f args) w := by
  unfold callable at h
  split at h
  · rename_i fn hf
    simp only [Bool.and_eq_true, Bool.not_eq_true'] at h
    have hb : ¬ fn.body = none := Option.isSome_iff_ne_none.1 h.2
    have hn : ¬ fn.name = "runtime.NumGoroutine" := by simpa using h.1
    simp [callFunc, program, Sem.run, hf, hn, hb]
  · cases h
theorem call_wp {f : FuncId} {vs : List Value} {Q : Exit → Act → World → Prop} (hr : (execOp a.eval o).run P w = .ok (.enter f ⟨vs⟩) w) (h : CallP P f vs w fun v w' => sh.ex fun u => v = u ∧ K u w') :
    o.wp P a w (fun a' w' => ∃ v, a' = a.put o.dst v ∧ K v w') Q := by
  unfold Oper.wp
  rw [hr]
  refine Calls.mono h ?_
  rintro e w' ⟨v, rfl, hv⟩
  obtain ⟨u, rfl, hu⟩ := Sh.ex_inv hv
  exact ⟨_, rfl, hu⟩
theorem foldI_max {P : Program} {k : IntKind} : ∀ {r : List Value} {x : Int} {K : Int → Prop}, foldI mxI x r K → ∃ z, (∀ w, (r.foldlM Builtin.max2 (.int k x)).run P w = .ok (.int k z) w) ∧ K z
  | [], x, K, h => ⟨x, fun _ => rfl, h⟩
  | v :: r, x, K, h => by
    cases v with
    | int k' y =>
      obtain ⟨z, h1, h2⟩ := foldI_max (k := k) (r := r) (x := mxI x y) h
      refine ⟨z, fun w => ?_, h2⟩
      rw [List.foldlM_cons, Sem.run_bind]
      exact h1 w
    | _ => exact h.elim
theorem foldI_min {P : Program} {k : IntKind} : ∀ {r : List Value} {x : Int} {K : Int → Prop}, foldI mnI x r K → ∃ z, (∀ w, (r.foldlM Builtin.min2 (.int k x)).run P w = .ok (.int k z) w) ∧ K z
  | [], x, K, h => ⟨x, fun _ => rfl, h⟩
  | v :: r, x, K, h => by
    cases v with
    | int k' y =>
      obtain ⟨z, h1, h2⟩ := foldI_min (k := k) (r := r) (x := mnI x y) h
      refine ⟨z, fun w => ?_, h2⟩
      rw [List.foldlM_cons, Sem.run_bind]
      exact h1 w
    | _ => exact h.elim
theorem callP_wp {c : Call} {Q : Exit → Act → World → Prop} (hA : ∀ t v, ρ t = some v → t < n ∧ a.tmps.getD t undef = v) (ho : o.op = .call c) (h : callP P ρ c o.type sh w K) :
    o.wp P a w (fun a' w' => ∃ v, a' = a.put o.dst v ∧ K v w') Q := by
  unfold callP at h
  have h1 := evs_inv hA h
  clear h
  have hm : c.args.map a.eval = ⟨c.args.toList.map a.eval⟩ := map_arr _ _
  generalize hvs : c.args.toList.map a.eval = vs at h1 hm
  have hx : ∀ b, c.callee = .builtin b → ∃ cs, execOp a.eval o = builtin b c.argTypes o.type cs ⟨vs⟩ := by
    intro b hc
    simp only [execOp, ho, resolve, hc, hm]
    exact ⟨_, rfl⟩
  split at h1
  · rename_i f hc
    split at h1
    · rename_i hcal
      refine call_wp ?_ h1
      simp [execOp, ho, resolve, hc, Deferred.ofValue, invoke, hm, Act.eval, callFunc_run _ hcal]
    · exact h1.elim
  · rename_i x _ hc
    have h2 := ev_inv hA h1
    unfold CallV at h2
    split at h2
    · rename_i f first cap hv
      obtain ⟨hcal, h2⟩ := h2
      refine call_wp ?_ h2
      simp [execOp, ho, resolve, hc, Deferred.ofValue, invoke, hm, hv, callFunc_run _ hcal]
    · exact h2.elim
  · rename_i hc
    obtain ⟨cs, he⟩ := hx _ hc
    split at h1
    · rename_i s nn cc
      split at h1
      · rename_i e hu
        refine Yl.wp (yl_val he (v := .int .i64 nn) (w' := w) ?_ h1)
        obtain ⟨t, ht, hu⟩ := Option.bind_eq_some_iff.1 hu
        simp [Builtin.len_, ht, run_und w hu, goInt]
      · exact h1.elim
    · rename_i s
      split at h1
      · rename_i hu
        refine Yl.wp (yl_val he (v := .int .i64 s.size) (w' := w) ?_ h1)
        obtain ⟨t, ht, hu⟩ := Option.bind_eq_some_iff.1 hu
        simp [Builtin.len_, ht, run_und w hu, goInt]
      · exact h1.elim
    · obtain ⟨v, hr, hK⟩ := runQ_yl h1
      exact Yl.wp (yl_val he hr hK)
  · rename_i hc
    obtain ⟨cs, he⟩ := hx _ hc
    split at h1
    · rename_i k x r
      obtain ⟨z, hz, hK⟩ := foldI_max h1
      exact Yl.wp (yl_val he (w' := w) (by simpa [Builtin.max_] using hz w) hK)
    · exact h1.elim
  · rename_i hc
    obtain ⟨cs, he⟩ := hx _ hc
    split at h1
    · rename_i k x r
      obtain ⟨z, hz, hK⟩ := foldI_min h1
      exact Yl.wp (yl_val he (w' := w) (by simpa [Builtin.min_] using hz w) hK)
    · exact h1.elim
  · rename_i hc
    obtain ⟨v, w', hr, hK⟩ := runP_yl h1
    obtain ⟨cs, he⟩ := hx _ hc
    exact Yl.wp (yl_val he hr hK)
  · rename_i hc
    obtain ⟨v, w', hr, hK⟩ := runP_yl h1
    obtain ⟨cs, he⟩ := hx _ hc
    exact Yl.wp (yl_val he hr hK)
  · rename_i hc
    obtain ⟨v, w', hr, hK⟩ := runP_yl h1
    obtain ⟨cs, he⟩ := hx _ hc
    exact Yl.wp (yl_val he hr hK)
  · rename_i hc
    obtain ⟨v, hr, hK⟩ := runQ_yl h1
    obtain ⟨cs, he⟩ := hx _ hc
    exact Yl.wp (yl_val he hr hK)
  · exact h1.elim
theorem run_plc : ∀ (fs : List Field) (pl : List (Nat × Nat)), plc P fs = some pl → ∀ w, (fs.mapM fun f => (do pure (f.offset, ← sizeOf f.type) : Sem (Nat × Nat))).run P w = .ok pl w
  | [], pl, h, w => by simp only [plc, Option.some.injEq] at h; subst h; simp
  | f :: fs, pl, h, w => by
    unfold plc at h
    split at h
    · rename_i j hj
      split at h
      · rename_i r hr
        simp only [Option.some.injEq] at h
        subst h
        have ih := run_plc fs r hr w
        simp only [List.mapM_cons, Sem.run_bind, info_of_size hj w, Result.andThen_ok, Sem.run_pure, ih]
      · cases h
    · cases h
theorem run_newRow (e : TypeId) (cs : Array Value) (w : World) : (newRow e cs).run P w = .ok ⟨w.heap.size, 0, none⟩ (w.alloc (.cells cs e)) := rfl
theorem op_wp {Q : Exit → Act → World → Prop} (hA : ∀ t v, ρ t = some v → t < n ∧ a.tmps.getD t undef = v) (h : opP P ρ o sh w K) :
    o.wp P a w (fun a' w' => ∃ v, a' = a.put o.dst v ∧ K v w') Q := by
  unfold opP at h
  split at h
  case h_1 x ho =>
    replace h := ev_inv hA h
    exact Yl.wp ⟨_, _, by simp only [execOp, ho]; rfl, .inl ⟨_, rfl, h⟩⟩
  case h_2 x ho =>
    replace h := ev_inv hA h
    exact Yl.wp ⟨_, _, by simp only [execOp, ho]; rfl, .inl ⟨_, rfl, h⟩⟩
  case h_3 c x y ho =>
    replace h := ev_inv hA h
    split at h
    · rename_i b hb
      split at h
      · replace h := ev_inv hA h
        exact Yl.wp ⟨.value (a.eval x), w, by simp [execOp, ho, asBool, hb], .inl ⟨_, rfl, h⟩⟩
      · replace h := ev_inv hA h
        exact Yl.wp ⟨.value (a.eval y), w, by simp [execOp, ho, asBool, hb], .inl ⟨_, rfl, h⟩⟩
    · exact h.elim
  case h_4 e ho =>
    split at h
    · rename_i v hz
      refine Yl.wp (yl_val (s := Instr.alloc e true (.tuple #[])) (by simp [execOp, ho]) (v := .pointer (some ⟨w.heap.size, 0, none⟩)) (w' := w.alloc (.cells v.cells e)) ?_ h)
      unfold zeroOf at hz
      split at hz
      · rename_i i hi
        simp [Instr.alloc, zeroValue, typeInfo, hi, hz, newVar, run_newRow]
      · cases hz
    · exact h.elim
  case h_5 e x ho =>
    replace h := ev_inv hA h
    refine Yl.wp (yl_val (s := Instr.box e (a.eval x)) (by simp [execOp, ho]) (v := .pointer (some ⟨w.heap.size, 0, none⟩)) (w' := w.alloc (.cells (a.eval x).cells e)) ?_ h)
    simp [Instr.box, newVar, run_newRow]
  case h_6 t parts ho =>
    replace h := evp_inv hA h
    have hp : (parts.map fun (i, x) => (i, a.eval x)).toList = parts.toList.map fun (i, x) => (i, a.eval x) := by simp
    rw [← hp] at h
    have hex : execOp a.eval o = (do pure (Next.value (← Instr.build t (parts.map fun (i, x) => (i, a.eval x))))) := by simp only [execOp, ho]
    generalize (parts.map fun (i, x) => (i, a.eval x)) = q at h hex
    clear hp
    split at h
    · rename_i z hz
      unfold zeroOf at hz
      split at hz
      · rename_i i hi
        split at h
        · rename_i fs hu
          split at h
          · rename_i pl hpl
            split at h
            · rename_i cs hf
              refine Yl.wp (yl_val hex (v := .agg cs) (w' := w) ?_ h)
              have hm : (fs.mapM fun f => (do pure (f.offset, ← sizeOf f.type) : Sem (Nat × Nat))).run P w = .ok pl.toArray w := by
                rw [Array.mapM_eq_mapM_toList, Sem.run_map, run_plc _ _ hpl w]; rfl
              simp only [Instr.build, zeroValue, typeInfo, program, Sem.run_bind, Sem.run, hi, hz, Result.andThen_ok, Sem.run_pure, run_und w hu, hm, List.getElem?_toArray, hf]
            · exact h.elim
          · exact h.elim
        · rename_i n' e hu
          split at h
          · rename_i j hj
            split at h
            · rename_i cs hf
              refine Yl.wp (yl_val hex (v := .agg cs) (w' := w) ?_ h)
              simp only [Instr.build, zeroValue, typeInfo, program, Sem.run_bind, Sem.run, hi, hz, Result.andThen_ok, Sem.run_pure, run_und w hu, sizeOf, hj, hf]
            · exact h.elim
          · exact h.elim
        · exact h.elim
      · cases hz
    · exact h.elim
  case h_7 t len parts ho =>
    replace h := evp_inv hA h
    have hp : (parts.map fun (i, x) => (i, a.eval x)).toList = parts.toList.map fun (i, x) => (i, a.eval x) := by simp
    rw [← hp] at h
    have hex : execOp a.eval o = (do pure (Next.value (← Instr.buildSlice t len (parts.map fun (i, x) => (i, a.eval x))))) := by simp only [execOp, ho]
    generalize (parts.map fun (i, x) => (i, a.eval x)) = q at h hex
    clear hp
    split at h
    · rename_i e size he
      unfold elemOfSl at he
      split at he
      · rename_i e' hu
        split at he
        · rename_i i hi
          simp only [Option.some.injEq, Prod.mk.injEq] at he
          obtain ⟨rfl, rfl⟩ := he
          split at h
          · rename_i hle
            have hle := Nat.le_of_ble_eq_true hle
            split at h
            · rename_i z hz
              split at h
              · rename_i cs hf
                refine Yl.wp (yl_val hex (v := .slice (some ⟨w.heap.size, 0, none⟩) len len) (w' := w.alloc (.cells cs e')) ?_ h)
                unfold zeroOf at hz
                rw [hi] at hz
                simp only at hz
                have h24 : ¬ (len * i.size > 2 ^ 24) := by omega
                by_cases h0 : len * i.size = 0
                · have hc : (Array.range (len * i.size)).map (fun x => (#[] : Array Value)[x % (#[] : Array Value).size]!) = (Array.range (len * i.size)).map (z.cells[· % z.cells.size]!) := by simp [h0]
                  simp only [Instr.buildSlice, Sem.run_bind, run_und w hu, Result.andThen_ok, info_of_size hi w, if_neg h24, Sem.run_pure, if_pos h0, hc, hf, run_newRow]
                · have hz0 : (zeroValue e').run P w = .ok z w := by simp [zeroValue, typeInfo, hi, hz]
                  simp only [Instr.buildSlice, Sem.run_bind, run_und w hu, Result.andThen_ok, info_of_size hi w, if_neg h24, Sem.run_pure, if_neg h0, hz0, hf, run_newRow]
              · exact h.elim
            · exact h.elim
          · exact h.elim
        · cases he
      · cases he
    · exact h.elim
  case h_8 t x ho =>
    replace h := ev_inv hA h
    split at h
    · rename_i p hx
      split at h
      · rename_i s
        split at h
        · rename_i hok
          obtain ⟨b, o', rfl, h2⟩ := ptAt_inv h
          obtain ⟨v, hr, hK⟩ := ldP_run hok h2
          exact Yl.wp (yl_val (s := Instr.loadAt t (a.eval x)) (by simp [execOp, ho]) (by rw [hx]; exact hr) hK)
        · exact h.elim
      · exact h.elim
    · exact h.elim
  case h_9 t x y ho =>
    replace h := ev_inv hA (ev_inv hA h)
    split at h
    · rename_i p hx
      split at h
      · rename_i hag
        split at h
        · rename_i cs hu
          split at h
          · rename_i i hi
            split at h
            · rename_i hsz
              have hsz := Nat.eq_of_beq_eq_true hsz
              obtain ⟨b, o', rfl, h⟩ := ptAt_inv h
              obtain ⟨h1, h2, h3⟩ := h
              refine Yl.wp (yl_unit (s := Instr.storeAt t (a.eval x) (a.eval y)) (by simp [execOp, ho]) (w' := w.setCells b o' cs.toList) ?_ h3)
              rw [hx, hu]
              exact run_storeAt_mid w b o' t cs (by simpa using h1) (by simp [hi, hsz]) (by rw [← Array.all_toList]; exact h2)
            · exact h.elim
          · exact h.elim
        · exact h.elim
      · rename_i hag
        split at h
        · rename_i i hi
          split at h
          · rename_i hsz
            have hsz := Nat.eq_of_beq_eq_true hsz
            obtain ⟨b, o', rfl, h⟩ := ptAt_inv h
            obtain ⟨h1, h2, h3⟩ := h
            refine Yl.wp (yl_unit (s := Instr.storeAt t (a.eval x) (a.eval y)) (by simp [execOp, ho]) (w' := w.setCells b o' [a.eval y]) ?_ h3)
            have hone : (a.eval y).oneCell' = true := by simpa using h2
            have hcell := h1 0 (by simp)
            obtain ⟨v0, hv0⟩ := Option.isSome_iff_exists.1 hcell.1
            rw [hx]
            have hcs : (a.eval y).cells = #[a.eval y] := by
              generalize a.eval y = u at hone
              cases u <;> first | rfl | (simp [Value.oneCell'] at hone)
            have hfz : w.frozen? ⟨b, o', none⟩ = false := by simpa using hcell.2
            have hc0 : w.cell? ⟨b, o', none⟩ = some v0 := by simpa using hv0
            have hs1 : (sizeOf t).run P w = .ok 1 w := by rw [info_of_size hi w, ← hsz]
            have hst : (store ⟨b, o', none⟩ (a.eval y)).run P w = .ok () (w.setCell ⟨b, o', none⟩ (a.eval y)) := by
              rw [run_store P w _ _ _ hone, hc0]; simp [hfz]
            have had : (⟨b, o', none⟩ : Addr).add 0 = ⟨b, o', none⟩ := rfl
            simp [Instr.storeAt, Instr.sureAddr, storeVar, hs1, hcs, storeCells, had, hst, World.setCells]
          · exact h.elim
        · exact h.elim
      · exact h.elim
    · exact h.elim
  case h_10 x ho =>
    replace h := ev_inv hA h
    split at h
    · rename_i p hx
      obtain ⟨b, o', rfl, h⟩ := ptAt_inv h
      exact Yl.wp ⟨.value (.pointer (some ⟨b, o', none⟩)), w, by simp [execOp, ho, hx], .inl ⟨_, rfl, h⟩⟩
    · rename_i p nn c hx
      exact Yl.wp ⟨.value (.slice p nn c), w, by simp [execOp, ho, hx], .inl ⟨_, rfl, h⟩⟩
    · rename_i m hx
      exact Yl.wp ⟨.value (.map m), w, by simp [execOp, ho, hx], .inl ⟨_, rfl, h⟩⟩
    · rename_i f xs ys hx
      exact Yl.wp ⟨.value (.func (.func f) xs ys), w, by simp [execOp, ho, hx], .inl ⟨_, rfl, h⟩⟩
    · exact h.elim
  case h_11 op t x y yt ho =>
    replace h := ev_inv hA (ev_inv hA h)
    obtain ⟨v, hr, hK⟩ := bin_run h
    exact Yl.wp (yl_val (s := do eqGuard op t x y (a.eval x) (a.eval y); binOp op t (a.eval x) (a.eval y)) (by simp only [execOp, ho]) hr hK)
  case h_12 op t x ho =>
    replace h := ev_inv hA h
    have hex : execOp a.eval o = (do pure (Next.value (← Op.unary op (a.eval x)))) := by simp only [execOp, ho]
    split at h
    · rename_i b hx
      exact Yl.wp (yl_val hex (by rw [hx]; simp [Op.unary]) h)
    · rename_i k m hx
      exact Yl.wp (yl_val hex (by rw [hx]; simp [Op.unary, Op.intArith]) h)
    · obtain ⟨v, hr, hK⟩ := runQ_yl h
      exact Yl.wp (yl_val hex hr hK)
  case h_13 s d x ho =>
    replace h := ev_inv hA h
    have hex : execOp a.eval o = (do pure (Next.value (← convert s d (a.eval x)))) := by simp only [execOp, ho]
    split at h
    · rename_i k1 k k2 m hs hd hx
      refine Yl.wp (yl_val hex (v := .int k (k.wrap m)) (w' := w) ?_ h)
      rw [hx]
      simp [convert, run_und w hs, run_und w hd, Conv.intToInt]
    · obtain ⟨v, w', hr, hK⟩ := runP_yl h
      exact Yl.wp (yl_val hex hr hK)
  case h_14 fn first cap ho =>
    replace h := evs_inv hA (evs_inv hA h)
    refine Yl.wp (yl_val (s := Instr.makeFunc fn (first.map a.eval) (cap.map a.eval)) (by simp only [execOp, ho]) (w' := w) ?_ h)
    simp only [Instr.makeFunc, map_arr, Sem.run_pure]
  case h_15 t ho =>
    refine Yl.wp (yl_val (s := Instr.makeMap t none) (by simp only [execOp, ho]; rfl) (v := .map (some w.heap.size)) (w' := w.alloc (.map #[] 0)) ?_ h)
    rfl
  case h_16 t l c ho =>
    replace h := ev_inv hA (ev_inv hA h)
    obtain ⟨v, w', hr, hK⟩ := runP_yl h
    exact Yl.wp (yl_val (s := Instr.makeSlice t (a.eval l) (a.eval c)) (by simp only [execOp, ho]) hr hK)
  case h_17 t x lo hi mx ho =>
    replace h := evo_inv hA (evo_inv hA (evo_inv hA (ev_inv hA h)))
    obtain ⟨v, hr, hK⟩ := runQ_yl h
    exact Yl.wp (yl_val (s := Instr.sliceAt t (a.eval x) (lo.map a.eval) (hi.map a.eval) (mx.map a.eval)) (by simp only [execOp, ho]) hr hK)
  case h_18 s x f ho =>
    replace h := ev_inv hA h
    split at h
    · rename_i p hx
      split at h
      · rename_i off hoff
        obtain ⟨b, o', rfl, h⟩ := ptAt_inv h
        refine Yl.wp (yl_val (s := Instr.fieldAt s (a.eval x) f) (by simp only [execOp, ho]) (v := .pointer (some ⟨b, o' + off, none⟩)) (w' := w) ?_ h)
        unfold fieldOff at hoff
        split at hoff
        · rename_i fs hu
          split at hoff
          · rename_i fd hfd
            split at hoff
            · rename_i i hi
              split at hoff
              · cases hoff
              · rename_i m hm
                cases hoff
                have hne : ¬ i.size = 0 := by omega
                rw [hx]
                simp only [Instr.fieldAt, Instr.sureAddr, Sem.run_bind, run_und w hu, Result.andThen_ok, hfd, Sem.run_pure, fieldPlace, info_of_size hi w, if_neg hne, Addr.add_mid]
            · cases hoff
          · cases hoff
        · cases hoff
      · exact h.elim
    · exact h.elim
  case h_19 t x f ho =>
    replace h := ev_inv hA h
    split at h
    · rename_i cs hx
      split at h
      · rename_i u hf
        refine Yl.wp (yl_val (s := Instr.field t (a.eval x) f) (by simp only [execOp, ho]) (v := u) (w' := w) ?_ h)
        unfold fieldV at hf
        split at hf
        · rename_i fs hu
          split at hf
          · rename_i fd hfd
            split at hf
            · rename_i hag
              split at hf
              · rename_i i hi
                cases hf
                rw [hx]
                simp only [Instr.field, Sem.run_bind, run_und w hu, Result.andThen_ok, hfd, Sem.run_pure, asAgg, part, isAggT_run hag w, if_true, info_of_size hi w]
              · cases hf
            · rename_i hag
              rw [hx]
              simp only [Instr.field, Sem.run_bind, run_und w hu, Result.andThen_ok, hfd, Sem.run_pure, asAgg, part, isAggT_run hag w, hf]
              rfl
            · cases hf
          · cases hf
        · cases hf
      · exact h.elim
    · exact h.elim
  case h_20 t x i ho =>
    replace h := ev_inv hA (ev_inv hA h)
    have hex : execOp a.eval o = (do pure (Next.value (← Instr.indexAt t (a.eval x) (a.eval i)))) := by simp only [execOp, ho]
    split at h
    · rename_i k m hi
      split at h
      · rename_i p len c hx
        split at h
        · rename_i e size he
          obtain ⟨h1, h2, h⟩ := h
          obtain ⟨b, o', rfl, h3⟩ := ptAt_inv h
          unfold elemOfSl at he
          split at he
          · rename_i e' hu
            split at he
            · rename_i j hj
              simp only [Option.some.injEq, Prod.mk.injEq] at he
              obtain ⟨rfl, rfl⟩ := he
              refine Yl.wp (yl_val hex (v := .pointer (some ⟨b, o' + m.toNat * j.size, none⟩)) (w' := w) ?_ h3)
              rw [hx, hi]
              simp [Instr.indexAt, asIntOf, run_und w hu, h1, h2, info_of_size hj w, Addr.add_mid]
            · cases he
          · cases he
        · exact h.elim
      · rename_i p hx
        split at h
        · rename_i len size he
          obtain ⟨h1, h2, h⟩ := h
          obtain ⟨b, o', rfl, h3⟩ := ptAt_inv h
          unfold arrOf at he
          split at he
          · rename_i len' e' hu
            split at he
            · rename_i j hj
              simp only [Option.some.injEq, Prod.mk.injEq] at he
              obtain ⟨rfl, rfl⟩ := he
              refine Yl.wp (yl_val hex (v := .pointer (some ⟨b, o' + m.toNat * j.size, none⟩)) (w' := w) ?_ h3)
              rw [hx, hi]
              simp [Instr.indexAt, asIntOf, run_und w hu, Instr.sureAddr, h1, h2, info_of_size hj w, Addr.add_mid]
            · cases he
          · cases he
        · exact h.elim
      · exact h.elim
    · exact h.elim
  case h_21 t x i ho =>
    replace h := ev_inv hA (ev_inv hA h)
    obtain ⟨v, hr, hK⟩ := runQ_yl h
    exact Yl.wp (yl_val (s := Instr.index t (a.eval x) (a.eval i)) (by simp only [execOp, ho]) hr hK)
  case h_22 t x i ok ho =>
    replace h := ev_inv hA (ev_inv hA h)
    obtain ⟨v, hr, hK⟩ := runQ_yl h
    exact Yl.wp (yl_val (s := Instr.lookup t (a.eval x) (a.eval i) ok) (by simp only [execOp, ho]) hr hK)
  case h_23 t m k x ho =>
    replace h := ev_inv hA (ev_inv hA (ev_inv hA h))
    obtain ⟨w', hr, hK⟩ := h
    exact Yl.wp (yl_unit (s := Instr.mapUpdate t (a.eval m) (a.eval k) (a.eval x)) (by simp only [execOp, ho]) hr hK)
  case h_24 t m k x ho =>
    replace h := ev_inv hA (ev_inv hA (ev_inv hA h))
    obtain ⟨w', hr, hK⟩ := h
    exact Yl.wp (yl_unit (s := Instr.mapUpdate t (a.eval m) (a.eval k) (a.eval x)) (by simp only [execOp, ho]) hr hK)
  case h_25 t x ho =>
    replace h := ev_inv hA h
    obtain ⟨v, w', hr, hK⟩ := runP_yl h
    exact Yl.wp (yl_val (s := Instr.range t (a.eval x)) (by simp only [execOp, ho]) hr hK)
  case h_26 it s ho =>
    replace h := ev_inv hA h
    obtain ⟨v, w', hr, hK⟩ := NextP.inv h
    exact Yl.wp (yl_val (s := Instr.next (a.eval it) s o.type) (by simp only [execOp, ho]) hr hK)
  case h_27 it ho =>
    replace h := ev_inv hA h
    obtain ⟨v, hr, hK⟩ := runQ_yl h
    exact Yl.wp (yl_val (s := Instr.entry (a.eval it)) (by simp only [execOp, ho]) hr hK)
  case h_28 t i ho =>
    replace h := ev_inv hA h
    split at h
    · rename_i vs hx
      split at h
      · rename_i u hu
        exact Yl.wp (yl_val (s := Instr.extract (a.eval t) i) (by simp only [execOp, ho]) (by rw [hx]; simp [Instr.extract, hu]) h)
      · exact h.elim
    · exact h.elim
  case h_29 t x ho =>
    replace h := ev_inv hA h
    obtain ⟨v, w', hr, hK⟩ := runP_yl h
    exact Yl.wp (yl_val (s := Instr.makeInterface t (a.eval x)) (by simp only [execOp, ho]) hr hK)
  case h_30 c ho => exact callP_wp hA ho h
  case h_31 => exact h.elim
end
end Go.Pl

/- 'den': the whole code of a function as a proposition; regions whose order is drawn. -/
namespace Go.Pl
set_option linter.unusedVariables false

inductive Ex where
  | normal | exit (id : Nat) | ret
def Ex.to : Ex → Exit
  | .normal => .normal
  | .exit i => .exit i
  | .ret => .ret
/-- The orders of a region: one operation, or one of several. -/
inductive Tr where
  | nil
  | op (i : Nat) (t : Tr)
  | alt (i : Nat) (t u : Tr)
def Tr.of : List Nat → Tr
  | [] => .nil
  | i :: is => .op i (Tr.of is)
def Tr.dep : Tr → Nat
  | .nil => 0
  | .op _ t => Tr.dep t + 1
  | .alt _ t u => max (Tr.dep t + 1) (Tr.dep u)
inductive Ann where
  | z
  | seq (j : Option (List Nat)) (a b : Ann)
  | ifs (ja jb : Option (List Nat)) (a b : Ann)
  | cond (a b : Ann)
  | block (j : Option (List Nat)) (a : Ann)
  | loop (l : List Nat) (a : Ann)
  | dr (cls ord : List Nat)
  | drt (x : Bool) (cls : List Nat) (t : Tr)

def shOf (T : List Sh) (d : Option Nat) : Sh := match d with | some d => (match T[d]? with | some s => s | none => .v (.one .any)) | none => .v (.one .any)
def kdOf (T : List Sh) (d : Nat) : Kd := match T[d]? with | some (.v (.one k)) => k | _ => .any
def Cur (T : List Sh) : List Nat → Type → Type
  | [], R => R
  | s :: ss, R => (kdOf T s).Fn (Cur T ss R)
def All (T : List Sh) {R : Type} : (l : List Nat) → Env → Cur T l R → (Env → R → Prop) → Prop
  | [], ρ, K, G => G ρ K
  | s :: ss, ρ, K, G => (kdOf T s).allF K fun v k => All T ss (upd ρ s (some v)) k G
def App (T : List Sh) {R : Type} : (l : List Nat) → Cur T l R → Env → (R → Prop) → Prop
  | [], K, _, G => G K
  | s :: ss, K, ρ, G => match ρ s with
    | some v => (kdOf T s).appF K v fun k => App T ss k ρ G
    | none => False
/-- What stands behind is bound to a name where several ways lead to it. -/
def abs (T : List Sh) (j : Option (List Nat)) (ws : List Nat) (ρ : Env) (rest : Env → World → Prop) (body : (Env → World → Prop) → Prop) : Prop :=
  match j with
  | none => body rest
  | some l => ∀ K : Cur T l (World → Prop), All T l (clr ws ρ) K (fun ρ' k => ∀ w', rest ρ' w' → k w') → body fun ρ' w' => App T l K ρ' fun k => k w'
def putE (n : Nat) (ρ : Env) (d : Option Nat) (v : Value) (K : Env → Prop) : Prop :=
  match d with
  | none => K ρ
  | some d => match Nat.blt d n with | true => K (upd ρ d (some v)) | false => False
def gslot (ops : Array Oper) (j : Nat) : Option Nat := match ops[j]? with | some o => o.dst | none => none
def beqB : Bool → Bool → Bool
  | true, true | false, false => true
  | _, _ => false
/-- An operation under its guard. -/
def grd (ops : Array Oper) (ρ : Env) (o : Oper) (run : Env → Prop) (skip : Env → Prop) : Prop :=
  match o.guard with
  | none => run ρ
  | some (j, want) => match gslot ops j with
    | some d => match ρ d with
      | some (.bool b) => sp b (match want with | true => run (upd ρ d (some (.bool true))) | false => skip (upd ρ d (some (.bool true))))
          (match want with | true => skip (upd ρ d (some (.bool false))) | false => run (upd ρ d (some (.bool false))))
      | some (.tuple _) => skip ρ
      | _ => False
    | none => False
def denOps (P : Program) (T : List Sh) (n : Nat) (ops : Array Oper) : List Oper → Env → World → (Env → World → Prop) → Prop
  | [], ρ, w, K => K ρ w
  | o :: os, ρ, w, K => grd ops ρ o
      (fun ρ => opP P ρ o (shOf T o.dst) w fun v w' => putE n ρ o.dst v fun ρ' => denOps P T n ops os ρ' w' K)
      (fun ρ => putE n ρ o.dst undef fun ρ' => denOps P T n ops os ρ' w K)

/-- Nothing that stood has turned. -/
structure Ext (w w' : World) : Prop where
  size : w.heap.size ≤ w'.heap.size
  blk : ∀ b, b < w.heap.size → w'.heap[b]? = w.heap[b]?
  os : w'.os = w.os
  out : w'.output = w.output
theorem Ext.refl (w : World) : Ext w w := ⟨Nat.le_refl _, fun _ _ => rfl, rfl, rfl⟩
theorem Ext.trans {a b c : World} (h : Ext a b) (k : Ext b c) : Ext a c :=
  ⟨Nat.le_trans h.size k.size, fun i hi => (k.blk i (Nat.lt_of_lt_of_le hi h.size)).trans (h.blk i hi), k.os.trans h.os, k.out.trans h.out⟩
theorem Ext.cel {w w' : World} (h : Ext w w') {b o : Nat} {v : Value} (hc : cel w b o = some v) : cel w' b o = some v := by
  have hb := World.block_lt_of_cell? w ⟨b, o, none⟩ hc
  have e := h.blk b hb
  unfold Pl.cel World.cell? at *
  simp only [e]
  exact hc
theorem Ext.row {w w' : World} (h : Ext w w') {b o : Nat} {vs : List Value} (hc : Row w b o vs) : Row w' b o vs :=
  fun j v hj => h.cel (hc j v hj)
/-- Nothing that stood has turned, but what may. -/
structure ExtX (X : Nat → Prop) (w w' : World) : Prop where
  blk : ∀ b, b < w.heap.size → ¬ X b → w'.heap[b]? = w.heap[b]?
theorem ExtX.cel {X : Nat → Prop} {w w' : World} (h : ExtX X w w') {b o : Nat} {v : Value} (hx : ¬ X b) (hc : cel w b o = some v) : cel w' b o = some v := by
  have hb := World.block_lt_of_cell? w ⟨b, o, none⟩ hc
  have e := h.blk b hb hx
  unfold Pl.cel World.cell? at *
  simp only [e]
  exact hc
theorem Ext.x {w w' : World} (X : Nat → Prop) (h : Ext w w') : ExtX X w w' := ⟨fun b hb _ => h.blk b hb⟩
def ExtO (X : Option (Nat → Prop)) (w w' : World) : Prop := match X with | none => Ext w w' | some X => ExtX X w w'
def LdO (X : Option (Nat → Prop)) (b : Nat) (p : Prop) : Prop := match X with | none => p | some X => ¬ X b ∧ p
theorem ExtO.refl (X : Option (Nat → Prop)) (w : World) : ExtO X w w := by
  cases X with
  | none => exact Ext.refl w
  | some X => exact (Ext.refl w).x X
theorem LdO.inv {X : Option (Nat → Prop)} {b : Nat} {p : Prop} (h : LdO X b p) : p ∧ ∀ w w' o v, ExtO X w w' → cel w b o = some v → cel w' b o = some v := by
  cases X with
  | none => exact ⟨h, fun w w' o v hx hc => Ext.cel hx hc⟩
  | some X => exact ⟨h.2, fun w w' o v hx hc => ExtX.cel hx h.1 hc⟩
def RunS (P : Program) (s : Sem Value) (sh : Sh) (X : Option (Nat → Prop)) (w0 : World) (K : Value → Prop) : Prop := sh.ex fun v => (∀ w, ExtO X w0 w → s.run P w = .ok v w) ∧ K v
/-- Operations that a drawn order may take at any time: they read what stood when the region began. -/
def opD (P : Program) (ρ : Env) (o : Oper) (sh : Sh) (X : Option (Nat → Prop)) (w0 : World) (K : Value → Prop) : Prop :=
  match o.op with
  | .move x | .assign x => ev ρ x K
  | .pick c a b => ev ρ c fun v => match v with
    | .bool b' => match b' with
      | true => ev ρ a K
      | false => ev ρ b K
    | _ => False
  | .load t x => ev ρ x fun v => match v with
    | .pointer p => match sh with
      | .v s => match ldOk P t s with | true => ptAt p fun b o => LdO X b (LdP s b o w0 K) | false => False
      | _ => False
    | _ => False
  | .nilCheck x => ev ρ x fun v => match v with
    | .pointer p => ptAt p fun b o => K (.pointer (some ⟨b, o, none⟩))
    | _ => False
  | .binOp op t x y _ => ev ρ x fun a => ev ρ y fun b => match a, b with
    | .int k a, .int k' b => binP P op t (.int k a) (.int k' b) x y sh w0 K
    | .bool a, .bool b => binP P op t (.bool a) (.bool b) x y sh w0 K
    | a, b => sh.ex fun v => (∀ w', (do eqGuard op t x y a b; binOp op t a b : Sem Value).run P w' = .ok v w') ∧ K v
  | .unOp op _ x => ev ρ x fun v => match op, v with
    | .not, .bool b => K (.bool (!b))
    | .neg, .int k n => K (.int k (k.wrap (0 - n)))
    | _, _ => False
  | .fieldAddr s x f => ev ρ x fun v => match v with
    | .pointer p => match fieldOff P s f with
      | some off => ptAt p fun b o => K (.pointer (some ⟨b, o + off, none⟩))
      | none => False
    | _ => False
  | .indexAddr t x i => ev ρ x fun v => ev ρ i fun i => match i with
    | .int _ n => match v with
      | .slice a len _ => match elemOfSl P t with
        | some (_, size) => 0 ≤ n ∧ n < len ∧ ptAt a fun b o => K (.pointer (some ⟨b, o + n.toNat * size, none⟩))
        | none => False
      | .pointer p => match arrOf P t with
        | some (len, size) => 0 ≤ n ∧ n < len ∧ ptAt p fun b o => K (.pointer (some ⟨b, o + n.toNat * size, none⟩))
        | none => False
      | _ => False
    | _ => False
  | .lookup t x i ok => ev ρ x fun v => ev ρ i fun i => RunS P (Instr.lookup t v i ok) sh X w0 K
  | .extract t i => ev ρ t fun v => match v with
    | .tuple vs => match vs[i]? with | some u => K u | none => False
    | _ => False
  | .build t parts => evp ρ parts.toList fun ps => match zeroOf P t with
    | some z => match P.underlying t with
      | some (.struct fs) => match plc P fs.toList with
        | some pl => match Instr.fill (fun i => pl[i]?) z.cells ps with
          | some cs => K (.agg cs)
          | none => False
        | none => False
      | _ => False
    | none => False
  | .call c => evs ρ c.args.toList fun vs => match c.callee with
    | .builtin .len => match vs with
      | [.slice _ n _] => match (c.argTypes[0]?).bind P.underlying with | some (.slice _) => K (.int .i64 n) | _ => False
      | _ => False
    | .builtin .max => match vs with
      | .int k x :: r => foldI mxI x r fun z => K (.int k z)
      | _ => False
    | .builtin .min => match vs with
      | .int k x :: r => foldI mnI x r fun z => K (.int k z)
      | _ => False
    | _ => False
  | _ => False
/-- What must hold that an operation may be taken now, whatever the order. -/
def waits (ops : Array Oper) : Nat → Nat → Nat → Bool
  | 0, _, _ => false
  | f + 1, j, i => match ops[j]? with
    | some o => o.after.toList.any fun e => Region.binds .any e && (Nat.beq e.on i || waits ops f e.on i)
    | none => false
def clsOf (cls : List Nat) (i : Nat) : Nat := match cls[i]? with | some c => c | none => 0
def isPure : Op → Bool
  | .load .. | .lookup .. => false
  | _ => true
def isLate (cls : List Nat) (i : Nat) : Bool := Nat.ble 3 (clsOf cls i)
def okQ (ops : Array Oper) (cls : List Nat) (listed : Array Bool) (i : Nat) (o : Oper) : Bool :=
  Region.noSelect ops && Region.free .any ops listed i && (Region.ready .any ops listed).contains i && !isLate cls i &&
  (isPure o.op || (List.range ops.size).all fun j => !isLate cls j || waits ops ops.size j i)
def beqL : List Nat → List Nat → Bool
  | [], [] => true
  | a :: as, b :: bs => match Nat.beq a b with | true => beqL as bs | false => false
  | _, _ => false
def okN (ops : Array Oper) (listed : Array Bool) (pre : List Nat) (i : Nat) : Bool := beqL (Region.ready .any ops listed) (pre ++ [i])
def okE (ops : Array Oper) (listed : Array Bool) : Bool := match Region.ready .any ops listed with | [] => true | _ => false
/-- An operation that is taken alone, or in turn with others. -/
def loud (P : Program) (T : List Sh) (n : Nat) (ops : Array Oper) (late : Bool) (X : Option (Nat → Prop)) (w0 : World) (i : Nat) (o : Oper) (ρ : Env) (w : World) (go : Env → World → Prop) : Prop :=
  grd ops ρ o
    (fun ρ => opP P ρ o (shOf T o.dst) w fun v w' => match late with
      | true => putE n ρ o.dst v fun ρ' => go ρ' w'
      | false => ExtO X w0 w' ∧ putE n ρ o.dst v fun ρ' => go ρ' w')
    (fun ρ => putE n ρ o.dst undef fun ρ' => go ρ' w)
def denD (P : Program) (T : List Sh) (n : Nat) (ops : Array Oper) (cls : List Nat) (X : Option (Nat → Prop)) (w0 : World) : Tr → List Nat → Array Bool → Env → World → (Env → World → Prop) → Prop
  | .nil, pre, listed, ρ, w, K => match pre with | [] => (match okE ops listed with | true => K ρ w | false => False) | _ :: _ => False
  | .op i t, pre, listed, ρ, w, K => match ops[i]? with
    | none => False
    | some o => match Nat.ble 2 (clsOf cls i) with
      | false => match pre with
        | [] => (match okQ ops cls listed i o with
          | true => grd ops ρ o
            (fun ρ => opD P ρ o (shOf T o.dst) X w0 fun v => putE n ρ o.dst v fun ρ' => denD P T n ops cls X w0 t [] (listed.setIfInBounds i true) ρ' w K)
            (fun ρ => putE n ρ o.dst undef fun ρ' => denD P T n ops cls X w0 t [] (listed.setIfInBounds i true) ρ' w K)
          | false => False)
        | _ :: _ => False
      | true => match okN ops listed pre i with
        | true => loud P T n ops (isLate cls i) X w0 i o ρ w fun ρ' w' => denD P T n ops cls X w0 t [] (listed.setIfInBounds i true) ρ' w' K
        | false => False
  | .alt i t u, pre, listed, ρ, w, K => match ops[i]? with
    | none => False
    | some o => match Nat.ble 2 (clsOf cls i) with
      | false => False
      | true => loud P T n ops (isLate cls i) X w0 i o ρ w (fun ρ' w' => denD P T n ops cls X w0 t [] (listed.setIfInBounds i true) ρ' w' K) ∧ denD P T n ops cls X w0 u (pre ++ [i]) listed ρ w K
def denR (P : Program) (T : List Sh) (n : Nat) (ops : Array Oper) (cls : List Nat) (X : Option (Nat → Prop)) (t : Tr) (ρ : Env) (w : World) (K : Env → World → Prop) : Prop :=
  match Nat.ble (Tr.dep t) ops.size with
  | true => denD P T n ops cls X w.drew t [] (Array.replicate ops.size false) ρ w.drew K
  | false => False
/-- The temporaries that code writes. -/
def wr : Code → List Nat
  | .region _ ops _ => ops.toList.filterMap (·.dst)
  | .seq x y => wr x ++ wr y
  | .cond _ x y => wr x ++ wr y
  | .block _ x => wr x
  | .loop x => wr x
  | .scope x => wr x
  | _ => []
def Ex.seqQ (K : Env → World → Prop) (Q : Ex → Env → World → Prop) : Ex → Env → World → Prop
  | .normal => K
  | .exit i => Q (.exit i)
  | .ret => Q .ret
def condV (v : Value) (A B : Prop) : Prop := match v with | .bool t => sp t A B | _ => False
def Ex.blkQ (id : Nat) (K : Env → World → Prop) (Q : Ex → Env → World → Prop) : Ex → Env → World → Prop
  | .normal => K
  | .exit i => match Nat.beq i id with | true => K | false => Q (.exit i)
  | .ret => Q .ret
def Ex.loopQ (T : List Sh) (l : List Nat) (J : Cur T l (World → Nat → Prop)) (m : Nat) (Q : Ex → Env → World → Prop) : Ex → Env → World → Prop
  | .normal => fun ρ w => App T l J ρ fun (j : World → Nat → Prop) => ∃ m', m' < m ∧ j w m'
  | .exit i => Q (.exit i)
  | .ret => Q .ret
def den (P : Program) (T : List Sh) (n : Nat) : Code → Ann → Env → World → (Ex → Env → World → Prop) → Prop
  | .skip, _, ρ, w, Q => Q .normal ρ w
  | .label _, _, ρ, w, Q => Q .normal ρ w
  | .exit i, _, ρ, w, Q => Q (.exit i) ρ w
  | .ret, _, ρ, w, Q => Q .ret ρ w
  | .region _ ops false, _, ρ, w, Q => denOps P T n ops ops.toList ρ w (Q .normal)
  | .region _ ops true, .dr cls ord, ρ, w, Q => denR P T n ops cls none (Tr.of ord) ρ w (Q .normal)
  | .region _ ops true, .drt x cls t, ρ, w, Q => match x with
    | true => ∃ X : Nat → Prop, denR P T n ops cls (some X) t ρ w (Q .normal)
    | false => denR P T n ops cls none t ρ w (Q .normal)
  | .seq x y, .seq j a b, ρ, w, Q => abs T j (wr x) ρ (fun ρ' w' => den P T n y b ρ' w' Q) fun K => den P T n x a ρ w (Ex.seqQ K Q)
  | .seq x (.cond c y z), .ifs ja jb a b, ρ, w, Q => abs T ja (wr x) ρ (fun ρ' w' => den P T n y a ρ' w' Q) fun KA => abs T jb (wr x) ρ (fun ρ' w' => den P T n z b ρ' w' Q) fun KB =>
      den P T n x .z ρ w (Ex.seqQ (fun ρ' w' => ev ρ' c fun v => condV v (KA ρ' w') (KB ρ' w')) Q)
  | .cond c x y, .cond a b, ρ, w, Q => ev ρ c fun v => condV v (den P T n x a ρ w Q) (den P T n y b ρ w Q)
  | .block id x, .block j a, ρ, w, Q => abs T j (wr x) ρ (Q .normal) fun K => den P T n x a ρ w (Ex.blkQ id K Q)
  | .loop x, .loop l a, ρ, w, Q => ∃ J : Cur T l (World → Nat → Prop), App T l J ρ (fun (j : World → Nat → Prop) => ∃ m, j w m) ∧
      All T l (clr (wr x) ρ) J fun ρ' (j : World → Nat → Prop) => ∀ w' m, j w' m → den P T n x a ρ' w' (Ex.loopQ T l J m Q)
  | _, _, _, _, _ => False
/-- The results. -/
def resP (P : Program) (T : List Sh) : List ResultVar → Env → World → (List Value → Prop) → Prop
  | [], _, _, K => K []
  | .tmp t :: rs, ρ, w, K => match ρ t with | some v => resP P T rs ρ w fun vs => K (v :: vs) | none => False
  | .cell t ty :: rs, ρ, w, K => match ρ t with
    | some (.pointer (some ⟨b, o, none⟩)) => match T[t]? with
      | some (.t [s]) => match ldOk P ty s with
        | true => LdP s b o w fun v => resP P T rs ρ w fun vs => K (v :: vs)
        | false => False
      | _ => False
    | _ => False
def retP (P : Program) (T : List Sh) (fn : Func) (R : Value → World → Prop) (ρ : Env) (w : World) : Prop :=
  resP P T fn.results.toList ρ w fun vs => match vs with
    | [v] => R v w
    | vs => R (.tuple ⟨vs⟩) w
def Ex.retQ (P : Program) (T : List Sh) (fn : Func) (R : Value → World → Prop) : Ex → Env → World → Prop
  | .exit _ => fun _ _ => False
  | .normal => retP P T fn R
  | .ret => retP P T fn R
def env0 (vs : List Value) : Env := fun t => vs[t]?
def denF (P : Program) (T : List Sh) (fn : Func) (ann : Ann) (args : List Value) (w : World) (R : Value → World → Prop) : Prop :=
  match fn.body with
  | some c => den P T fn.ntmps c ann (env0 args) w (Ex.retQ P T fn R)
  | none => False
end Go.Pl
