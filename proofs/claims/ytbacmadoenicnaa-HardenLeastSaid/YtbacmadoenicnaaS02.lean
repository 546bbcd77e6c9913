/- Joined texts of the proof, part 2: Model14, Model15, Model16, Model17, Model18, Model19. -/
import Derived.Test.YtbacmadoenicnaaS01
set_option maxRecDepth 2000
set_option linter.unusedVariables false
set_option linter.unusedSimpArgs false
set_option linter.unusedSectionVars false
/- Labels come to rest: each round in which one turned has raised one, and they are few. -/
namespace Go.Pl.M
set_option linter.unusedVariables false
theorem isum_le {α : Type} {f g : α → Int} : ∀ {l : List α}, (∀ a ∈ l, f a ≤ g a) → (l.map f).sum ≤ (l.map g).sum
  | [], _ => by simp
  | a :: l, h => by
    have h1 := h a (by simp)
    have h2 := isum_le (l := l) fun x hx => h x (by simp [hx])
    simp only [List.map_cons, List.sum_cons]; omega
theorem isum_lt {α : Type} {f g : α → Int} : ∀ {l : List α}, (∀ a ∈ l, f a ≤ g a) → (∃ a ∈ l, f a < g a) → (l.map f).sum < (l.map g).sum
  | [], _, h => by obtain ⟨a, h, _⟩ := h; simp at h
  | a :: l, h, h' => by
    have h1 := h a (by simp)
    have h2 := isum_le (l := l) fun x hx => h x (by simp [hx])
    simp only [List.map_cons, List.sum_cons]
    obtain ⟨x, hx, hlt⟩ := h'
    rcases List.mem_cons.1 hx with rfl | hx
    · omega
    · have := isum_lt (l := l) (fun x hx => h x (by simp [hx])) ⟨x, hx, hlt⟩
      omega
theorem isum_set : ∀ {l : List Int} {k : Nat} {b : Int}, k < l.length → (l.set k b).sum = l.sum - l.getD k 0 + b
  | [], k, b, h => by simp at h
  | a :: l, 0, b, _ => by simp; omega
  | a :: l, k + 1, b, h => by
    have := isum_set (l := l) (k := k) (b := b) (by simpa using h)
    simp only [List.set_cons_succ, List.sum_cons, List.getD_cons_succ, this]; omega
theorem isum_top {α : Type} {f : α → Int} {m : Int} : ∀ {l : List α}, (∀ a ∈ l, f a ≤ m) → (l.map f).sum ≤ m * (l.length : Int)
  | [], _ => by simp
  | a :: l, h => by
    have h1 := h a (by simp)
    have h2 := isum_top (l := l) fun x hx => h x (by simp [hx])
    simp only [List.map_cons, List.sum_cons, List.length_cons]
    rw [Int.natCast_add, Int.mul_add]
    omega
abbrev lab (x : Int) : Prop := 0 ≤ x ∧ x ≤ 2
theorem lab_stays {x : Int} (h : lab x) : lab (stays x) := by unfold stays; split <;> simp [lab, h]
def Prg.names (p : Prg) (f : Nat) : List Int := match p.funcs[f]? with | some x => x.made | none => []
structure TS.Ok (p : Prg) (s : TS) : Prop where
  vl : s.vals.length = p.funcs.length
  al : s.arrs.length = p.arrs.length
  rl : s.rets.length = p.funcs.length
  v : ∀ f v, lab (s.get f v)
  a : ∀ k, lab (s.arrs.getD k 0)
  r : ∀ k, lab (s.rets.getD k 0)
def TS.mass (p : Prg) (s : TS) : Int := ((List.range p.funcs.length).map fun f => ((p.names f).map (s.get f)).sum).sum + s.arrs.sum + s.rets.sum
structure Rise (p : Prg) (s s' : TS) : Prop where
  ok : s'.Ok p
  le : s.mass p ≤ s'.mass p
  up : s'.turned = true → s.turned = true ∨ s.mass p < s'.mass p
theorem Rise.refl {p : Prg} {s : TS} (h : s.Ok p) : Rise p s s := ⟨h, Int.le_refl _, .inl⟩
theorem Rise.trans {p : Prg} {a b c : TS} (h : Rise p a b) (k : Rise p b c) : Rise p a c :=
  ⟨k.ok, Int.le_trans h.le k.le, fun e => by
    rcases k.up e with h1 | h1
    · rcases h.up h1 with h2 | h2
      · exact .inl h2
      · exact .inr (Int.lt_of_lt_of_le h2 k.le)
    · exact .inr (Int.lt_of_le_of_lt h.le h1)⟩
theorem TS.get_put {s : TS} {f : Nat} {v x : Int} (hf : f < s.vals.length) (g : Nat) (y : Int) : (s.put f v x).get g y = if g = f ∧ y = v then x else s.get g y := by
  unfold TS.put TS.get
  simp only [List.getD_eq_getElem?_getD, List.getElem?_set]
  by_cases hg : f = g
  · subst hg
    simp [hf]
  · rw [if_neg hg, if_neg (by omega)]
section
variable {p : Prg} {cut : List (Int → Bool)}
theorem val_rise {s : TS} (h : s.Ok p) {f : Nat} {v to : Int} (hf : f < p.funcs.length) (hv : v ∈ p.names f) (hto : lab to) : Rise p s (s.val cut f v to) := by
  unfold TS.val
  have ht : lab (if cutAt cut f v then stays to else to) := by split; exact lab_stays hto; exact hto
  generalize (if cutAt cut f v then stays to else to) = t at *
  simp only
  split
  · rename_i hlt
    have hg := TS.get_put (s := s) (f := f) (v := v) (x := t) (by rw [h.vl]; exact hf)
    have hup : ∀ g y, s.get g y ≤ (s.put f v t).get g y := by
      intro g y
      rw [hg]
      split
      · rename_i e; obtain ⟨rfl, rfl⟩ := e; omega
      · omega
    have hm : s.mass p < TS.mass p { s.put f v t with turned := true } := by
      have h2 : ((List.range p.funcs.length).map fun g => ((p.names g).map (s.get g)).sum).sum < ((List.range p.funcs.length).map fun g => ((p.names g).map ((s.put f v t).get g)).sum).sum := by
        refine isum_lt (fun g _ => isum_le fun y _ => hup g y) ⟨f, List.mem_range.2 hf, isum_lt (fun y _ => hup f y) ⟨v, hv, ?_⟩⟩
        rw [hg, if_pos ⟨rfl, rfl⟩]; exact hlt
      show ((List.range p.funcs.length).map fun g => ((p.names g).map (s.get g)).sum).sum + s.arrs.sum + s.rets.sum < ((List.range p.funcs.length).map fun g => ((p.names g).map ((s.put f v t).get g)).sum).sum + s.arrs.sum + s.rets.sum
      omega
    refine ⟨⟨by show (s.vals.set _ _).length = _; simp [h.vl], h.al, h.rl, fun g y => ?_, h.a, h.r⟩, Int.le_of_lt hm, fun _ => .inr hm⟩
    show lab ((s.put f v t).get g y)
    rw [hg]
    split
    · exact ht
    · exact h.v g y
  · exact .refl h
theorem getD_set_lab {l : List Int} {k : Nat} {x : Int} (h : ∀ j, lab (l.getD j 0)) (hx : lab x) (j : Nat) : lab ((l.set k x).getD j 0) := by
  simp only [List.getD_eq_getElem?_getD, List.getElem?_set]
  split
  · split
    · exact hx
    · exact ⟨Int.le_refl _, by decide⟩
  · simpa [List.getD_eq_getElem?_getD] using h j
theorem arr_rise {s : TS} (h : s.Ok p) {k : Nat} {to : Int} (hk : k < p.arrs.length) (hto : lab to) : Rise p s (s.arr k to) := by
  unfold TS.arr
  split
  · rename_i hlt
    have hs := isum_set (l := s.arrs) (k := k) (b := to) (by rw [h.al]; exact hk)
    have hm : s.mass p < TS.mass p { s with arrs := s.arrs.set k to, turned := true } := by
      show _ + s.arrs.sum + s.rets.sum < _ + (s.arrs.set k to).sum + s.rets.sum
      rw [hs]
      show _ < ((List.range p.funcs.length).map fun f => ((p.names f).map (s.get f)).sum).sum + _ + _
      omega
    exact ⟨⟨h.vl, by simp [h.al], h.rl, h.v, fun j => getD_set_lab h.a hto j, h.r⟩, Int.le_of_lt hm, fun _ => .inr hm⟩
  · exact .refl h
theorem ret_rise {s : TS} (h : s.Ok p) {k : Nat} {to : Int} (hk : k < p.funcs.length) (hto : lab to) : Rise p s (s.ret k to) := by
  unfold TS.ret
  split
  · rename_i hlt
    have hs := isum_set (l := s.rets) (k := k) (b := to) (by rw [h.rl]; exact hk)
    have hm : s.mass p < TS.mass p { s with rets := s.rets.set k to, turned := true } := by
      show _ + s.arrs.sum + s.rets.sum < _ + s.arrs.sum + (s.rets.set k to).sum
      rw [hs]
      show _ < ((List.range p.funcs.length).map fun f => ((p.names f).map (s.get f)).sum).sum + _ + _
      omega
    exact ⟨⟨h.vl, h.al, by simp [h.rl], h.v, h.a, fun j => getD_set_lab h.r hto j⟩, Int.le_of_lt hm, fun _ => .inr hm⟩
  · exact .refl h
theorem of_lab {s : TS} (h : s.Ok p) (f : Nat) (l : List Int) : lab (s.of f l) := by
  unfold TS.of
  have : ∀ (l : List Int) (o : Int), lab o → lab (l.foldl (fun o v => if s.get f v ≤ o then o else s.get f v) o) := by
    intro l
    induction l with
    | nil => intro o ho; exact ho
    | cons v l ih =>
      intro o ho
      rw [List.foldl_cons]
      refine ih _ ?_
      split
      · exact ho
      · exact h.v f v
  exact this l 0 ⟨Int.le_refl _, by decide⟩
theorem pass_rise {f g : Nat} (hg : g < p.funcs.length) : ∀ (l : List (Int × Int)) (s : TS), s.Ok p → (∀ x ∈ l, x.1 ∈ p.names g) → Rise p s (TS.pass cut f g l s)
  | [], s, h, _ => .refl h
  | (v, a) :: l, s, h, hv => by
    rw [TS.pass]
    have h1 := val_rise (cut := cut) h hg (hv (v, a) (by simp)) (lab_stays (h.v f a))
    exact h1.trans (pass_rise hg l _ h1.ok fun x hx => hv x (by simp [hx]))
theorem mem_made {f : Fnc} {b : Blk} {i : Ins} (hb : b ∈ f.blocks) (hi : i ∈ b.ins) (h0 : i.dst ≠ 0) : i.dst ∈ f.made := by
  unfold Fnc.made
  refine List.mem_flatMap.2 ⟨b, hb, ?_⟩
  unfold Blk.made dsts
  refine List.mem_append_right _ (List.mem_filter.2 ⟨List.mem_map.2 ⟨i, hi, rfl⟩, by simp [h0]⟩)
theorem mem_params {f : Fnc} {b : Blk} {v : Int} (hb : b ∈ f.blocks) (hv : v ∈ b.params) : v ∈ f.made := by
  unfold Fnc.made
  exact List.mem_flatMap.2 ⟨b, hb, by unfold Blk.made; exact List.mem_append_left _ hv⟩
theorem zip_fst {α β : Type} {l : List α} {m : List β} {x : α × β} (h : x ∈ l.zip m) : x.1 ∈ l := (List.of_mem_zip h).1
theorem names_of {k : Nat} {f : Fnc} (h : p.funcs[k]? = some f) : p.names k = f.made := by unfold Prg.names; rw [h]
theorem fnc_params {f : Fnc} {v : Int} (h : v ∈ f.params) : v ∈ f.made := by
  unfold Fnc.params at h
  split at h
  · simp at h
  · rename_i b bs e
    exact mem_params (by rw [e]; simp) h
theorem lab_may (writes : List Bool) (i : Ins) : lab (may writes i) := by
  unfold may
  split
  · simp [lab]
  · split <;> simp [lab]
theorem lab_mx {a b : Int} (ha : lab a) (hb : lab b) : lab (mx a b) := by unfold mx; split <;> assumption
theorem ins_rise {writes : List Bool} {k : Nat} {f : Fnc} (hf : p.funcs[k]? = some f) {b : Blk} (hb : b ∈ f.blocks) {i : Ins} (hi : i ∈ b.ins) (hr : rightOk p i = true) {s : TS} (h : s.Ok p) : Rise p s (s.ins p cut writes k i) := by
  have hk := (List.getElem?_eq_some_iff.1 hf).1
  unfold rightOk at hr
  simp only [Bool.and_eq_true] at hr
  have hd : (shapeOf i.op).2 = true → i.dst ∈ p.names k := by
    intro e
    have := hr.1.1.2
    rw [e] at this
    rw [names_of hf]
    refine mem_made hb hi ?_
    simp at this
    omega
  unfold TS.ins
  simp only
  split
  · rename_i e
    exact val_rise h hk (hd (by simp [shapeOf, e])) ⟨Int.le_refl _, by decide⟩
  split
  · rename_i e
    exact val_rise h hk (hd (by simp [shapeOf, e])) (of_lab h k _)
  split
  · rename_i e
    refine val_rise h hk (hd (by rcases e with e | e <;> simp [shapeOf, e])) (lab_mx (lab_mx (h.a _) (of_lab h k _)) (lab_may _ _))
  split
  · rename_i e
    refine arr_rise h ?_ (lab_stays (of_lab h k _))
    have := hr.2
    rw [if_neg (by omega), if_pos (by omega)] at this
    simp only [Bool.and_eq_true] at this
    have h2 := this.2
    split at h2
    · rename_i a ha; exact (List.getElem?_eq_some_iff.1 ha).1
    · cases h2
  split
  · rename_i e
    refine arr_rise h ?_ (lab_stays (h.v k _))
    have := hr.2
    rw [if_neg (by omega), if_neg (by omega), if_pos (by omega)] at this
    simp only [Bool.and_eq_true] at this
    have h2 := this.2
    split at h2
    · rename_i a ha; exact (List.getElem?_eq_some_iff.1 ha).1
    · cases h2
  split
  · rename_i e
    have := hr.2
    rw [if_neg (by omega), if_neg (by omega), if_neg (by omega), if_pos e] at this
    simp only [Bool.and_eq_true] at this
    have h2 := this.2
    split at h2
    · rename_i g hg
      have hgl := (List.getElem?_eq_some_iff.1 hg).1
      have h1 := pass_rise (cut := cut) (f := k) hgl (g.params.zip i.args) s h fun x hx => by
        rw [names_of hg]; exact fnc_params (zip_fst hx)
      try rw [hg]
      exact h1.trans (val_rise h1.ok hk (hd (by simp [shapeOf, e])) (h1.ok.r _))
    · cases h2
  · exact .refl h
theorem way_rise {k : Nat} (hk : k < p.funcs.length) : ∀ (l : List (Int × Int)) (s : TS), s.Ok p → (∀ x ∈ l, x.1 ∈ p.names k) → Rise p s (TS.way cut k l s)
  | [], s, h, _ => .refl h
  | (v, a) :: l, s, h, hv => by
    rw [TS.way]
    have h1 := val_rise (cut := cut) h hk (hv (v, a) (by simp)) (h.v k a)
    exact h1.trans (way_rise hk l _ h1.ok fun x hx => hv x (by simp [hx]))
theorem ways_rise {k : Nat} {f : Fnc} (hf : p.funcs[k]? = some f) : ∀ (l : List Edg) (s : TS), s.Ok p → Rise p s (TS.ways cut f.blocks k l s)
  | [], s, h => .refl h
  | e :: l, s, h => by
    rw [TS.ways]
    have h1 := way_rise (cut := cut) (List.getElem?_eq_some_iff.1 hf).1 ((match f.blocks[e.to.toNat]? with | some b => b.params | none => []).zip e.args) s h fun x hx => by
      have := zip_fst hx
      split at this
      · rename_i b hb
        rw [names_of hf]; exact mem_params (List.mem_of_getElem? hb) this
      · simp at this
    exact h1.trans (ways_rise hf l _ h1.ok)
theorem fold_rise {α : Type} {g : TS → α → TS} : ∀ (l : List α) (s : TS), s.Ok p → (∀ a ∈ l, ∀ s, s.Ok p → Rise p s (g s a)) → Rise p s (l.foldl g s)
  | [], s, h, _ => .refl h
  | a :: l, s, h, hg => by
    rw [List.foldl_cons]
    have h1 := hg a (by simp) s h
    exact h1.trans (fold_rise l _ h1.ok fun x hx => hg x (by simp [hx]))
theorem block_rise {writes : List Bool} {k : Nat} {f : Fnc} (hf : p.funcs[k]? = some f) {b : Blk} (hb : b ∈ f.blocks) (hr : ∀ i ∈ b.ins, rightOk p i = true) {s : TS} (h : s.Ok p) : Rise p s (s.block p cut writes f.blocks k b) := by
  unfold TS.block
  simp only
  have h1 := fold_rise (g := fun s i => s.ins p cut writes k i) b.ins s h fun i hi s hs => ins_rise hf hb hi (hr i hi) hs
  have h2 := h1.trans (ways_rise (cut := cut) hf b.fin.ways _ h1.ok)
  split
  · exact h2.trans (ret_rise h2.ok (List.getElem?_eq_some_iff.1 hf).1 (lab_stays (h2.ok.v _ _)))
  · exact h2
theorem blocks_rise {writes : List Bool} {k : Nat} {f : Fnc} (hf : p.funcs[k]? = some f) (hr : ∀ b ∈ f.blocks, ∀ i ∈ b.ins, rightOk p i = true) : ∀ (l : List (Bool × Blk)) (s : TS), s.Ok p → (∀ x ∈ l, x.2 ∈ f.blocks) → Rise p s (TS.blocks p cut writes f.blocks k l s)
  | [], s, h, _ => .refl h
  | (r, b) :: l, s, h, hl => by
    rw [TS.blocks]
    have hb := hl (r, b) (by simp)
    have h1 : Rise p s (if r = true then s.block p cut writes f.blocks k b else s) := by
      split
      · exact block_rise hf hb (hr b hb) h
      · exact .refl h
    exact h1.trans (blocks_rise hf hr l _ h1.ok fun x hx => hl x (by simp [hx]))
theorem round_rise {writes : List Bool} (hr : ∀ f ∈ p.funcs, ∀ b ∈ f.blocks, ∀ i ∈ b.ins, rightOk p i = true) : ∀ (l : List Fnc) (k : Nat) (s : TS), s.Ok p → (∀ (j : Nat) (f : Fnc), l[j]? = some f → p.funcs[k + j]? = some f) → Rise p s (TS.round p cut writes k l s)
  | [], k, s, h, _ => .refl h
  | f :: l, k, s, h, hl => by
    rw [TS.round]
    have hf : p.funcs[k]? = some f := by simpa using hl 0 f (by simp)
    have h1 := blocks_rise (cut := cut) (writes := writes) hf (hr f (List.mem_of_getElem? hf)) (f.reach.zip f.blocks) s h fun x hx => (List.of_mem_zip hx).2
    refine h1.trans (round_rise hr l (k + 1) _ h1.ok fun j g hg => ?_)
    have := hl (j + 1) g (by simpa using hg)
    rw [← this]; congr 1; omega
def Prg.most (p : Prg) : Int := ((List.range p.funcs.length).map fun f => 2 * ((p.names f).length : Int)).sum + 2 * (p.arrs.length : Int) + 2 * (p.funcs.length : Int)
theorem labs_sum {l : List Int} (h : ∀ k, lab (l.getD k 0)) : l.sum ≤ 2 * (l.length : Int) := by
  have := isum_top (f := fun x : Int => x) (m := 2) (l := l) fun a ha => by
    obtain ⟨i, hi⟩ := List.mem_iff_getElem?.1 ha
    have := h i
    rw [List.getD_eq_getElem?_getD, hi] at this
    exact this.2
  simpa using this
theorem mass_most {s : TS} (h : s.Ok p) : s.mass p ≤ p.most := by
  unfold TS.mass Prg.most
  have h1 := labs_sum h.a
  have h2 := labs_sum h.r
  rw [h.al] at h1
  rw [h.rl] at h2
  have h3 : ((List.range p.funcs.length).map fun f => ((p.names f).map (s.get f)).sum).sum ≤ ((List.range p.funcs.length).map fun f => 2 * ((p.names f).length : Int)).sum :=
    isum_le fun f _ => isum_top fun v _ => (h.v f v).2
  omega
theorem go_ends {writes : List Bool} (hr : ∀ f ∈ p.funcs, ∀ b ∈ f.blocks, ∀ i ∈ b.ins, rightOk p i = true) : ∀ (k : Nat) (s : TS), s.Ok p → (p.most - s.mass p).toNat + 2 ≤ k → ∃ r, TS.go p cut writes k s = some r
  | 0, s, h, hk => by omega
  | k + 1, s, h, hk => by
    rw [TS.go]
    split
    · have h0 : TS.Ok p { s with turned := false } := ⟨h.vl, h.al, h.rl, h.v, h.a, h.r⟩
      have hR := round_rise (cut := cut) (writes := writes) hr p.funcs 0 _ h0 fun j f hf => by simpa using hf
      generalize TS.round p cut writes 0 p.funcs { s with turned := false } = s1 at *
      have hm : TS.mass p { s with turned := false } = s.mass p := rfl
      have hle := hR.le
      have hup := hR.up
      rw [hm] at hle hup
      have hmm := mass_most hR.ok
      by_cases ht : s1.turned = true
      · rcases hup ht with h1 | h1
        · cases h1
        · exact go_ends hr k s1 hR.ok (by omega)
      · match k, hk with
        | k + 1, _ => exact ⟨s1, by rw [TS.go, if_neg ht]⟩
    · exact ⟨s, rfl⟩
theorem start_ok (ha : p.arrs.all arrOk = true) : p.start.Ok p := by
  refine ⟨by simp [Prg.start], by simp [Prg.start], by simp [Prg.start], fun f v => ?_, fun k => ?_, fun k => ?_⟩
  · unfold TS.get Prg.start
    simp only [List.getD_eq_getElem?_getD, List.getElem?_replicate]
    split <;> simp [lab]
  · unfold Prg.start
    simp only [List.getD_eq_getElem?_getD, List.getElem?_map]
    cases p.arrs[k]? with
    | none => simp [lab]
    | some a => simp only [Option.map_some, Option.getD_some, Arr.lab]; split <;> simp [lab]
  · unfold Prg.start
    simp only [List.getD_eq_getElem?_getD, List.getElem?_replicate]
    split <;> simp [lab]
end
end Go.Pl.M

/- What 'HardenNets' asks of a function's hazards, as plain Lean. -/
namespace Go.Pl.M
set_option linter.unusedVariables false
def pput (ks : List (Int × Int)) (p : Int × Int) : List (Int × Int) := if p ∈ ks then ks else ks ++ [p]
def pputs (l : List (Int × Int)) : List (Int × Int) := l.foldl pput []
theorem mem_pput {ks : List (Int × Int)} {p q : Int × Int} : q ∈ pput ks p ↔ q ∈ ks ∨ q = p := by
  unfold pput
  split
  · rename_i h
    exact ⟨.inl, fun e => by rcases e with e | rfl; exact e; exact h⟩
  · simp
theorem mem_pputs {l : List (Int × Int)} {q : Int × Int} : q ∈ pputs l ↔ q ∈ l := by
  have : ∀ (l ks : List (Int × Int)), q ∈ l.foldl pput ks ↔ q ∈ ks ∨ q ∈ l := by
    intro l
    induction l with
    | nil => intro ks; simp
    | cons a l ih => intro ks; rw [List.foldl_cons, ih, mem_pput]; simp [or_assoc]
  unfold pputs
  rw [this]; simp
theorem pputs_snoc (l : List (Int × Int)) (p : Int × Int) : pputs (l ++ [p]) = pput (pputs l) p := by unfold pputs; rw [List.foldl_append]; rfl
def noteW (at_ : Int → Option Int) (ks : List (Int × Int)) (a b : Int) : List (Int × Int) := match at_ a, at_ b with
  | some x, some y => pput ks (x, y)
  | _, _ => ks
theorem noteW_way (z : Hz) (a b : Int) : noteW z.at_ (pputs z.ways) a b = pputs (z.way a b).ways := by
  unfold noteW Hz.way
  cases z.at_ a with
  | none => rfl
  | some x =>
    cases z.at_ b with
    | none => rfl
    | some y => exact (pputs_snoc _ _).symm
/-- Where a place is, its value is. -/
def HzI (z : Hz) : Prop := ∀ v n, z.at_ v = some n → ∃ m : Nat, n = (m : Int) ∧ z.vals[m]? = some v
theorem hzi_new : HzI Hz.new := fun v n h => by cases h
theorem value_hzi {lab : Int → Int} {wt : Int} {z : Hz} {v : Int} (h : HzI z) : HzI (z.value lab wt v) := by
  unfold Hz.value
  split
  · intro x n hx
    simp only at hx ⊢
    split at hx
    · rename_i e
      subst e
      cases hx
      exact ⟨z.vals.length, rfl, by simp⟩
    · obtain ⟨m, h1, h2⟩ := h x n hx
      exact ⟨m, h1, by rw [List.getElem?_append_left (List.getElem?_eq_some_iff.1 h2).1]; exact h2⟩
  · exact h
theorem hzVals_hzi (lab : Int → Int) (wt : Int) : ∀ (l : List Int) (z : Hz), HzI z → HzI (hzVals lab wt l z)
  | [], z, h => h
  | v :: vs, z, h => by rw [hzVals]; exact hzVals_hzi lab wt vs _ (value_hzi h)
theorem hzBlks_hzi (lab : Int → Int) (D : List Nat) (R : List Bool) : ∀ (bs : List Blk) (n : Nat) (z : Hz), HzI z → HzI (hzBlks lab D R n bs z)
  | [], n, z, h => h
  | b :: bs, n, z, h => by
    rw [hzBlks]
    refine hzBlks_hzi lab D R bs _ _ ?_
    split
    · exact hzVals_hzi _ _ _ _ h
    · exact h
/-- Values and weights are only put behind. -/
def Pre (z z' : Hz) : Prop := (∃ t, z'.vals = z.vals ++ t) ∧ ∃ u, z'.weights = z.weights ++ u
theorem Pre.refl (z : Hz) : Pre z z := ⟨⟨[], by simp⟩, [], by simp⟩
theorem Pre.trans {a b c : Hz} (h : Pre a b) (k : Pre b c) : Pre a c := by
  obtain ⟨⟨t, h1⟩, u, h2⟩ := h
  obtain ⟨⟨t', k1⟩, u', k2⟩ := k
  exact ⟨⟨t ++ t', by rw [k1, h1, List.append_assoc]⟩, u ++ u', by rw [k2, h2, List.append_assoc]⟩
theorem value_pre (lab : Int → Int) (wt : Int) (z : Hz) (v : Int) : Pre z (z.value lab wt v) := by
  unfold Hz.value
  split
  · exact ⟨⟨[v], rfl⟩, [wt], rfl⟩
  · exact .refl z
theorem hzVals_pre (lab : Int → Int) (wt : Int) : ∀ (l : List Int) (z : Hz), Pre z (hzVals lab wt l z)
  | [], z => .refl z
  | v :: vs, z => (value_pre lab wt z v).trans (hzVals_pre lab wt vs _)
theorem hzBlks_pre (lab : Int → Int) (D : List Nat) (R : List Bool) : ∀ (bs : List Blk) (n : Nat) (z : Hz), Pre z (hzBlks lab D R n bs z)
  | [], n, z => .refl z
  | b :: bs, n, z => by
    rw [hzBlks]
    refine Pre.trans ?_ (hzBlks_pre lab D R bs _ _)
    split
    · exact hzVals_pre _ _ _ _
    · exact .refl z
/-- A value that is noted now is in the end where it is put now. -/
theorem note_now {lab : Int → Int} {wt : Int} {v : Int} {z z1 : Hz} (hl : lab v = 1) (h : Pre (z.value lab wt v) z1) : z1.vals[z.vals.length]? = some v ∧ z1.weights[z.weights.length]? = some wt := by
  obtain ⟨⟨t, h1⟩, u, h2⟩ := h
  unfold Hz.value at h1 h2
  rw [if_pos hl] at h1 h2
  simp only at h1 h2
  rw [h1, h2]
  simp
theorem value_at {lab : Int → Int} {wt : Int} {z : Hz} {v x : Int} : ((z.value lab wt v).at_ x).isSome = true ↔ (z.at_ x).isSome = true ∨ (x = v ∧ lab v = 1) := by
  unfold Hz.value
  split
  · rename_i hl
    simp only
    split
    · rename_i e; simp [e, hl]
    · rename_i e; simp [e]
  · rename_i hl; simp [hl]
theorem hzVals_at (lab : Int → Int) (wt : Int) {x : Int} : ∀ (l : List Int) (z : Hz), ((hzVals lab wt l z).at_ x).isSome = true ↔ (z.at_ x).isSome = true ∨ (x ∈ l ∧ lab x = 1)
  | [], z => by simp [hzVals]
  | v :: vs, z => by
    rw [hzVals, hzVals_at lab wt vs, value_at]
    constructor
    · rintro ((h | ⟨rfl, h⟩) | ⟨h, k⟩)
      · exact .inl h
      · exact .inr ⟨by simp, h⟩
      · exact .inr ⟨by simp [h], k⟩
    · rintro (h | ⟨h, k⟩)
      · exact .inl (.inl h)
      · rcases List.mem_cons.1 h with rfl | h
        · exact .inl (.inr ⟨rfl, k⟩)
        · exact .inr ⟨h, k⟩
theorem hzBlks_at (lab : Int → Int) (D : List Nat) (R : List Bool) {x : Int} : ∀ (bs : List Blk) (n : Nat) (z : Hz), ((hzBlks lab D R n bs z).at_ x).isSome = true ↔ (z.at_ x).isSome = true ∨ ∃ (j : Nat) (b : Blk), bs[j]? = some b ∧ R.getD (n + j) false = true ∧ x ∈ b.made ∧ lab x = 1
  | [], n, z => by simp [hzBlks]
  | b :: bs, n, z => by
    rw [hzBlks, hzBlks_at lab D R bs]
    have h1 : ((if R.getD n false = true then hzVals lab (weigh (D.getD n 0)) b.made z else z).at_ x).isSome = true ↔ (z.at_ x).isSome = true ∨ (R.getD n false = true ∧ x ∈ b.made ∧ lab x = 1) := by
      split
      · rename_i h; rw [hzVals_at]; exact ⟨fun e => e.imp id fun e => ⟨h, e⟩, fun e => e.imp id And.right⟩
      · rename_i h; exact ⟨.inl, fun e => by rcases e with e | e; exact e; exact absurd e.1 h⟩
    rw [h1]
    constructor
    · rintro ((h | ⟨h, k⟩) | ⟨j, b', h, k, m⟩)
      · exact .inl h
      · exact .inr ⟨0, b, rfl, h, k⟩
      · exact .inr ⟨j + 1, b', by simpa using h, by rw [show n + (j + 1) = n + 1 + j by omega]; exact k, m⟩
    · rintro (h | ⟨j, b', h, k, m⟩)
      · exact .inl (.inl h)
      · cases j with
        | zero => cases h; exact .inl (.inr ⟨k, m⟩)
        | succ j => exact .inr ⟨j, b', by simpa using h, by rw [show n + 1 + j = n + (j + 1) by omega]; exact k, m⟩
/-! ### beginnings and ways -/
theorem way_frm (z : Hz) (a b : Int) : (z.way a b).frm = z.frm := by unfold Hz.way; split <;> rfl
theorem hzArgs_frm (d : Int) : ∀ (l : List Int) (z : Hz), (hzArgs d l z).frm = z.frm
  | [], z => rfl
  | v :: vs, z => by rw [hzArgs, hzArgs_frm d vs, way_frm]
theorem hzEdge_frm : ∀ (ps l : List Int) (z : Hz), (hzEdge ps l z).frm = z.frm
  | [], _, z => rfl
  | p :: ps, [], z => rfl
  | p :: ps, a :: l, z => by rw [hzEdge, hzEdge_frm ps l, way_frm]
theorem hzEdges_frm (bs : List Blk) : ∀ (ws : List Edg) (z : Hz), (hzEdges bs ws z).frm = z.frm
  | [], z => rfl
  | w :: ws, z => by rw [hzEdges, hzEdges_frm bs ws, hzEdge_frm]
theorem hzIns_frm (writes : List Bool) {x : Int} : ∀ (l : List Ins) (z : Hz), x ∈ (hzIns writes l z).frm ↔ x ∈ z.frm ∨ ∃ i ∈ l, z.at_ i.dst = some x ∧ may writes i = 1
  | [], z => by simp [hzIns]
  | i :: is, z => by
    rw [hzIns, hzIns_frm writes is]
    have hs := ((hzArgs_same i.dst i.args z).trans (Hz.fromIns_same writes i _)).a
    rw [hs]
    have h1 : x ∈ (Hz.fromIns writes i (hzArgs i.dst i.args z)).frm ↔ x ∈ z.frm ∨ (z.at_ i.dst = some x ∧ may writes i = 1) := by
      unfold Hz.fromIns
      rw [(hzArgs_same i.dst i.args z).a]
      split
      · rename_i n hn
        split
        · rename_i hm
          simp only [List.mem_append, List.mem_singleton, hzArgs_frm, hn, Option.some.injEq, hm, and_true]
          exact ⟨fun e => e.imp id Eq.symm, fun e => e.imp id Eq.symm⟩
        · rename_i hm; simp [hzArgs_frm, hm]
      · rename_i hn; simp [hzArgs_frm, hn]
    rw [h1]
    constructor
    · rintro ((h | h) | ⟨j, hj, h⟩)
      · exact .inl h
      · exact .inr ⟨i, by simp, h⟩
      · exact .inr ⟨j, by simp [hj], h⟩
    · rintro (h | ⟨j, hj, h⟩)
      · exact .inl (.inl h)
      · rcases List.mem_cons.1 hj with rfl | hj
        · exact .inl (.inr h)
        · exact .inr ⟨j, hj, h⟩
theorem hzWays_frm (writes : List Bool) (bs : List Blk) {x : Int} : ∀ (l : List Blk) (z : Hz), x ∈ (hzWays writes bs l z).frm ↔ x ∈ z.frm ∨ ∃ b ∈ l, ∃ i ∈ b.ins, z.at_ i.dst = some x ∧ may writes i = 1
  | [], z => by simp [hzWays]
  | b :: l, z => by
    rw [hzWays, hzWays_frm writes bs l, hzEdges_frm, hzIns_frm, ((hzIns_same writes b.ins z).trans (hzEdges_same bs b.fin.ways _)).a]
    constructor
    · rintro ((h | ⟨i, hi, h⟩) | ⟨b', hb, i, hi, h⟩)
      · exact .inl h
      · exact .inr ⟨b, by simp, i, hi, h⟩
      · exact .inr ⟨b', by simp [hb], i, hi, h⟩
    · rintro (h | ⟨b', hb, i, hi, h⟩)
      · exact .inl (.inl h)
      · rcases List.mem_cons.1 hb with rfl | hb
        · exact .inl (.inr ⟨i, hi, h⟩)
        · exact .inr ⟨b', hb, i, hi, h⟩
theorem hzSinks_fw (fn : Int) : ∀ (l : List Snk) (z : Hz), (hzSinks fn l z).frm = z.frm ∧ (hzSinks fn l z).ways = z.ways
  | [], z => ⟨rfl, rfl⟩
  | s :: l, z => by
    rw [hzSinks]
    obtain ⟨h1, h2⟩ := hzSinks_fw fn l (z.sink fn s)
    rw [h1, h2]
    unfold Hz.sink
    split
    · split <;> exact ⟨rfl, rfl⟩
    · exact ⟨rfl, rfl⟩
theorem hzVals_fw (lab : Int → Int) (wt : Int) : ∀ (l : List Int) (z : Hz), (hzVals lab wt l z).frm = z.frm ∧ (hzVals lab wt l z).ways = z.ways
  | [], z => ⟨rfl, rfl⟩
  | v :: vs, z => by
    rw [hzVals]
    obtain ⟨h1, h2⟩ := hzVals_fw lab wt vs (z.value lab wt v)
    rw [h1, h2]
    unfold Hz.value
    split <;> exact ⟨rfl, rfl⟩
theorem hzBlks_fw (lab : Int → Int) (D : List Nat) (R : List Bool) : ∀ (bs : List Blk) (n : Nat) (z : Hz), (hzBlks lab D R n bs z).frm = z.frm ∧ (hzBlks lab D R n bs z).ways = z.ways
  | [], n, z => ⟨rfl, rfl⟩
  | b :: bs, n, z => by
    rw [hzBlks]
    obtain ⟨h1, h2⟩ := hzBlks_fw lab D R bs (n + 1) (if R.getD n false = true then hzVals lab (weigh (D.getD n 0)) b.made z else z)
    rw [h1, h2]
    split
    · exact hzVals_fw _ _ _ _
    · exact ⟨rfl, rfl⟩
/-! ### the law's own list of what comes of memory -/
def frStep (lab : Int → Int) (writes : List Bool) (ks : List Int) (i : Ins) : List Int := if i.dst ≠ 0 ∧ lab i.dst = 1 ∧ may writes i = 1 then kput ks i.dst else ks
def frBlks (lab : Int → Int) (writes R : List Bool) : Nat → List Blk → List Int → List Int
  | _, [], ks => ks
  | n, b :: bs, ks => frBlks lab writes R (n + 1) bs (if R.getD n false = true then b.ins.foldl (frStep lab writes) ks else ks)
theorem mem_kput' {ks : List Int} {k x : Int} : x ∈ kput ks k ↔ x ∈ ks ∨ x = k := by
  unfold kput
  split
  · rename_i h
    obtain ⟨y, hy, e⟩ := List.any_eq_true.1 h
    have : y = k := by simpa using e
    subst this
    exact ⟨.inl, fun e => by rcases e with e | rfl; exact e; exact hy⟩
  · simp
theorem mem_frIns {lab : Int → Int} {writes : List Bool} {v : Int} : ∀ (l : List Ins) (ks : List Int), v ∈ l.foldl (frStep lab writes) ks ↔ v ∈ ks ∨ ∃ i ∈ l, i.dst = v ∧ i.dst ≠ 0 ∧ lab i.dst = 1 ∧ may writes i = 1
  | [], ks => by simp
  | i :: l, ks => by
    rw [List.foldl_cons, mem_frIns l]
    have h1 : v ∈ frStep lab writes ks i ↔ v ∈ ks ∨ (i.dst = v ∧ i.dst ≠ 0 ∧ lab i.dst = 1 ∧ may writes i = 1) := by
      unfold frStep
      split
      · rename_i h
        rw [mem_kput']
        exact ⟨fun e => e.imp id fun e => ⟨e.symm, h⟩, fun e => e.imp id fun e => e.1.symm⟩
      · rename_i h
        exact ⟨.inl, fun e => by rcases e with e | e; exact e; exact absurd e.2 h⟩
    rw [h1]
    constructor
    · rintro ((h | h) | ⟨j, hj, h⟩)
      · exact .inl h
      · exact .inr ⟨i, by simp, h⟩
      · exact .inr ⟨j, by simp [hj], h⟩
    · rintro (h | ⟨j, hj, h⟩)
      · exact .inl (.inl h)
      · rcases List.mem_cons.1 hj with rfl | hj
        · exact .inl (.inr h)
        · exact .inr ⟨j, hj, h⟩
theorem mem_frBlks {lab : Int → Int} {writes R : List Bool} {v : Int} : ∀ (bs : List Blk) (n : Nat) (ks : List Int), v ∈ frBlks lab writes R n bs ks ↔ v ∈ ks ∨ ∃ (j : Nat) (b : Blk), bs[j]? = some b ∧ R.getD (n + j) false = true ∧ ∃ i ∈ b.ins, i.dst = v ∧ i.dst ≠ 0 ∧ lab i.dst = 1 ∧ may writes i = 1
  | [], n, ks => by simp [frBlks]
  | b :: bs, n, ks => by
    rw [frBlks, mem_frBlks bs]
    have h1 : v ∈ (if R.getD n false = true then b.ins.foldl (frStep lab writes) ks else ks) ↔ v ∈ ks ∨ (R.getD n false = true ∧ ∃ i ∈ b.ins, i.dst = v ∧ i.dst ≠ 0 ∧ lab i.dst = 1 ∧ may writes i = 1) := by
      split
      · rename_i h; rw [mem_frIns]; exact ⟨fun e => e.imp id fun e => ⟨h, e⟩, fun e => e.imp id And.right⟩
      · rename_i h; exact ⟨.inl, fun e => by rcases e with e | e; exact e; exact absurd e.1 h⟩
    rw [h1]
    constructor
    · rintro ((h | ⟨h, k⟩) | ⟨j, b', h, k, m⟩)
      · exact .inl h
      · exact .inr ⟨0, b, rfl, h, k⟩
      · exact .inr ⟨j + 1, b', by simpa using h, by rw [show n + (j + 1) = n + 1 + j by omega]; exact k, m⟩
    · rintro (h | ⟨j, b', h, k, m⟩)
      · exact .inl (.inl h)
      · cases j with
        | zero => cases h; exact .inl (.inr ⟨k, m⟩)
        | succ j => exact .inr ⟨j, b', by simpa using h, by rw [show n + 1 + j = n + (j + 1) by omega]; exact k, m⟩
theorem flat_once {α : Type} {g : α → List Int} {v : Int} : ∀ {l : List α}, (l.flatMap g).Nodup → ∀ {i j : Nat} {a b : α}, l[i]? = some a → l[j]? = some b → v ∈ g a → v ∈ g b → i = j
  | [], _, i, j, a, b, h, _, _, _ => by simp at h
  | x :: l, hn, i, j, a, b, ha, hb, h1, h2 => by
    rw [List.flatMap_cons, List.nodup_append] at hn
    obtain ⟨n1, n2, n3⟩ := hn
    cases i with
    | zero =>
      cases j with
      | zero => rfl
      | succ j =>
        cases ha
        exact absurd rfl (n3 v h1 v (List.mem_flatMap.2 ⟨b, List.mem_of_getElem? (by simpa using hb), h2⟩))
    | succ i =>
      cases j with
      | zero =>
        cases hb
        exact absurd rfl (n3 v h2 v (List.mem_flatMap.2 ⟨a, List.mem_of_getElem? (by simpa using ha), h1⟩))
      | succ j =>
        have := flat_once (i := i) (j := j) n2 (by simpa using ha) (by simpa using hb) h1 h2
        rw [this]
section
variable {f : Fnc} {lab : Int → Int} {writes : List Bool} {fn : Int} {sinks : List Snk}
abbrev Fnc.z1 (f : Fnc) (lab : Int → Int) : Hz := hzBlks lab f.gr.depths f.reach 0 f.blocks Hz.new
abbrev Fnc.fk (f : Fnc) (lab : Int → Int) (writes : List Bool) : List Int := frBlks lab writes f.reach 0 f.blocks []
theorem hz_frm {x : Int} : x ∈ (hzFn f lab writes fn sinks).frm ↔ ∃ b ∈ f.blocks, ∃ i ∈ b.ins, (f.z1 lab).at_ i.dst = some x ∧ may writes i = 1 := by
  unfold hzFn
  rw [(hzSinks_fw _ _ _).1, hzWays_frm, (hzBlks_fw _ _ _ _ _ _).1]
  exact ⟨fun e => by rcases e with e | e; exact absurd e (by simp [Hz.new]); exact e, .inr⟩
theorem z1_at {v : Int} : ((f.z1 lab).at_ v).isSome = true ↔ ∃ (j : Nat) (b : Blk), f.blocks[j]? = some b ∧ f.reach.getD j false = true ∧ v ∈ b.made ∧ lab v = 1 := by
  rw [hzBlks_at]
  simp only [Nat.zero_add]
  exact ⟨fun e => by rcases e with e | e; exact absurd e (by simp [Hz.new]); exact e, .inr⟩
theorem mem_fk {v : Int} : v ∈ f.fk lab writes ↔ ∃ (j : Nat) (b : Blk), f.blocks[j]? = some b ∧ f.reach.getD j false = true ∧ ∃ i ∈ b.ins, i.dst = v ∧ i.dst ≠ 0 ∧ lab i.dst = 1 ∧ may writes i = 1 := by
  rw [mem_frBlks]
  simp only [Nat.zero_add]
  exact ⟨fun e => by rcases e with e | e; exact absurd e (by simp); exact e, .inr⟩
theorem z1_i : HzI (f.z1 lab) := hzBlks_hzi _ _ _ _ _ _ hzi_new
/-- What begins comes of memory. -/
theorem frm_fk (ho : once f = true) {x : Int} (hx : x ∈ (hzFn f lab writes fn sinks).frm) : ∃ (m : Nat) (v : Int), x = m ∧ (hzFn f lab writes fn sinks).vals[m]? = some v ∧ v ∈ f.fk lab writes := by
  obtain ⟨b, hb, i, hi, ha, hm⟩ := hz_frm.1 hx
  obtain ⟨m, rfl, hv⟩ := z1_i _ _ ha
  refine ⟨m, i.dst, rfl, by rw [(hzFn_same f lab writes fn sinks).v]; exact hv, ?_⟩
  obtain ⟨j, b', hj, hr, hmd, hl⟩ := z1_at.1 (show ((f.z1 lab).at_ i.dst).isSome = true by rw [ha]; rfl)
  unfold once at ho
  have ho := of_decide_eq_true ho
  have hpos := ho.1 i.dst (List.mem_flatMap.2 ⟨b', List.mem_of_getElem? hj, hmd⟩)
  obtain ⟨jb, hjb⟩ := List.mem_iff_getElem?.1 hb
  have hmb : i.dst ∈ b.made := by
    unfold Blk.made dsts
    exact List.mem_append_right _ (List.mem_filter.2 ⟨List.mem_map.2 ⟨i, hi, rfl⟩, by simp; omega⟩)
  have := flat_once ho.2 hjb hj hmb hmd
  subst this
  rw [hjb] at hj
  cases hj
  exact mem_fk.2 ⟨jb, b, hjb, hr, i, hi, rfl, by omega, hl, hm⟩
/-- What comes of memory begins. -/
theorem fk_frm {v : Int} (hv : v ∈ f.fk lab writes) : ∃ (x : Int) (m : Nat), x ∈ (hzFn f lab writes fn sinks).frm ∧ x = m ∧ (hzFn f lab writes fn sinks).vals[m]? = some v := by
  obtain ⟨j, b, hj, hr, i, hi, rfl, h0, hl, hm⟩ := mem_fk.1 hv
  have hmb : i.dst ∈ b.made := by
    unfold Blk.made dsts
    exact List.mem_append_right _ (List.mem_filter.2 ⟨List.mem_map.2 ⟨i, hi, rfl⟩, by simp [h0]⟩)
  have hs := z1_at.2 ⟨j, b, hj, hr, hmb, hl⟩
  obtain ⟨x, hx⟩ := Option.isSome_iff_exists.1 hs
  obtain ⟨m, rfl, hv⟩ := z1_i _ _ hx
  exact ⟨m, m, hz_frm.2 ⟨b, List.mem_of_getElem? hj, i, hi, hx, hm⟩, rfl, by rw [(hzFn_same f lab writes fn sinks).v]; exact hv⟩
theorem hz_ways : (hzFn f lab writes fn sinks).ways = (hzWays writes f.blocks f.blocks (f.z1 lab)).ways := by
  unfold hzFn
  exact (hzSinks_fw _ _ _).2
theorem z1_ways : (f.z1 lab).ways = [] := (hzBlks_fw _ _ _ _ _ _).2
end
theorem Hz.fromIns_ways (writes : List Bool) (i : Ins) (z : Hz) : (z.fromIns writes i).ways = z.ways := by
  unfold Hz.fromIns
  split
  · split <;> rfl
  · rfl
end Go.Pl.M

/- The search of a flow: each place that was come to has a way, and what can be come to was. -/
namespace Go.Pl.M
set_option linter.unusedVariables false
abbrev hd (arcs : List (Int × Int)) (a : Nat) : Int := (arcs.getD a (0, 0)).1
abbrev lf (arcs : List (Int × Int)) (a : Nat) : Int := (arcs.getD a (0, 0)).2
abbrev tl (arcs : List (Int × Int)) (a : Nat) : Int := hd arcs (a ^^^ 1)
abbrev at_ (by_ : List Int) (v : Int) : Int := by_.getD v.toNat 0
/-- The way back from v, by the arcs that are noted. -/
def Tr (arcs : List (Int × Int)) (n : Nat) (by_ : List Int) (s : Int) : Int → List Nat → Prop
  | v, [] => v = s ∧ at_ by_ v = -2
  | v, a :: P => at_ by_ v = (a : Int) ∧ 0 ≤ v ∧ v < (n : Int) ∧ v ≠ s ∧ a < arcs.length ∧ hd arcs a = v ∧ 0 < lf arcs a ∧ Tr arcs n by_ s (tl arcs a) P
structure SV (arcs : List (Int × Int)) (n : Nat) (s : Int) (by_ : List Int) : Prop where
  len : by_.length = n
  src : at_ by_ s = -2
  tr : ∀ v : Int, 0 ≤ v → v < (n : Int) → at_ by_ v ≠ -1 → ∃ P, Tr arcs n by_ s v P ∧ (P.map (hd arcs)).Nodup
section
variable {arcs : List (Int × Int)} {n : Nat} {s : Int}
theorem tr_seen {by_ : List Int} : ∀ {P : List Nat} {v : Int}, Tr arcs n by_ s v P → ∀ a ∈ P, at_ by_ (hd arcs a) = (a : Int) ∧ 0 ≤ hd arcs a ∧ hd arcs a < (n : Int) ∧ hd arcs a ≠ s ∧ a < arcs.length ∧ 0 < lf arcs a
  | [], v, h, a, ha => by cases ha
  | b :: P, v, h, a, ha => by
    obtain ⟨h1, h2, h3, h4, h5, h6, h7, h8⟩ := h
    rcases List.mem_cons.1 ha with rfl | ha
    · rw [h6]; exact ⟨h1, h2, h3, h4, h5, h7⟩
    · exact tr_seen h8 a ha
theorem at_set {by_ : List Int} {x y a : Int} (hx0 : 0 ≤ x) (hx : x < (by_.length : Int)) (hy : 0 ≤ y) : at_ (by_.set x.toNat a) y = if y = x then a else at_ by_ y := by
  unfold at_
  rw [List.getD_eq_getElem?_getD, List.getElem?_set]
  by_cases h : y = x
  · subst h
    rw [if_pos rfl, if_pos (by omega), if_pos rfl]; rfl
  · rw [if_neg (by omega), if_neg h, List.getD_eq_getElem?_getD]
theorem tr_set {by_ : List Int} {x : Int} {b : Int} (hs0 : 0 ≤ s) (hx0 : 0 ≤ x) (hx : x < (by_.length : Int)) (hbx : at_ by_ x = -1) : ∀ {P : List Nat} {v : Int}, Tr arcs n by_ s v P → Tr arcs n (by_.set x.toNat b) s v P
  | [], v, ⟨h1, h2⟩ => by
    refine ⟨h1, ?_⟩
    subst h1
    rw [at_set hx0 hx hs0, if_neg (by rintro rfl; omega)]; exact h2
  | a :: P, v, ⟨h1, h2, h3, h4, h5, h6, h7, h8⟩ => by
    refine ⟨?_, h2, h3, h4, h5, h6, h7, tr_set hs0 hx0 hx hbx h8⟩
    rw [at_set hx0 hx h2, if_neg (by rintro rfl; omega)]; exact h1
/-- A place is come to. -/
theorem sv_set {by_ : List Int} (h : SV arcs n s by_) (hs0 : 0 ≤ s) (hsn : s < (n : Int)) {a : Nat} (ha : a < arcs.length) (hx0 : 0 ≤ hd arcs a) (hx : hd arcs a < (n : Int)) (hlf : 0 < lf arcs a) (hbx : at_ by_ (hd arcs a) = -1) (hu0 : 0 ≤ tl arcs a) (hun : tl arcs a < (n : Int)) (hu : at_ by_ (tl arcs a) ≠ -1) :
    SV arcs n s (by_.set (hd arcs a).toNat (a : Int)) := by
  have hxl : hd arcs a < (by_.length : Int) := by rw [h.len]; exact hx
  have hxs : hd arcs a ≠ s := by intro e; rw [e, h.src] at hbx; omega
  refine ⟨by rw [List.length_set]; exact h.len, ?_, fun v hv0 hv hne => ?_⟩
  · rw [at_set hx0 hxl hs0, if_neg (Ne.symm hxs)]; exact h.src
  · rw [at_set hx0 hxl hv0] at hne
    by_cases hvx : v = hd arcs a
    · obtain ⟨P, hP, hn⟩ := h.tr _ hu0 hun hu
      refine ⟨a :: P, ⟨?_, hv0, hv, by rw [hvx]; exact hxs, ha, hvx.symm, hlf, tr_set hs0 hx0 hxl hbx hP⟩, ?_⟩
      · rw [at_set hx0 hxl hv0, if_pos hvx]
      · rw [List.map_cons, List.nodup_cons]
        refine ⟨fun hm => ?_, hn⟩
        obtain ⟨b, hb, hbe⟩ := List.mem_map.1 hm
        have := (tr_seen hP b hb).1
        rw [hbe, hbx] at this
        omega
    · rw [if_neg hvx] at hne
      obtain ⟨P, hP, hn⟩ := h.tr v hv0 hv hne
      exact ⟨P, tr_set hs0 hx0 hxl hbx hP, hn⟩
/-- What one place's arcs do. -/
structure InOk (arcs : List (Int × Int)) (n : Nat) (s : Int) (l : List Int) (by_ todo : List Int) (r : List Int × List Int) : Prop where
  sv : SV arcs n s r.1
  mono : ∀ y : Int, 0 ≤ y → y < (n : Int) → at_ by_ y ≠ -1 → at_ r.1 y ≠ -1
  all : ∀ a ∈ l, 0 < lf arcs a.toNat → at_ r.1 (hd arcs a.toNat) ≠ -1
  keep : ∀ t ∈ todo, t ∈ r.2
  new : ∀ y : Int, 0 ≤ y → y < (n : Int) → at_ r.1 y ≠ -1 → at_ by_ y ≠ -1 ∨ y ∈ r.2
  seen : ∀ t ∈ r.2, t ∈ todo ∨ (0 ≤ t ∧ t < (n : Int) ∧ at_ r.1 t ≠ -1)
theorem seekIn_ok (hs0 : 0 ≤ s) (hsn : s < (n : Int)) (harc : ∀ x ∈ arcs, 0 ≤ x.1 ∧ x.1 < (n : Int)) {u : Int} (hu0 : 0 ≤ u) (hun : u < (n : Int)) :
    ∀ (l : List Int) (by_ todo : List Int), SV arcs n s by_ → at_ by_ u ≠ -1 → (∀ a ∈ l, 0 ≤ a ∧ a < (arcs.length : Int) ∧ tl arcs a.toNat = u) → InOk arcs n s l by_ todo (seekIn arcs l (by_, todo))
  | [], by_, todo, h, hu, hl => ⟨h, fun _ _ _ h => h, fun a ha => (by cases ha), fun _ h => h, fun _ _ _ h => .inl h, fun t h => .inl h⟩
  | a :: l, by_, todo, h, hu, hl => by
    have ha := hl a (by simp)
    have hx : arcs[a.toNat]? = some (arcs.getD a.toNat (0, 0)) := getD_some (by omega)
    have hxr := harc _ (List.mem_of_getElem? hx)
    have hbl := h.len
    rw [seekIn]
    simp only
    split
    · rename_i hc
      have hset := sv_set (a := a.toNat) h hs0 hsn (by omega) hxr.1 hxr.2 hc.1 hc.2 (by rw [ha.2.2]; exact hu0) (by rw [ha.2.2]; exact hun) (by rw [ha.2.2]; exact hu)
      have hcast : ((a.toNat : Nat) : Int) = a := by omega
      rw [hcast] at hset
      have hat : ∀ y : Int, 0 ≤ y → at_ (by_.set (hd arcs a.toNat).toNat a) y = if y = hd arcs a.toNat then a else at_ by_ y := fun y hy => at_set hxr.1 (by rw [hbl]; exact hxr.2) hy
      have hmono : ∀ y : Int, 0 ≤ y → y < (n : Int) → at_ by_ y ≠ -1 → at_ (by_.set (hd arcs a.toNat).toNat a) y ≠ -1 := by
        intro y h0 h1 h2
        rw [hat y h0]
        split
        · omega
        · exact h2
      have ih := seekIn_ok hs0 hsn harc hu0 hun l (by_.set (hd arcs a.toNat).toNat a) (todo ++ [hd arcs a.toNat]) hset (hmono u hu0 hun hu) (fun b hb => hl b (by simp [hb]))
      refine ⟨ih.sv, fun y h0 h1 h2 => ih.mono y h0 h1 (hmono y h0 h1 h2), fun b hb hlb => ?_, fun t ht => ih.keep t (by simp [ht]), fun y h0 h1 h2 => ?_, fun t ht => ?_⟩
      · rcases List.mem_cons.1 hb with rfl | hb
        · refine ih.mono _ hxr.1 hxr.2 ?_
          rw [hat _ hxr.1, if_pos rfl]; omega
        · exact ih.all b hb hlb
      · rcases ih.new y h0 h1 h2 with h3 | h3
        · rw [hat y h0] at h3
          split at h3
          · rename_i e; right; rw [e]; exact ih.keep _ (by simp)
          · exact .inl h3
        · exact .inr h3
      · rcases ih.seen t ht with h3 | h3
        · rcases List.mem_append.1 h3 with h3 | h3
          · exact .inl h3
          · simp only [List.mem_singleton] at h3
            subst h3
            refine .inr ⟨hxr.1, hxr.2, ih.mono _ hxr.1 hxr.2 ?_⟩
            rw [hat _ hxr.1, if_pos rfl]; omega
        · exact .inr h3
    · rename_i hc
      have ih := seekIn_ok hs0 hsn harc hu0 hun l by_ todo h hu (fun b hb => hl b (by simp [hb]))
      refine ⟨ih.sv, ih.mono, fun b hb hlb => ?_, ih.keep, ih.new, ih.seen⟩
      rcases List.mem_cons.1 hb with rfl | hb
      · refine ih.mono _ hxr.1 hxr.2 fun e => hc ⟨hlb, e⟩
      · exact ih.all b hb hlb
end
/-- A flow's arcs lie with their places. -/
structure Fl.Tails (f : Fl) : Prop where
  shape : f.Shape
  outs : ∀ (v : Nat) (l : List Int), f.outs[v]? = some l → ∀ a ∈ l, tl f.arcs a.toNat = v
  all : ∀ a : Nat, a < f.arcs.length → ∃ l, f.outs[(tl f.arcs a).toNat]? = some l ∧ (a : Int) ∈ l
structure Seen (f : Fl) (r : List Int) : Prop where
  sv : SV f.arcs f.outs.length ((f.outs.length - 2 : Nat) : Int) r
  shut : ∀ v : Int, 0 ≤ v → v < (f.outs.length : Int) → at_ r v ≠ -1 → ∀ a ∈ f.outs.getD v.toNat [], 0 < lf f.arcs a.toNat → at_ r (hd f.arcs a.toNat) ≠ -1
theorem seekGo_seen {f : Fl} (hT : f.Tails) : ∀ (k : Nat) (by_ todo r : List Int), SV f.arcs f.outs.length ((f.outs.length - 2 : Nat) : Int) by_ → (∀ t ∈ todo, 0 ≤ t ∧ t < (f.outs.length : Int) ∧ at_ by_ t ≠ -1) →
    (∀ v : Int, 0 ≤ v → v < (f.outs.length : Int) → at_ by_ v ≠ -1 → v ∈ todo ∨ ∀ a ∈ f.outs.getD v.toNat [], 0 < lf f.arcs a.toNat → at_ by_ (hd f.arcs a.toNat) ≠ -1) → seekGo f k by_ todo = some r → Seen f r
  | 0, _, _, _, _, _, _, h => by simp [seekGo] at h
  | k + 1, by_, [], r, hs, ht, hd_, h => by
    simp only [seekGo, Option.some.injEq] at h
    subst h
    exact ⟨hs, fun v h0 h1 h2 => by rcases hd_ v h0 h1 h2 with h3 | h3; cases h3; exact h3⟩
  | k + 1, by_, v :: todo, r, hs, ht, hd_, h => by
    rw [seekGo] at h
    have hv := ht v (by simp)
    have h2 := hT.shape.two
    have hrow : f.outs[v.toNat]? = some (f.outs.getD v.toNat []) := getD_some (by omega)
    have hok := seekIn_ok (arcs := f.arcs) (n := f.outs.length) (s := ((f.outs.length - 2 : Nat) : Int)) (by omega) (by omega) hT.shape.arcs hv.1 hv.2.1 (f.outs.getD v.toNat []) by_ todo hs hv.2.2 (fun a ha => by
      have h3 := hT.shape.outs _ (List.mem_of_getElem? hrow) a ha
      have h4 := hT.outs v.toNat _ hrow a ha
      refine ⟨h3.1, h3.2, ?_⟩
      rw [h4]; omega)
    refine seekGo_seen hT k _ _ r hok.sv (fun t hm => ?_) (fun y h0 h1 h3 => ?_) h
    · rcases hok.seen t hm with h3 | h3
      · have := ht t (by simp [h3])
        exact ⟨this.1, this.2.1, hok.mono t this.1 this.2.1 this.2.2⟩
      · exact h3
    · rcases hok.new y h0 h1 h3 with h4 | h4
      · by_cases hyv : y = v
        · right
          subst hyv
          exact fun a ha hla => hok.all a ha hla
        · rcases hd_ y h0 h1 h4 with h5 | h5
          · rcases List.mem_cons.1 h5 with h6 | h6
            · exact absurd h6 hyv
            · exact .inl (hok.keep y h6)
          · right
            intro a ha hla
            have hrowy : f.outs[y.toNat]? = some (f.outs.getD y.toNat []) := getD_some (by omega)
            have h6 := hT.shape.outs _ (List.mem_of_getElem? hrowy) a ha
            have hx : f.arcs[a.toNat]? = some (f.arcs.getD a.toNat (0, 0)) := getD_some (by omega)
            have h7 := hT.shape.arcs _ (List.mem_of_getElem? hx)
            exact hok.mono _ h7.1 h7.2 (h5 a ha hla)
      · exact .inl h4
theorem Fl.seek_seen {f : Fl} (hT : f.Tails) : Seen f f.seek := by
  obtain ⟨k, hk, -⟩ := Fl.seek_go hT.shape
  have h2 := hT.shape.two
  have hinit : ∀ v : Int, 0 ≤ v → v < (f.outs.length : Int) → at_ ((List.replicate f.outs.length (-1)).set (f.outs.length - 2) (-2)) v = if v = ((f.outs.length - 2 : Nat) : Int) then -2 else -1 := by
    intro v h0 h1
    have := at_set (by_ := List.replicate f.outs.length (-1)) (x := ((f.outs.length - 2 : Nat) : Int)) (y := v) (a := -2) (by omega) (by simp; omega) h0
    rw [Int.toNat_natCast] at this
    rw [this]
    split
    · rfl
    · unfold at_
      rw [List.getD_eq_getElem?_getD, List.getElem?_replicate, if_pos (by omega)]; rfl
  refine seekGo_seen hT k _ _ _ ⟨by simp, ?_, fun v h0 h1 hne => ?_⟩ (fun t hm => ?_) (fun v h0 h1 hne => ?_) hk
  · rw [hinit _ (by omega) (by omega), if_pos rfl]
  · rw [hinit v h0 h1] at hne
    split at hne
    · rename_i e
      subst e
      exact ⟨[], ⟨rfl, by rw [hinit _ (by omega) (by omega), if_pos rfl]⟩, by simp⟩
    · exact absurd rfl hne
  · simp only [List.mem_singleton] at hm
    subst hm
    refine ⟨by omega, by omega, ?_⟩
    rw [hinit _ (by omega) (by omega), if_pos rfl]; decide
  · rw [hinit v h0 h1] at hne
    split at hne
    · rename_i e; left; simp [e]
    · exact absurd rfl hne
end Go.Pl.M

/- A flow that is pushed along a way: nothing gets lost, and it comes to an end. -/
namespace Go.Pl.M
set_option linter.unusedVariables false
theorem xor_half (a : Nat) : (a ^^^ 1) / 2 = a / 2 ∧ (a ^^^ 1) % 2 = (a + 1) % 2 := by
  refine ⟨?_, ?_⟩
  · rw [Nat.xor_div_two]; simp
  · have h := @Nat.xor_mod_two_pow a 1 1
    simp only [Nat.pow_one] at h
    rw [h]
    rcases (by omega : a % 2 = 0 ∨ a % 2 = 1) with e | e
    · rw [e, show (0 ^^^ 1 % 2) = 1 from rfl]; omega
    · rw [e, show (1 ^^^ 1 % 2) = 0 from rfl]; omega
theorem xor_ne (a : Nat) : a ^^^ 1 ≠ a := by have := xor_half a; omega
theorem xor_xor (a : Nat) : a ^^^ 1 ^^^ 1 = a := by have h := xor_half a; have k := xor_half (a ^^^ 1); omega
theorem xor_lt {a n : Nat} (h : a < n) (he : n % 2 = 0) : a ^^^ 1 < n := by have := xor_half a; omega
theorem push_get {arcs : List (Int × Int)} {m : Int} {a : Nat} (ha : a < arcs.length) (he : arcs.length % 2 = 0) (b : Nat) :
    (pushAt arcs m a).getD b (0, 0) = if b = a then (hd arcs a, lf arcs a - m) else if b = a ^^^ 1 then (hd arcs b, lf arcs b + m) else arcs.getD b (0, 0) := by
  have hx := xor_lt ha he
  have hne := xor_ne a
  unfold pushAt
  simp only [List.getD_eq_getElem?_getD, List.getElem?_set, List.length_set]
  by_cases h1 : b = a
  · subst h1
    rw [if_neg hne, if_pos rfl, if_pos ha, if_pos rfl]
    simp [hd, lf, List.getD_eq_getElem?_getD]
  · rw [if_neg h1]
    by_cases h2 : b = a ^^^ 1
    · subst h2
      rw [if_pos rfl, if_pos hx, if_pos rfl]
      simp only [Option.getD_some]
      rw [if_neg (Ne.symm hne)]
      simp [hd, lf, List.getD_eq_getElem?_getD]
    · rw [if_neg (Ne.symm h2), if_neg (Ne.symm h1), if_neg h2]
theorem push_len (arcs : List (Int × Int)) (m : Int) (a : Nat) : (pushAt arcs m a).length = arcs.length := by unfold pushAt; simp
section
variable {arcs : List (Int × Int)} {m : Int} {a : Nat}
theorem push_hd (ha : a < arcs.length) (he : arcs.length % 2 = 0) (b : Nat) : hd (pushAt arcs m a) b = hd arcs b := by
  unfold hd
  rw [push_get ha he]
  split
  · rename_i h; rw [h]
  · split <;> rfl
theorem push_lf (ha : a < arcs.length) (he : arcs.length % 2 = 0) (b : Nat) : lf (pushAt arcs m a) b = lf arcs b - (if b = a then m else 0) + (if b = a ^^^ 1 then m else 0) := by
  have hne := xor_ne a
  unfold lf
  rw [push_get ha he]
  by_cases h1 : b = a
  · subst h1
    rw [if_pos rfl, if_pos rfl, if_neg (Ne.symm hne)]
    show lf arcs b - m = _
    unfold lf; omega
  · rw [if_neg h1, if_neg h1]
    by_cases h2 : b = a ^^^ 1
    · rw [if_pos h2, if_pos h2]
      show lf arcs b + m = _
      unfold lf; omega
    · rw [if_neg h2, if_neg h2]; omega
end
/-- What is left on all that leads out of a place. -/
def outD (arcs : List (Int × Int)) (y : Int) : Int := ((List.range arcs.length).map fun a => if tl arcs a = y then lf arcs a else 0).sum
theorem isum_add {α : Type} {f g : α → Int} : ∀ (l : List α), (l.map fun x => f x + g x).sum = (l.map f).sum + (l.map g).sum
  | [] => by simp
  | a :: l => by simp only [List.map_cons, List.sum_cons, isum_add l]; omega
theorem isum_neg {α : Type} {f : α → Int} : ∀ (l : List α), (l.map fun x => - f x).sum = - (l.map f).sum
  | [] => by simp
  | a :: l => by simp only [List.map_cons, List.sum_cons, isum_neg l]; omega
theorem isum_one {n a : Nat} {x : Int} (h : a < n) : ((List.range n).map fun b => if b = a then x else 0).sum = x := by
  induction n with
  | zero => omega
  | succ n ih =>
    rw [List.range_succ, List.map_append, List.sum_append]
    by_cases ha : a = n
    · subst ha
      have : ((List.range a).map fun b => if b = a then x else 0).sum = 0 := by
        have : ∀ l : List Nat, (∀ b ∈ l, b < a) → (l.map fun b => if b = a then x else 0).sum = 0 := by
          intro l
          induction l with
          | nil => intro _; rfl
          | cons c l ih2 =>
            intro h2
            have h3 := h2 c (by simp)
            simp only [List.map_cons, List.sum_cons]
            rw [if_neg (by omega), ih2 fun b hb => h2 b (by simp [hb])]; omega
        exact this _ fun b hb => List.mem_range.1 hb
      rw [this]; simp
    · rw [ih (by omega)]
      simp [Ne.symm ha]
theorem isum_congr {α : Type} {f g : α → Int} : ∀ {l : List α}, (∀ x ∈ l, f x = g x) → (l.map f).sum = (l.map g).sum := fun h => by
  rw [List.map_congr_left h]
theorem push_outD {arcs : List (Int × Int)} {m : Int} {a : Nat} (ha : a < arcs.length) (he : arcs.length % 2 = 0) (y : Int) :
    outD (pushAt arcs m a) y = outD arcs y - (if tl arcs a = y then m else 0) + (if hd arcs a = y then m else 0) := by
  unfold outD
  rw [push_len]
  have h1 : ∀ b ∈ List.range arcs.length, (if tl (pushAt arcs m a) b = y then lf (pushAt arcs m a) b else 0) = ((if tl arcs b = y then lf arcs b else 0) + (- (if b = a then (if tl arcs a = y then m else 0) else 0) + (if b = a ^^^ 1 then (if hd arcs a = y then m else 0) else 0))) := by
    intro b hb
    have ht : tl (pushAt arcs m a) b = tl arcs b := by unfold tl; exact push_hd ha he _
    rw [ht, push_lf ha he]
    have hba : b = a ^^^ 1 → tl arcs b = hd arcs a := by intro e; rw [e]; unfold tl; rw [xor_xor]
    by_cases hb1 : b = a
    · have : b ≠ a ^^^ 1 := by rw [hb1]; exact Ne.symm (xor_ne a)
      subst hb1
      rw [if_pos rfl, if_pos rfl, if_neg this, if_neg this]
      split <;> omega
    · by_cases hb2 : b = a ^^^ 1
      · rw [if_neg hb1, if_neg hb1, if_pos hb2, if_pos hb2, hba hb2]
        split <;> omega
      · rw [if_neg hb1, if_neg hb1, if_neg hb2, if_neg hb2]
        split <;> omega
  rw [isum_congr h1, isum_add, isum_add, isum_neg, isum_one ha, isum_one (xor_lt ha he)]
  omega
/-- A way of arcs from v back to s. -/
def Chain (arcs : List (Int × Int)) (s : Int) : Int → List Nat → Prop
  | v, [] => v = s
  | v, a :: P => a < arcs.length ∧ hd arcs a = v ∧ Chain arcs s (tl arcs a) P
theorem Chain.congr {arcs arcs' : List (Int × Int)} {s : Int} (hl : arcs'.length = arcs.length) (hh : ∀ b, hd arcs' b = hd arcs b) : ∀ {P : List Nat} {v : Int}, Chain arcs s v P → Chain arcs' s v P
  | [], v, h => h
  | a :: P, v, ⟨h1, h2, h3⟩ => ⟨by rw [hl]; exact h1, by rw [hh]; exact h2, by
    have : tl arcs' a = tl arcs a := hh _
    rw [this]; exact Chain.congr hl hh h3⟩
theorem tr_chain {arcs : List (Int × Int)} {n : Nat} {by_ : List Int} {s : Int} : ∀ {P : List Nat} {v : Int}, Tr arcs n by_ s v P → Chain arcs s v P
  | [], v, h => h.1
  | a :: P, v, ⟨_, _, _, _, h5, h6, _, h8⟩ => ⟨h5, h6, tr_chain h8⟩
structure Pushed (m : Int) (arcs r : List (Int × Int)) : Prop where
  len : r.length = arcs.length
  hd : ∀ b, hd r b = hd arcs b
  pos : ∀ b, b < arcs.length → 0 ≤ lf r b
  pair : ∀ b, b < arcs.length → lf r b + lf r (b ^^^ 1) = lf arcs b + lf arcs (b ^^^ 1)
theorem pushAll_ok {m : Int} (hm : 0 ≤ m) : ∀ (P : List Nat) (arcs : List (Int × Int)), arcs.length % 2 = 0 → (∀ b, b < arcs.length → 0 ≤ lf arcs b) → P.Nodup → (∀ a ∈ P, a < arcs.length ∧ m ≤ lf arcs a) → Pushed m arcs (pushAll m P arcs)
  | [], arcs, he, hp, _, _ => ⟨rfl, fun _ => rfl, hp, fun _ _ => rfl⟩
  | a :: P, arcs, he, hp, hn, ha => by
    rw [pushAll]
    have h1 := ha a (by simp)
    have hl := push_len arcs m a
    have hlf := push_lf (m := m) h1.1 he
    have hpos : ∀ b, b < (pushAt arcs m a).length → 0 ≤ lf (pushAt arcs m a) b := by
      intro b hb
      rw [hl] at hb
      rw [hlf]
      have := hp b hb
      split
      · rename_i e; subst e; split <;> omega
      · split <;> omega
    rw [List.nodup_cons] at hn
    have ih := pushAll_ok hm P (pushAt arcs m a) (by rw [hl]; exact he) hpos hn.2 (fun b hb => by
      have h2 := ha b (by simp [hb])
      refine ⟨by rw [hl]; exact h2.1, ?_⟩
      rw [hlf, if_neg (by rintro rfl; exact hn.1 hb)]
      split <;> omega)
    refine ⟨ih.len.trans hl, fun b => (ih.hd b).trans (push_hd h1.1 he b), fun b hb => ih.pos b (by rw [hl]; exact hb), fun b hb => ?_⟩
    rw [ih.pair b (by rw [hl]; exact hb), hlf, hlf]
    have e1 : (b ^^^ 1 = a) ↔ (b = a ^^^ 1) := ⟨fun e => by rw [← e, xor_xor], fun e => by rw [e, xor_xor]⟩
    have e2 : (b ^^^ 1 = a ^^^ 1) ↔ (b = a) := ⟨fun e => by rw [← xor_xor b, e, xor_xor], fun e => by rw [e]⟩
    simp only [e1, e2]
    by_cases c1 : b = a
    · have c2 : b ≠ a ^^^ 1 := by rw [c1]; exact Ne.symm (xor_ne a)
      simp only [c1, if_true]
      rw [if_neg (Ne.symm (xor_ne a))]; omega
    · by_cases c2 : b = a ^^^ 1
      · simp only [c1, c2, if_true, if_false]
        rw [if_neg (xor_ne a)]; omega
      · simp only [c1, c2, if_false]; omega
theorem pushAll_outD {m : Int} {s : Int} (y : Int) : ∀ (P : List Nat) (arcs : List (Int × Int)) (v : Int), arcs.length % 2 = 0 → Chain arcs s v P → outD (pushAll m P arcs) y = outD arcs y + (if v = y then m else 0) - (if s = y then m else 0)
  | [], arcs, v, he, h => by
    have h : v = s := h
    subst h
    rw [pushAll]; omega
  | a :: P, arcs, v, he, ⟨h1, h2, h3⟩ => by
    rw [pushAll]
    have hl := push_len arcs m a
    rw [pushAll_outD y P (pushAt arcs m a) (tl arcs a) (by rw [hl]; exact he) (h3.congr hl (push_hd h1 he)), push_outD h1 he, h2]
    omega
theorem most_ok {arcs : List (Int × Int)} : ∀ (P : List Nat) (m : Int), 0 < m → (∀ a ∈ P, 0 < lf arcs a) → 0 < most arcs m P ∧ most arcs m P ≤ m ∧ ∀ a ∈ P, most arcs m P ≤ lf arcs a
  | [], m, hm, _ => ⟨hm, Int.le_refl _, fun a h => by cases h⟩
  | a :: P, m, hm, h => by
    have h1 := h a (by simp)
    have e : most arcs m (a :: P) = most arcs (if lf arcs a < m then lf arcs a else m) P := rfl
    rw [e]
    have ih := most_ok (arcs := arcs) P (if lf arcs a < m then lf arcs a else m) (by split <;> assumption) (fun b hb => h b (by simp [hb]))
    have hle : (if lf arcs a < m then lf arcs a else m) ≤ m ∧ (if lf arcs a < m then lf arcs a else m) ≤ lf arcs a := by split <;> omega
    refine ⟨ih.1, by omega, fun b hb => ?_⟩
    rcases List.mem_cons.1 hb with rfl | hb
    · omega
    · exact ih.2.2 b hb
theorem path_of {arcs : List (Int × Int)} {n : Nat} {by_ : List Int} {s : Int} : ∀ {P : List Nat} {v : Int} {k : Nat}, Tr arcs n by_ s v P → P.length < k → pathGo arcs by_ k v = some P
  | [], v, 0, _, h => by simp at h
  | [], v, k + 1, ⟨h1, h2⟩, _ => by
    rw [pathGo]
    have h2 : by_.getD v.toNat 0 = -2 := h2
    rw [h2, if_neg (by decide)]
  | a :: P, v, 0, _, h => by simp at h
  | a :: P, v, k + 1, ⟨h1, _, _, _, _, _, _, h8⟩, h => by
    rw [pathGo]
    have h1 : by_.getD v.toNat 0 = (a : Int) := h1
    rw [h1, if_pos (by omega), Int.toNat_natCast]
    have := path_of (k := k) h8 (by simpa using h)
    have e : pathGo arcs by_ k (arcs.getD (a ^^^ 1) (0, 0)).1 = some P := this
    rw [e]; rfl
theorem nodup_bound : ∀ (n : Nat) (l : List Int), l.Nodup → (∀ x ∈ l, 0 ≤ x ∧ x < (n : Int)) → l.length ≤ n
  | 0, l, _, h => by
    cases l with
    | nil => simp
    | cons a l => have := h a (by simp); omega
  | n + 1, l, hn, h => by
    have ih := nodup_bound n (l.filter fun x => !decide (x = (n : Int))) (hn.sublist List.filter_sublist) (fun x hx => by
      have h1 := List.mem_filter.1 hx
      have h2 := h x h1.1
      have h3 : x ≠ (n : Int) := by simpa using h1.2
      omega)
    have hc : l.length ≤ (l.filter fun x => !decide (x = (n : Int))).length + 1 := by
      clear ih h
      induction l with
      | nil => simp
      | cons a l ih2 =>
        rw [List.nodup_cons] at hn
        by_cases ha : a = (n : Int)
        · have : l.filter (fun x => !decide (x = (n : Int))) = l := by
            apply List.filter_eq_self.2
            intro x hx
            have : x ≠ (n : Int) := by rintro rfl; exact hn.1 (by rw [ha]; exact hx)
            simp [this]
          rw [List.filter_cons_of_neg (by simp [ha]), this]; simp
        · rw [List.filter_cons_of_pos (by simp [ha])]
          have := ih2 hn.2
          simp only [List.length_cons]; omega
    omega
end Go.Pl.M

/- 'Least' comes to an end, and each of its steps is sound. -/
namespace Go.Pl.M
set_option linter.unusedVariables false
abbrev Fl.s (f : Fl) : Int := ((f.outs.length - 2 : Nat) : Int)
abbrev Fl.t (f : Fl) : Int := ((f.outs.length - 1 : Nat) : Int)
/-- A flow to begin with. -/
structure F0 (f : Fl) : Prop where
  tails : f.Tails
  even : f.arcs.length % 2 = 0
  nodes : f.outs.length ≤ 1048576
  many : f.arcs.length ≤ 4398046511104
  rows : ∀ l ∈ f.outs, l.length ≤ 4398046511104
  pos : ∀ a, a < f.arcs.length → 0 ≤ lf f.arcs a
  cap : ∀ a, a < f.arcs.length → lf f.arcs a + lf f.arcs (a ^^^ 1) ≤ much
/-- What came of it. -/
structure FI (f0 f : Fl) : Prop where
  outs : f.outs = f0.outs
  len : f.arcs.length = f0.arcs.length
  hds : ∀ a, hd f.arcs a = hd f0.arcs a
  pos : ∀ a, a < f0.arcs.length → 0 ≤ lf f.arcs a
  pair : ∀ a, a < f0.arcs.length → lf f.arcs a + lf f.arcs (a ^^^ 1) = lf f0.arcs a + lf f0.arcs (a ^^^ 1)
  bal : ∀ y : Int, y ≠ f0.s → y ≠ f0.t → outD f.arcs y = outD f0.arcs y
theorem FI.refl {f : Fl} (h : F0 f) : FI f f := ⟨rfl, rfl, fun _ => rfl, h.pos, fun _ _ => rfl, fun _ _ _ => rfl⟩
section
variable {f0 f : Fl}
theorem FI.tails (h0 : F0 f0) (h : FI f0 f) : f.Tails := by
  have hs := h0.tails.shape
  have htl : ∀ a, tl f.arcs a = tl f0.arcs a := fun a => h.hds _
  refine ⟨⟨by rw [h.outs]; exact hs.two, ?_, fun x hx => ?_⟩, ?_, ?_⟩
  · rw [h.outs, h.len]; exact hs.outs
  · obtain ⟨i, hi⟩ := List.mem_iff_getElem?.1 hx
    have hil := (List.getElem?_eq_some_iff.1 hi).1
    have e : hd f.arcs i = x.1 := by unfold hd; rw [List.getD_eq_getElem?_getD, hi]; rfl
    rw [← e, h.hds, h.outs]
    have h2 : f0.arcs[i]? = some (f0.arcs.getD i (0, 0)) := getD_some (by rw [← h.len]; exact hil)
    exact hs.arcs _ (List.mem_of_getElem? h2)
  · intro v l hl a ha
    rw [h.outs] at hl
    rw [htl]
    exact h0.tails.outs v l hl a ha
  · intro a ha
    rw [htl, h.outs]
    exact h0.tails.all a (by rw [← h.len]; exact ha)
theorem FI.even (h0 : F0 f0) (h : FI f0 f) : f.arcs.length % 2 = 0 := by rw [h.len]; exact h0.even
theorem found_way (h0 : F0 f0) (h : FI f0 f) (hf : f.found = true) : Tr f.arcs f.outs.length f.seek f.s f.t (f.path f.seek) ∧ pathGo f.arcs f.seek (f.outs.length + 1) f.t = some (f.path f.seek) ∧ (f.path f.seek).Nodup ∧ ∀ a ∈ f.path f.seek, a < f.arcs.length ∧ 0 < lf f.arcs a := by
  have hT := h.tails h0
  have h2 := hT.shape.two
  have hS := Fl.seek_seen hT
  have hne : at_ f.seek f.t ≠ -1 := by
    unfold Fl.found at hf
    unfold at_
    rw [Int.toNat_natCast]
    simpa using hf
  obtain ⟨P, hP, hn⟩ := hS.sv.tr f.t (by unfold Fl.t; omega) (by unfold Fl.t; omega) hne
  have hlen : P.length ≤ f.outs.length := by
    have := nodup_bound f.outs.length (P.map (hd f.arcs)) hn (fun x hx => by
      obtain ⟨a, ha, rfl⟩ := List.mem_map.1 hx
      have := tr_seen hP a ha
      exact ⟨this.2.1, this.2.2.1⟩)
    simpa using this
  have hp := path_of (k := f.outs.length + 1) hP (by omega)
  have he : f.path f.seek = P := by unfold Fl.path; rw [hp]; rfl
  rw [he]
  refine ⟨hP, hp, List.Pairwise.of_map (hd f.arcs) (fun a b h e => h (by rw [e])) hn, fun a ha => ?_⟩
  have := tr_seen hP a ha
  exact ⟨this.2.2.2.2.1, this.2.2.2.2.2⟩
theorem much_pos : 0 < much := by decide
theorem FI.ready (h0 : F0 f0) (h : FI f0 f) : f.Ready := by
  have hT := h.tails h0
  refine ⟨hT.shape, by rw [h.outs]; exact h0.nodes, by rw [h.len]; exact h0.many, by rw [h.outs]; exact h0.rows, h.even h0, fun hf => ⟨_, (found_way h0 h hf).2.1⟩, fun hf => ?_, fun hf t x hx => ?_⟩
  · obtain ⟨-, -, -, hl⟩ := found_way h0 h hf
    have := most_ok (arcs := f.arcs) (f.path f.seek) much much_pos (fun a ha => (hl a ha).2)
    have hmu : much = 1152921504606846976 := rfl
    omega
  · obtain ⟨-, -, hn, hl⟩ := found_way h0 h hf
    have hm := most_ok (arcs := f.arcs) (f.path f.seek) much much_pos (fun a ha => (hl a ha).2)
    have hp := pushAll_ok (m := most f.arcs much (f.path f.seek)) (by omega) ((f.path f.seek).take t) f.arcs (h.even h0) (fun b hb => h.pos b (by rw [← h.len]; exact hb)) (hn.sublist (List.take_sublist _ _)) (fun a ha => by
      have := List.mem_of_mem_take ha
      exact ⟨(hl a this).1, hm.2.2 a this⟩)
    obtain ⟨i, hi⟩ := List.mem_iff_getElem?.1 hx
    have hil := (List.getElem?_eq_some_iff.1 hi).1
    have e : lf (pushAll (most f.arcs much (f.path f.seek)) ((f.path f.seek).take t) f.arcs) i = x.2 := by unfold lf; rw [List.getD_eq_getElem?_getD, hi]; rfl
    rw [hp.len] at hil
    have hi0 : i < f0.arcs.length := by rw [← h.len]; exact hil
    have h1 := hp.pos i hil
    have h2 := hp.pair i hil
    have h3 := hp.pos (i ^^^ 1) (xor_lt hil (h.even h0))
    have h4 := h.pair i hi0
    have h5 := h0.cap i hi0
    have hmu : much = 1152921504606846976 := rfl
    rw [← e]
    omega
theorem FI.push (h0 : F0 f0) (h : FI f0 f) (hf : f.found = true) : FI f0 (f.push f.seek) ∧ outD (f.push f.seek).arcs f0.s < outD f.arcs f0.s := by
  obtain ⟨hP, -, hn, hl⟩ := found_way h0 h hf
  have h2 := (h.tails h0).shape.two
  have hm := most_ok (arcs := f.arcs) (f.path f.seek) much much_pos (fun a ha => (hl a ha).2)
  have hp := pushAll_ok (m := most f.arcs much (f.path f.seek)) (by omega) (f.path f.seek) f.arcs (h.even h0) (fun b hb => h.pos b (by rw [← h.len]; exact hb)) hn (fun a ha => ⟨(hl a ha).1, hm.2.2 a ha⟩)
  have hd_ := fun y => pushAll_outD (m := most f.arcs much (f.path f.seek)) y (f.path f.seek) f.arcs f.t (h.even h0) (tr_chain hP)
  have hst : f.s = f0.s ∧ f.t = f0.t := by unfold Fl.s Fl.t; rw [h.outs]; exact ⟨rfl, rfl⟩
  have hne : f0.s ≠ f0.t := by
    have : 2 ≤ f0.outs.length := by rw [← h.outs]; exact h2
    unfold Fl.s Fl.t; omega
  rw [hst.1, hst.2] at hd_
  refine ⟨⟨h.outs, hp.len.trans h.len, fun a => (hp.hd a).trans (h.hds a), fun a ha => hp.pos a (by rw [h.len]; exact ha), fun a ha => (hp.pair a (by rw [h.len]; exact ha)).trans (h.pair a ha), fun y hy1 hy2 => ?_⟩, ?_⟩
  · show outD (pushAll _ _ _) y = _
    rw [hd_ y, if_neg (Ne.symm hy2), if_neg (Ne.symm hy1), h.bal y hy1 hy2]; omega
  · show outD (pushAll _ _ _) f0.s < _
    rw [hd_ f0.s, if_neg (Ne.symm hne), if_pos rfl]; omega
theorem outD_pos {arcs : List (Int × Int)} (h : ∀ a, a < arcs.length → 0 ≤ lf arcs a) (y : Int) : 0 ≤ outD arcs y := by
  unfold outD
  have : ∀ l : List Nat, (∀ a ∈ l, a < arcs.length) → 0 ≤ (l.map fun a => if tl arcs a = y then lf arcs a else 0).sum := by
    intro l
    induction l with
    | nil => intro _; simp
    | cons a l ih =>
      intro hl
      have h1 := h a (hl a (by simp))
      have h2 := ih fun b hb => hl b (by simp [hb])
      simp only [List.map_cons, List.sum_cons]
      split <;> omega
  exact this _ fun a ha => List.mem_range.1 ha
theorem least_ends (h0 : F0 f0) : ∀ (k : Nat) (f : Fl), FI f0 f → (outD f.arcs f0.s).toNat < k → ∃ fin, leastGo k f = some fin ∧ FI f0 fin ∧ fin.found = false
  | 0, f, h, hk => by omega
  | k + 1, f, h, hk => by
    rw [leastGo]
    by_cases hf : f.found = true
    · rw [if_pos hf]
      obtain ⟨h1, h2⟩ := h.push h0 hf
      have h3 := outD_pos (arcs := (f.push f.seek).arcs) (fun a ha => h1.pos a (by rw [← h1.len]; exact ha)) f0.s
      exact least_ends h0 k _ h1 (by omega)
    · rw [if_neg hf]
      exact ⟨f, rfl, h, by simpa using hf⟩
end
end Go.Pl.M

/- The flow that is made of a net, arc by arc. -/
namespace Go.Pl.M
set_option linter.unusedVariables false
abbrev Ed := Nat × Nat × Int
def addAll : List Ed → Fl → Fl
  | [], f => f
  | e :: E, f => addAll E (f.add e.1 e.2.1 e.2.2)
theorem addAll_append : ∀ (A B : List Ed) (f : Fl), addAll (A ++ B) f = addAll B (addAll A f)
  | [], B, f => rfl
  | e :: A, B, f => addAll_append A B _
def edW : List Int → Nat → List Ed
  | [], _ => []
  | w :: ws, v => (2 * v, 2 * v + 1, w) :: edW ws (v + 1)
def edY (l : List (Int × Int)) : List Ed := l.map fun w => (2 * w.1.toNat + 1, 2 * w.2.toNat, much)
def edF (all : Nat) (l : List Int) : List Ed := l.map fun v => (all - 2, 2 * v.toNat, much)
def edT (all : Nat) (l : List Int) : List Ed := l.map fun v => (2 * v.toNat + 1, all - 1, much)
theorem mkW_eq : ∀ (l : List Int) (v : Nat) (f : Fl), mkW l v f = addAll (edW l v) f
  | [], v, f => rfl
  | w :: ws, v, f => mkW_eq ws (v + 1) _
theorem mkY_eq : ∀ (l : List (Int × Int)) (f : Fl), mkY l f = addAll (edY l) f
  | [], f => rfl
  | w :: ws, f => mkY_eq ws _
theorem mkF_eq (all : Nat) : ∀ (l : List Int) (f : Fl), mkF all l f = addAll (edF all l) f
  | [], f => rfl
  | v :: vs, f => mkF_eq all vs _
theorem mkT_eq (all : Nat) : ∀ (l : List Int) (f : Fl), mkT all l f = addAll (edT all l) f
  | [], f => rfl
  | v :: vs, f => mkT_eq all vs _
def Net.ed (n : Net) : List Ed := edW n.weights 0 ++ (edY n.ways ++ (edF n.all n.frm ++ edT n.all n.to))
theorem mk_eq (n : Net) : n.mk' = addAll n.ed ⟨[], List.replicate n.all []⟩ := by
  unfold Net.mk' Net.ed
  rw [mkT_eq, mkF_eq, mkY_eq, mkW_eq, addAll_append, addAll_append, addAll_append]
def edArcs (E : List Ed) : List (Int × Int) := E.flatMap fun e => [((e.2.1 : Nat), e.2.2), ((e.1 : Nat), 0)]
theorem addAll_arcs : ∀ (E : List Ed) (f : Fl), (addAll E f).arcs = f.arcs ++ edArcs E
  | [], f => by simp [addAll, edArcs]
  | e :: E, f => by
    rw [addAll, addAll_arcs E]
    simp [Fl.add, edArcs]
theorem addAll_outs : ∀ (E : List Ed) (f : Fl), (addAll E f).outs.length = f.outs.length
  | [], f => rfl
  | e :: E, f => by rw [addAll, addAll_outs E]; simp [Fl.add, Rows.app]
theorem getD_two (l : List (Int × Int)) (x y : Int × Int) (i : Nat) : (l ++ [x] ++ [y]).getD i (0, 0) = if i < l.length then l.getD i (0, 0) else if i = l.length then x else if i = l.length + 1 then y else (0, 0) := by
  simp only [List.getD_eq_getElem?_getD, List.append_assoc]
  by_cases h : i < l.length
  · rw [if_pos h, List.getElem?_append_left h]
  · rw [if_neg h, List.getElem?_append_right (by omega)]
    by_cases h1 : i = l.length
    · subst h1; simp
    · rw [if_neg h1]
      by_cases h2 : i = l.length + 1
      · subst h2; simp
      · rw [if_neg h2, List.getElem?_eq_none (by simp; omega)]; rfl
theorem app_mem {r : Rows} {k v : Nat} {x y : Int} {l : List Int} (h : (Rows.app r k x)[v]? = some l) (hy : y ∈ l) : (∃ l0, r[v]? = some l0 ∧ y ∈ l0) ∨ (v = k ∧ y = x) := by
  unfold Rows.app at h
  rw [List.getElem?_set] at h
  by_cases hk : k = v
  · subst hk
    rw [if_pos rfl] at h
    by_cases hkl : k < r.length
    · rw [if_pos hkl] at h
      cases h
      rcases List.mem_append.1 hy with hy | hy
      · exact .inl ⟨_, getD_some hkl, hy⟩
      · exact .inr ⟨rfl, by simpa using hy⟩
    · rw [if_neg hkl] at h; cases h
  · rw [if_neg hk] at h
    exact .inl ⟨l, h, hy⟩
theorem app_keep {r : Rows} (k : Nat) {v : Nat} (x : Int) {y : Int} {l : List Int} (h : r[v]? = some l) (hy : y ∈ l) : ∃ l', (Rows.app r k x)[v]? = some l' ∧ y ∈ l' := by
  unfold Rows.app
  rw [List.getElem?_set]
  have hv := (List.getElem?_eq_some_iff.1 h).1
  by_cases hk : k = v
  · subst hk
    rw [if_pos rfl, if_pos hv]
    refine ⟨_, rfl, List.mem_append_left _ ?_⟩
    rw [List.getD_eq_getElem?_getD, h]; exact hy
  · rw [if_neg hk]; exact ⟨l, h, hy⟩
theorem app_new {r : Rows} {k : Nat} (x : Int) (h : k < r.length) : ∃ l', (Rows.app r k x)[k]? = some l' ∧ x ∈ l' := by
  unfold Rows.app
  rw [List.getElem?_set, if_pos rfl, if_pos h]
  exact ⟨_, rfl, by simp⟩
structure Bd (N : Nat) (f : Fl) : Prop where
  ol : f.outs.length = N
  even : f.arcs.length % 2 = 0
  heads : ∀ a, a < f.arcs.length → 0 ≤ hd f.arcs a ∧ hd f.arcs a < (N : Int)
  outs : ∀ (v : Nat) (l : List Int), f.outs[v]? = some l → ∀ a ∈ l, 0 ≤ a ∧ a < (f.arcs.length : Int) ∧ tl f.arcs a.toNat = v
  all : ∀ a : Nat, a < f.arcs.length → ∃ l, f.outs[(tl f.arcs a).toNat]? = some l ∧ (a : Int) ∈ l
  pos : ∀ a, a < f.arcs.length → 0 ≤ lf f.arcs a
  cap : ∀ a, a < f.arcs.length → lf f.arcs a + lf f.arcs (a ^^^ 1) ≤ much
  rows : ∀ l ∈ f.outs, l.length ≤ f.arcs.length
theorem app_rows {r : Rows} {k : Nat} {x : Int} {m : Nat} (h : ∀ l ∈ r, l.length ≤ m) : ∀ l ∈ Rows.app r k x, l.length ≤ m + 1 := by
  intro l hl
  unfold Rows.app at hl
  rcases List.mem_or_eq_of_mem_set hl with hl | hl
  · have := h l hl; omega
  · rw [hl, List.length_append]
    have : (r.getD k []).length ≤ m := by
      rw [List.getD_eq_getElem?_getD]
      cases hr : r[k]? with
      | none => simp
      | some l0 => exact h l0 (List.mem_of_getElem? hr)
    simp only [List.length_cons, List.length_nil]; omega
theorem add_bd {N : Nat} {f : Fl} (h : Bd N f) {a b : Nat} {c : Int} (ha : a < N) (hb : b < N) (hc0 : 0 ≤ c) (hc : c ≤ much) : Bd N (f.add a b c) := by
  have hL : (f.add a b c).arcs.length = f.arcs.length + 2 := by simp [Fl.add]
  have hget : ∀ i, (f.add a b c).arcs.getD i (0, 0) = if i < f.arcs.length then f.arcs.getD i (0, 0) else if i = f.arcs.length then ((b : Int), c) else if i = f.arcs.length + 1 then ((a : Int), 0) else (0, 0) := fun i => getD_two f.arcs _ _ i
  have he := h.even
  have x1 : f.arcs.length ^^^ 1 = f.arcs.length + 1 := by have := xor_half f.arcs.length; omega
  have x2 : (f.arcs.length + 1) ^^^ 1 = f.arcs.length := by have := xor_half (f.arcs.length + 1); omega
  have hhd : ∀ i, hd (f.add a b c).arcs i = if i < f.arcs.length then hd f.arcs i else if i = f.arcs.length then (b : Int) else if i = f.arcs.length + 1 then (a : Int) else 0 := by
    intro i; unfold hd; rw [hget]; split; rfl; split; rfl; split <;> rfl
  have hlf : ∀ i, lf (f.add a b c).arcs i = if i < f.arcs.length then lf f.arcs i else if i = f.arcs.length then c else 0 := by
    intro i; unfold lf; rw [hget]; split; rfl; split; rfl; split <;> rfl
  have htl : ∀ i, i < f.arcs.length → tl (f.add a b c).arcs i = tl f.arcs i := by
    intro i hi; unfold tl; rw [hhd, if_pos (xor_lt hi he)]
  have htl1 : tl (f.add a b c).arcs f.arcs.length = a := by unfold tl; rw [hhd, x1, if_neg (by omega), if_neg (by omega), if_pos rfl]
  have htl2 : tl (f.add a b c).arcs (f.arcs.length + 1) = b := by unfold tl; rw [hhd, x2, if_neg (by omega), if_pos rfl]
  have hout : (f.add a b c).outs = Rows.app (Rows.app f.outs a (f.arcs.length : Nat)) b ((f.arcs.length + 1 : Nat) : Int) := rfl
  have hol1 : (Rows.app f.outs a (f.arcs.length : Nat)).length = N := by unfold Rows.app; rw [List.length_set]; exact h.ol
  refine ⟨by rw [hout]; unfold Rows.app; rw [List.length_set, List.length_set]; exact h.ol, by omega, fun i hi => ?_, fun v l hl y hy => ?_, fun i hi => ?_, fun i hi => ?_, fun i hi => ?_, ?_⟩
  · rw [hhd]
    split
    · rename_i h1; exact h.heads i h1
    · split
      · omega
      · split <;> omega
  · rw [hout] at hl
    rcases app_mem hl hy with ⟨l1, h1, hy1⟩ | ⟨rfl, rfl⟩
    · rcases app_mem h1 hy1 with ⟨l2, h2, hy2⟩ | ⟨rfl, rfl⟩
      · have := h.outs v l2 h2 y hy2
        exact ⟨this.1, by omega, by rw [htl _ (by omega)]; exact this.2.2⟩
      · exact ⟨by omega, by omega, by rw [Int.toNat_natCast]; exact htl1⟩
    · exact ⟨by omega, by omega, by rw [Int.toNat_natCast]; exact htl2⟩
  · rw [hout]
    by_cases h1 : i < f.arcs.length
    · obtain ⟨l, h2, h3⟩ := h.all i h1
      rw [htl i h1]
      obtain ⟨l1, h4, h5⟩ := app_keep a (f.arcs.length : Nat) h2 h3
      exact app_keep b _ h4 h5
    · by_cases h2 : i = f.arcs.length
      · subst h2
        rw [htl1, Int.toNat_natCast]
        obtain ⟨l1, h4, h5⟩ := app_new (r := f.outs) (k := a) ((f.arcs.length : Nat) : Int) (by rw [h.ol]; exact ha)
        exact app_keep b _ h4 h5
      · have h3 : i = f.arcs.length + 1 := by omega
        subst h3
        rw [htl2, Int.toNat_natCast]
        exact app_new _ (by rw [hol1]; exact hb)
  · rw [hlf]
    split
    · rename_i h1; exact h.pos i h1
    · split <;> omega
  · rw [hlf, hlf]
    by_cases h1 : i < f.arcs.length
    · rw [if_pos h1, if_pos (xor_lt h1 he)]; exact h.cap i h1
    · by_cases h2 : i = f.arcs.length
      · subst h2
        rw [x1, if_neg (by omega), if_pos rfl, if_neg (by omega), if_neg (by omega)]; omega
      · have h3 : i = f.arcs.length + 1 := by omega
        subst h3
        rw [x2, if_neg (by omega), if_neg (by omega), if_neg (by omega), if_pos rfl]; omega
  · rw [hL, hout]
    exact app_rows (app_rows h.rows)
theorem addAll_bd {N : Nat} : ∀ (E : List Ed) (f : Fl), Bd N f → (∀ e ∈ E, e.1 < N ∧ e.2.1 < N ∧ 0 ≤ e.2.2 ∧ e.2.2 ≤ much) → Bd N (addAll E f)
  | [], f, h, _ => h
  | e :: E, f, h, hE => by
    have h1 := hE e (by simp)
    exact addAll_bd E _ (add_bd h h1.1 h1.2.1 h1.2.2.1 h1.2.2.2) fun x hx => hE x (by simp [hx])
theorem edW_mem : ∀ (l : List Int) (v : Nat) (e : Ed), e ∈ edW l v ↔ ∃ j w, l[j]? = some w ∧ e = (2 * (v + j), 2 * (v + j) + 1, w)
  | [], v, e => by simp [edW]
  | w :: ws, v, e => by
    rw [edW, List.mem_cons, edW_mem ws]
    constructor
    · rintro (rfl | ⟨j, w', h1, rfl⟩)
      · exact ⟨0, w, rfl, rfl⟩
      · exact ⟨j + 1, w', by simpa using h1, by rw [show v + 1 + j = v + (j + 1) by omega]⟩
    · rintro ⟨j, w', h1, rfl⟩
      cases j with
      | zero => cases h1; exact .inl rfl
      | succ j => exact .inr ⟨j, w', by simpa using h1, by rw [show v + 1 + j = v + (j + 1) by omega]⟩
theorem edW_len : ∀ (l : List Int) (v : Nat), (edW l v).length = l.length
  | [], v => rfl
  | w :: ws, v => by rw [edW, List.length_cons, edW_len, List.length_cons]
structure Net.InR (n : Net) : Prop where
  w : ∀ x ∈ n.weights, 1 ≤ x ∧ x ≤ 1073741824
  n2000 : n.weights.length ≤ 2000
  y : ∀ x ∈ n.ways, n.has x.1 = true ∧ n.has x.2 = true
  f : ∀ x ∈ n.frm, n.has x = true
  t : ∀ x ∈ n.to, n.has x = true
theorem Net.inR {n : Net} (h : n.right = true) : n.InR := by
  obtain ⟨h1, h2⟩ := Net.right_weights h
  unfold Net.right at h
  simp only [Bool.and_eq_true, Bool.not_eq_true', Bool.or_eq_false_iff, decide_eq_true_eq, List.any_eq_false, Bool.or_eq_true] at h
  obtain ⟨⟨⟨-, h3⟩, h4⟩, -⟩ := h
  refine ⟨h1, h2, fun x hx => ?_, fun x hx => ?_, fun x hx => ?_⟩
  · have := h3 x hx
    simp only [not_or, Bool.not_eq_true, Bool.not_eq_false', Bool.not_eq_eq_eq_not, Bool.not_false, Bool.not_true] at this
    simpa using this
  · have := h4 x (by simp [hx]); simpa using this
  · have := h4 x (by simp [hx]); simpa using this
theorem Net.has_lt {n : Net} {v : Int} (h : n.has v = true) : 0 ≤ v ∧ v.toNat < n.weights.length := by
  unfold Net.has at h
  simp only [Bool.and_eq_true, decide_eq_true_eq] at h
  omega
theorem ed_ok {n : Net} (h : n.InR) : ∀ e ∈ n.ed, e.1 < n.all ∧ e.2.1 < n.all ∧ 0 ≤ e.2.2 ∧ e.2.2 ≤ much := by
  intro e he
  have hmu : much = 1152921504606846976 := rfl
  unfold Net.ed at he
  unfold Net.all
  rcases List.mem_append.1 he with he | he
  · obtain ⟨j, w, h1, rfl⟩ := (edW_mem _ _ _).1 he
    have h2 := (List.getElem?_eq_some_iff.1 h1).1
    have h3 := h.w w (List.mem_of_getElem? h1)
    refine ⟨?_, ?_, ?_, ?_⟩ <;> simp only <;> omega
  rcases List.mem_append.1 he with he | he
  · obtain ⟨x, hx, rfl⟩ := List.mem_map.1 he
    have h1 := h.y x hx
    have h2 := Net.has_lt h1.1
    have h3 := Net.has_lt h1.2
    refine ⟨?_, ?_, ?_, ?_⟩ <;> simp only <;> omega
  rcases List.mem_append.1 he with he | he
  · obtain ⟨x, hx, rfl⟩ := List.mem_map.1 he
    have h2 := Net.has_lt (h.f x hx)
    refine ⟨?_, ?_, ?_, ?_⟩ <;> simp only [Net.all] <;> omega
  · obtain ⟨x, hx, rfl⟩ := List.mem_map.1 he
    have h2 := Net.has_lt (h.t x hx)
    refine ⟨?_, ?_, ?_, ?_⟩ <;> simp only [Net.all] <;> omega
theorem mk_bd {n : Net} (h : n.InR) : Bd n.all n.mk' := by
  rw [mk_eq]
  refine addAll_bd _ _ ⟨by simp, by simp, fun a ha => by simp at ha, fun v l hl a ha => ?_, fun a ha => by simp at ha, fun a ha => by simp at ha, fun a ha => by simp at ha, fun l hl => ?_⟩ (ed_ok h)
  · rw [List.getElem?_replicate] at hl
    split at hl
    · cases hl; cases ha
    · cases hl
  · rw [List.eq_of_mem_replicate hl]; simp
theorem edArcs_len : ∀ E : List Ed, (edArcs E).length = 2 * E.length
  | [] => rfl
  | e :: E => by
    have := edArcs_len E
    unfold edArcs at this ⊢
    rw [List.flatMap_cons, List.length_append, this]
    simp only [List.length_cons, List.length_nil]; omega
theorem mk_f0 {n : Net} (h : n.Fit) : F0 n.mk' := by
  have hR := Net.inR h.right
  have hB := mk_bd hR
  have hlen : n.mk'.arcs.length = 2 * (n.weights.length + (n.ways.length + (n.frm.length + n.to.length))) := by
    rw [mk_eq, addAll_arcs, List.nil_append, edArcs_len]
    unfold Net.ed edY edF edT
    simp [edW_len]
  have h1 := h.ways
  have h2 := h.frm
  have h3 := h.to
  have h4 := hR.n2000
  have hN : n.all = 2 * n.weights.length + 2 := rfl
  refine ⟨⟨⟨by rw [hB.ol]; omega, fun l hl a ha => ?_, fun x hx => ?_⟩, fun v l hl a ha => (hB.outs v l hl a ha).2.2, hB.all⟩, hB.even, by rw [hB.ol]; omega, by omega, fun l hl => ?_, hB.pos, hB.cap⟩
  · obtain ⟨v, hv⟩ := List.mem_iff_getElem?.1 hl
    have := hB.outs v l hv a ha
    exact ⟨this.1, this.2.1⟩
  · obtain ⟨i, hi⟩ := List.mem_iff_getElem?.1 hx
    have := hB.heads i (List.getElem?_eq_some_iff.1 hi).1
    rw [hB.ol]
    have e : hd n.mk'.arcs i = x.1 := by unfold hd; rw [List.getD_eq_getElem?_getD, hi]; rfl
    rw [← e]; exact this
  · have := hB.rows l hl
    omega
/-- 'Least' ends at every net that fits. -/
theorem least_fin {n : Net} (h : n.Fit) : ∃ fin k, leastGo k n.mk' = some fin ∧ FI n.mk' fin ∧ fin.found = false := by
  obtain ⟨fin, h1, h2, h3⟩ := least_ends (mk_f0 h) _ n.mk' (FI.refl (mk_f0 h)) (Nat.lt_succ_self _)
  exact ⟨fin, _, h1, h2, h3⟩
end Go.Pl.M
