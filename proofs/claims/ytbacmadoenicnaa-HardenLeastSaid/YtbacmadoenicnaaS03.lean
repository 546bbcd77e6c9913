/- Joined texts of the proof, part 3: Model20, Model21, Den, Den2. -/
import Derived.Test.YtbacmadoenicnaaS02
import Derived.Orders
import Derived.Calls
import Derived.KernelRfl
import Derived.Deep.MidRow
import Derived.Laws.Cells
import Derived.Laws.Sem
import Derived.Laws.NewBlocks
import Derived.Lib.Strings
set_option maxRecDepth 2000
set_option linter.unusedVariables false
set_option linter.unusedSimpArgs false
set_option linter.unusedSectionVars false
/- What flows is what a cut lets through. -/
namespace Go.Pl.M
set_option linter.unusedVariables false
theorem isum_zero {α : Type} {f : α → Int} {l : List α} (h : ∀ x ∈ l, f x = 0) : (l.map f).sum = 0 := by
  rw [isum_congr h]
  induction l with
  | nil => rfl
  | cons a l ih => simp only [List.map_cons, List.sum_cons]; rw [ih fun x hx => h x (by simp [hx])]; rfl
/-- Sums over places of sums over arcs. -/
theorem isum_swap {N : Nat} (U : Int → Bool) (tlf : Nat → Int) (x : Nat → Int) : ∀ l : List Nat, (∀ a ∈ l, 0 ≤ tlf a ∧ tlf a < (N : Int)) →
    ((List.range N).map fun (y : Nat) => if U y = true then (l.map fun a => if tlf a = (y : Int) then x a else 0).sum else 0).sum = (l.map fun a => if U (tlf a) = true then x a else 0).sum
  | [], _ => by
    refine isum_zero fun y _ => ?_
    split <;> rfl
  | a :: l, h => by
    have ih := isum_swap U tlf x l fun b hb => h b (by simp [hb])
    have ha := h a (by simp)
    simp only [List.map_cons, List.sum_cons]
    rw [← ih]
    have e : ∀ y ∈ List.range N, (if U ((y : Nat) : Int) = true then (if tlf a = (y : Int) then x a else 0) + (l.map fun a => if tlf a = (y : Int) then x a else 0).sum else 0) =
        (if y = (tlf a).toNat then (if U (tlf a) = true then x a else 0) else 0) + (if U ((y : Nat) : Int) = true then (l.map fun a => if tlf a = (y : Int) then x a else 0).sum else 0) := by
      intro y _
      by_cases hy : y = (tlf a).toNat
      · have hy2 : tlf a = (y : Int) := by omega
        rw [if_pos hy, hy2]
        split <;> simp
      · have hy2 : tlf a ≠ (y : Int) := by omega
        rw [if_neg hy, if_neg hy2]
        split <;> simp
    rw [isum_congr e, isum_add, isum_one (by omega)]
theorem isum_pairs (g : Nat → Int) : ∀ k : Nat, ((List.range (2 * k)).map g).sum = ((List.range k).map fun i => g (2 * i) + g (2 * i + 1)).sum
  | 0 => rfl
  | k + 1 => by
    rw [show 2 * (k + 1) = 2 * k + 1 + 1 by omega, List.range_succ, List.range_succ, List.range_succ]
    simp only [List.map_append, List.sum_append, List.map_cons, List.map_nil, List.sum_cons, List.sum_nil]
    rw [isum_pairs g k]; omega
theorem isum_list {α : Type} (d : α) (h : α → Int) : ∀ l : List α, ((List.range l.length).map fun i => h (l.getD i d)).sum = (l.map h).sum
  | [] => rfl
  | a :: l => by
    rw [List.length_cons, List.range_succ_eq_map]
    simp only [List.map_cons, List.sum_cons, List.map_map, List.getD_cons_zero]
    rw [← isum_list d h l]
    congr 1
theorem edArcs_at : ∀ (E : List Ed) (i : Nat) (e : Ed), E[i]? = some e → (edArcs E).getD (2 * i) (0, 0) = (((e.2.1 : Nat) : Int), e.2.2) ∧ (edArcs E).getD (2 * i + 1) (0, 0) = (((e.1 : Nat) : Int), 0)
  | [], i, e, h => by simp at h
  | x :: E, 0, e, h => by
    simp only [List.getElem?_cons_zero, Option.some.injEq] at h
    subst h
    exact ⟨rfl, rfl⟩
  | x :: E, i + 1, e, h => by
    have ih := edArcs_at E i e (by simpa using h)
    have e1 : edArcs (x :: E) = (((x.2.1 : Nat) : Int), x.2.2) :: (((x.1 : Nat) : Int), 0) :: edArcs E := rfl
    rw [e1, show 2 * (i + 1) = 2 * i + 1 + 1 by omega, show 2 * i + 1 + 1 + 1 = (2 * i + 1) + 1 + 1 by omega]
    simp only [List.getD_cons_succ]
    exact ih
/-- What may go out of a set of places. -/
def cutC (U : Int → Bool) (E : List Ed) : Int := (E.map fun e => if U e.1 = true ∧ U e.2.1 = false then e.2.2 else 0).sum
section
variable {n : Net} {f : Fl}
abbrev flow (n : Net) (f : Fl) : Int := outD n.mk'.arcs n.mk'.s - outD f.arcs n.mk'.s
theorem mk_arcs (n : Net) : n.mk'.arcs = edArcs n.ed := by rw [mk_eq, addAll_arcs, List.nil_append]
theorem mk_outs (n : Net) : n.mk'.outs.length = n.all := by rw [mk_eq, addAll_outs]; simp
/-- An arc of the net, as it is now. -/
structure ArcAt (n : Net) (f : Fl) (i : Nat) (e : Ed) : Prop where
  lt : 2 * i + 1 < f.arcs.length
  h0 : hd f.arcs (2 * i) = e.2.1
  h1 : hd f.arcs (2 * i + 1) = e.1
  t0 : tl f.arcs (2 * i) = e.1
  t1 : tl f.arcs (2 * i + 1) = e.2.1
  p0 : 0 ≤ lf f.arcs (2 * i)
  p1 : 0 ≤ lf f.arcs (2 * i + 1)
  sum : lf f.arcs (2 * i) + lf f.arcs (2 * i + 1) = e.2.2
  c0 : lf n.mk'.arcs (2 * i) = e.2.2
  c1 : lf n.mk'.arcs (2 * i + 1) = 0
theorem arc_at (h : FI n.mk' f) {i : Nat} {e : Ed} (hi : n.ed[i]? = some e) : ArcAt n f i e := by
  have hl : n.mk'.arcs.length = 2 * n.ed.length := by rw [mk_arcs, edArcs_len]
  have hil := (List.getElem?_eq_some_iff.1 hi).1
  obtain ⟨g0, g1⟩ := edArcs_at n.ed i e hi
  rw [← mk_arcs] at g0 g1
  have x0 : 2 * i ^^^ 1 = 2 * i + 1 := by have := xor_half (2 * i); omega
  have x1 : (2 * i + 1) ^^^ 1 = 2 * i := by have := xor_half (2 * i + 1); omega
  have a0 : hd f.arcs (2 * i) = e.2.1 := by rw [h.hds]; unfold hd; rw [g0]
  have a1 : hd f.arcs (2 * i + 1) = e.1 := by rw [h.hds]; unfold hd; rw [g1]
  have b0 : lf n.mk'.arcs (2 * i) = e.2.2 := by unfold lf; rw [g0]
  have b1 : lf n.mk'.arcs (2 * i + 1) = 0 := by unfold lf; rw [g1]
  have hp := h.pair (2 * i) (by omega)
  rw [x0, b0, b1] at hp
  exact ⟨by rw [h.len]; omega, a0, a1, by unfold tl; rw [x0]; exact a1, by unfold tl; rw [x1]; exact a0, h.pos _ (by omega), h.pos _ (by omega), by omega, b0, b1⟩
def term (U : Int → Bool) (f : Fl) (i : Nat) (e : Ed) : Int := (if U e.1 = true then lf f.arcs (2 * i + 1) else 0) - (if U e.2.1 = true then lf f.arcs (2 * i + 1) else 0)
theorem flow_sum (hR : n.InR) (h : FI n.mk' f) (U : Int → Bool) (hs : U n.mk'.s = true) (ht : U n.mk'.t = false) :
    flow n f = ((List.range n.ed.length).map fun i => term U f i (n.ed.getD i (0, 0, 0))).sum := by
  have hB := mk_bd hR
  have hN := mk_outs n
  have hl : n.mk'.arcs.length = 2 * n.ed.length := by rw [mk_arcs, edArcs_len]
  have hN2 : n.all = 2 * n.weights.length + 2 := rfl
  have htl : ∀ a ∈ List.range n.mk'.arcs.length, 0 ≤ tl n.mk'.arcs a ∧ tl n.mk'.arcs a < (n.all : Int) := fun a ha => hB.heads _ (xor_lt (List.mem_range.1 ha) hB.even)
  -- by places
  have h1 : ((List.range n.all).map fun (y : Nat) => if U y = true then outD n.mk'.arcs y - outD f.arcs y else 0).sum = flow n f := by
    have e : ∀ y ∈ List.range n.all, (if U ((y : Nat) : Int) = true then outD n.mk'.arcs y - outD f.arcs y else 0) = if y = n.all - 2 then flow n f else 0 := by
      intro y hy
      have hyl := List.mem_range.1 hy
      by_cases h2 : y = n.all - 2
      · rw [if_pos h2]
        have hys : ((y : Nat) : Int) = n.mk'.s := by unfold Fl.s; rw [hN, h2]
        rw [hys, if_pos hs]
      · rw [if_neg h2]
        split
        · rename_i hu
          have h3 : ((y : Nat) : Int) ≠ n.mk'.s := by unfold Fl.s; rw [hN]; omega
          have h4 : ((y : Nat) : Int) ≠ n.mk'.t := by intro e; rw [e, ht] at hu; cases hu
          rw [h.bal _ h3 h4]; omega
        · rfl
    rw [isum_congr e, isum_one (by omega)]
  -- by arcs
  have h2 : ((List.range n.all).map fun (y : Nat) => if U y = true then outD n.mk'.arcs y - outD f.arcs y else 0).sum = ((List.range n.mk'.arcs.length).map fun a => if U (tl n.mk'.arcs a) = true then lf n.mk'.arcs a - lf f.arcs a else 0).sum := by
    rw [← isum_swap (N := n.all) U (tl n.mk'.arcs) (fun a => lf n.mk'.arcs a - lf f.arcs a) _ htl]
    refine isum_congr fun y _ => ?_
    split
    · unfold outD
      rw [h.len]
      have e2 : ∀ a ∈ List.range n.mk'.arcs.length, (if tl n.mk'.arcs a = ((y : Nat) : Int) then lf n.mk'.arcs a - lf f.arcs a else 0) = (if tl n.mk'.arcs a = ((y : Nat) : Int) then lf n.mk'.arcs a else 0) + - (if tl f.arcs a = ((y : Nat) : Int) then lf f.arcs a else 0) := by
        intro a _
        have : tl f.arcs a = tl n.mk'.arcs a := h.hds _
        rw [this]
        split <;> omega
      rw [isum_congr e2, isum_add, isum_neg]; omega
    · rfl
  rw [← h1, h2, hl, isum_pairs]
  refine isum_congr fun i hi => ?_
  have hil := List.mem_range.1 hi
  have hg : n.ed[i]? = some (n.ed.getD i (0, 0, 0)) := getD_some hil
  have hA := arc_at h hg
  have t0 : tl n.mk'.arcs (2 * i) = (n.ed.getD i (0, 0, 0)).1 := by rw [← hA.t0]; exact (h.hds _).symm
  have t1 : tl n.mk'.arcs (2 * i + 1) = (n.ed.getD i (0, 0, 0)).2.1 := by rw [← hA.t1]; exact (h.hds _).symm
  rw [t0, t1, hA.c0, hA.c1]
  unfold term
  have := hA.sum
  split <;> split <;> omega
/-- No more flows than may go out of any set of places with the beginning and without the end. -/
theorem flow_le (hR : n.InR) (h : FI n.mk' f) (U : Int → Bool) (hs : U n.mk'.s = true) (ht : U n.mk'.t = false) : flow n f ≤ cutC U n.ed := by
  rw [flow_sum hR h U hs ht, cutC, ← isum_list (0, 0, 0)]
  refine isum_le fun i hi => ?_
  have hg : n.ed[i]? = some (n.ed.getD i (0, 0, 0)) := getD_some (List.mem_range.1 hi)
  have hA := arc_at h hg
  have hp0 := hA.p0
  have hp1 := hA.p1
  have hsum := hA.sum
  unfold term
  by_cases h1 : U (n.ed.getD i (0, 0, 0)).1 = true
  · by_cases h2 : U (n.ed.getD i (0, 0, 0)).2.1 = true
    · rw [if_pos h1, if_pos h2, if_neg (by rw [h2]; simp)]; omega
    · rw [if_pos h1, if_neg h2, if_pos ⟨h1, by simpa using h2⟩]; omega
  · have hno : ¬ (U (n.ed.getD i (0, 0, 0)).1 = true ∧ U (n.ed.getD i (0, 0, 0)).2.1 = false) := fun e => h1 e.1
    rw [if_neg h1, if_neg hno]
    split <;> omega
/-- What was come to at last. -/
def seenB (f : Fl) (v : Int) : Bool := !decide (at_ f.seek v = -1)
theorem flow_cut (hR : n.InR) (h : FI n.mk' f) (h0 : F0 n.mk') (hf : f.found = false) : flow n f = cutC (seenB f) n.ed ∧ seenB f n.mk'.s = true ∧ seenB f n.mk'.t = false := by
  have hT := h.tails h0
  have hS := Fl.seek_seen hT
  have hst : f.s = n.mk'.s ∧ f.t = n.mk'.t := by unfold Fl.s Fl.t; rw [h.outs]; exact ⟨rfl, rfl⟩
  have hs : seenB f n.mk'.s = true := by
    unfold seenB
    have := hS.sv.src
    have e : ((f.outs.length - 2 : Nat) : Int) = n.mk'.s := hst.1
    rw [e] at this
    rw [this]; rfl
  have ht : seenB f n.mk'.t = false := by
    unfold Fl.found at hf
    unfold seenB at_
    rw [← hst.2]
    unfold Fl.t
    rw [Int.toNat_natCast]
    exact hf
  refine ⟨?_, hs, ht⟩
  have hB := mk_bd hR
  rw [flow_sum hR h (seenB f) hs ht, cutC, ← isum_list (0, 0, 0)]
  refine isum_congr fun i hi => ?_
  have hg : n.ed[i]? = some (n.ed.getD i (0, 0, 0)) := getD_some (List.mem_range.1 hi)
  have hA := arc_at h hg
  have hin := ed_ok hR _ (List.mem_of_getElem? hg)
  have hol : f.outs.length = n.all := by rw [h.outs, mk_outs]
  have shut : ∀ a : Nat, a < f.arcs.length → 0 ≤ tl f.arcs a → tl f.arcs a < (n.all : Int) → seenB f (tl f.arcs a) = true → 0 < lf f.arcs a → seenB f (hd f.arcs a) = true := by
    intro a ha h1 h2 h3 h4
    obtain ⟨l, hl, hm⟩ := hT.all a ha
    have h5 := hS.shut (tl f.arcs a) h1 (by rw [hol]; exact h2) (by unfold seenB at h3; simpa using h3) (a : Int) (by rw [List.getD_eq_getElem?_getD, hl]; exact hm) (by rw [Int.toNat_natCast]; exact h4)
    rw [Int.toNat_natCast] at h5
    unfold seenB
    simpa using h5
  have s0 := shut (2 * i) (by have := hA.lt; omega) (by rw [hA.t0]; omega) (by rw [hA.t0]; omega)
  have s1 := shut (2 * i + 1) hA.lt (by rw [hA.t1]; omega) (by rw [hA.t1]; omega)
  rw [hA.t0, hA.h0] at s0
  rw [hA.t1, hA.h1] at s1
  have hp0 := hA.p0
  have hp1 := hA.p1
  have hsum := hA.sum
  unfold term
  by_cases h1 : seenB f ((n.ed.getD i (0, 0, 0)).1 : Nat) = true
  · by_cases h2 : seenB f ((n.ed.getD i (0, 0, 0)).2.1 : Nat) = true
    · rw [if_pos h1, if_pos h2, if_neg (by rw [h2]; simp)]; omega
    · rw [if_pos h1, if_neg h2, if_pos ⟨h1, by simpa using h2⟩]
      have : ¬ 0 < lf f.arcs (2 * i) := fun e => h2 (s0 h1 e)
      omega
  · have hno : ¬ (seenB f ((n.ed.getD i (0, 0, 0)).1 : Nat) = true ∧ seenB f ((n.ed.getD i (0, 0, 0)).2.1 : Nat) = false) := fun e => h1 e.1
    rw [if_neg h1, if_neg hno]
    by_cases h2 : seenB f ((n.ed.getD i (0, 0, 0)).2.1 : Nat) = true
    · rw [if_pos h2]
      have : ¬ 0 < lf f.arcs (2 * i + 1) := fun e => h1 (s1 h2 e)
      omega
    · rw [if_neg h2]; omega
end
end Go.Pl.M

/- The cut that is found cuts, and no other one weighs less. -/
namespace Go.Pl.M
set_option linter.unusedVariables false
theorem cutC_append (U : Int → Bool) (A B : List Ed) : cutC U (A ++ B) = cutC U A + cutC U B := by unfold cutC; rw [List.map_append, List.sum_append]
theorem cutC_zero {U : Int → Bool} {A : List Ed} (h : ∀ e ∈ A, ¬ (U e.1 = true ∧ U e.2.1 = false)) : cutC U A = 0 := by
  unfold cutC
  exact isum_zero fun e he => if_neg (h e he)
theorem cutC_ge {U : Int → Bool} : ∀ {A : List Ed}, (∀ e ∈ A, 0 ≤ e.2.2) → ∀ e ∈ A, U e.1 = true → U e.2.1 = false → e.2.2 ≤ cutC U A
  | [], _, e, he, _, _ => by cases he
  | a :: A, hp, e, he, h1, h2 => by
    have hnn : 0 ≤ cutC U A := by
      have : ∀ B : List Ed, (∀ e ∈ B, 0 ≤ e.2.2) → 0 ≤ cutC U B := by
        intro B
        induction B with
        | nil => intro _; simp [cutC]
        | cons b B ih =>
          intro hb
          have h3 := hb b (by simp)
          have h4 := ih fun x hx => hb x (by simp [hx])
          unfold cutC at h4 ⊢
          simp only [List.map_cons, List.sum_cons]
          split <;> omega
      exact this A fun x hx => hp x (by simp [hx])
    have ha := hp a (by simp)
    have hc : cutC U (a :: A) = (if U a.1 = true ∧ U a.2.1 = false then a.2.2 else 0) + cutC U A := by unfold cutC; simp
    rw [hc]
    rcases List.mem_cons.1 he with rfl | he
    · rw [if_pos ⟨h1, h2⟩]; omega
    · have := cutC_ge (fun x hx => hp x (by simp [hx])) e he h1 h2
      split <;> omega
/-- The arcs within places. -/
theorem cutC_in (U : Int → Bool) : ∀ (ws : List Int) (v : Nat), cutC U (edW ws v) = ((List.range ws.length).map fun j => if U ((2 * (v + j) : Nat) : Int) = true ∧ U ((2 * (v + j) + 1 : Nat) : Int) = false then ws.getD j 0 else 0).sum
  | [], v => rfl
  | w :: ws, v => by
    have ih := cutC_in U ws (v + 1)
    have hc : cutC U (edW (w :: ws) v) = (if U ((2 * v : Nat) : Int) = true ∧ U ((2 * v + 1 : Nat) : Int) = false then w else 0) + cutC U (edW ws (v + 1)) := by unfold cutC; rw [edW]; simp
    rw [hc, ih, List.length_cons, List.range_succ_eq_map]
    simp only [List.map_cons, List.sum_cons, List.map_map, List.getD_cons_zero, Nat.add_zero]
    congr 1
    refine isum_congr fun j _ => ?_
    simp only [Function.comp, List.getD_cons_succ]
    rw [show v + 1 + j = v + j.succ by omega]
theorem weight_sum (n : Net) : ∀ (l : List Int) (o : Int), l.foldl (fun (o v : Int) => if 0 ≤ v ∧ v < (n.weights.length : Nat) then o + n.weights.getD v.toNat 0 else o) o = o + (l.map fun v : Int => if 0 ≤ v ∧ v < (n.weights.length : Nat) then n.weights.getD v.toNat 0 else 0).sum
  | [], o => by simp
  | v :: l, o => by
    rw [List.foldl_cons, weight_sum n l]
    simp only [List.map_cons, List.sum_cons]
    split <;> omega
theorem weight_eq (n : Net) (l : List Int) : n.weight l = (l.map fun v : Int => if 0 ≤ v ∧ v < (n.weights.length : Nat) then n.weights.getD v.toNat 0 else 0).sum := by
  unfold Net.weight
  rw [weight_sum]; omega
theorem filter_sum (p : Nat → Bool) (x : Nat → Int) : ∀ l : List Nat, ((l.filter p).map x).sum = (l.map fun v => if p v = true then x v else 0).sum
  | [] => rfl
  | a :: l => by
    have ih := filter_sum p x l
    by_cases h : p a = true
    · rw [List.filter_cons_of_pos h]; simp only [List.map_cons, List.sum_cons, ih]; rw [if_pos h]
    · rw [List.filter_cons_of_neg h]; simp only [List.map_cons, List.sum_cons, ih]; rw [if_neg h]; omega
theorem weight_cutOf (n : Net) (by_ : List Int) : n.weight (cutOf by_ n.weights.length) = ((List.range n.weights.length).map fun v => if by_.getD (2 * v) 0 ≠ -1 ∧ by_.getD (2 * v + 1) 0 = -1 then n.weights.getD v 0 else 0).sum := by
  rw [weight_eq, cutOf, List.map_map]
  have e : ∀ l : List Nat, (∀ v ∈ l, v < n.weights.length) → (l.map ((fun v : Int => if 0 ≤ v ∧ v < (n.weights.length : Nat) then n.weights.getD v.toNat 0 else 0) ∘ fun (v : Nat) => (v : Int))) = l.map fun v => n.weights.getD v 0 := by
    intro l hl
    refine List.map_congr_left fun v hv => ?_
    simp only [Function.comp]
    rw [if_pos ⟨by omega, by have := hl v hv; omega⟩, Int.toNat_natCast]
  rw [e _ fun v hv => List.mem_range.1 (List.mem_filter.1 hv).1, filter_sum]
  refine isum_congr fun v _ => ?_
  generalize by_.getD (2 * v) 0 = p
  generalize by_.getD (2 * v + 1) 0 = q
  by_cases h1 : p = -1
  · simp [h1]
  · by_cases h2 : q = -1
    · rw [if_pos (by simp [h1, h2]), if_pos ⟨h1, h2⟩]
    · rw [if_neg (by simp [h1, h2]), if_neg fun e => h2 e.2]
/-- Places without which nothing comes from the beginning to the end. -/
structure Net.CutBy (n : Net) (l : List Int) (R : Int → Bool) : Prop where
  frm : ∀ v ∈ n.frm, R v = true
  ways : ∀ x ∈ n.ways, R x.1 = true → x.1 ∉ l → R x.2 = true
  to : ∀ v ∈ n.to, R v = true → v ∈ l
section
variable {n : Net} {f : Fl}
theorem sum_ge_mem {x : Nat → Int} (hx : ∀ v, 0 ≤ x v) : ∀ (l : List Int) (m : Nat), (∀ v ∈ l, 0 ≤ v ∧ v < (m : Int)) → ((List.range m).map fun (v : Nat) => if (v : Int) ∈ l then x v else 0).sum ≤ (l.map fun v => x v.toNat).sum
  | [], m, _ => by
    rw [isum_zero]; simp
    intro v _; simp
  | a :: l, m, h => by
    have ih := sum_ge_mem hx l m fun v hv => h v (by simp [hv])
    have ha := h a (by simp)
    simp only [List.map_cons, List.sum_cons]
    have e : ((List.range m).map fun (v : Nat) => if (v : Int) ∈ a :: l then x v else 0).sum ≤ ((List.range m).map fun (v : Nat) => (if v = a.toNat then x a.toNat else 0) + (if (v : Int) ∈ l then x v else 0)).sum := by
      refine isum_le fun v _ => ?_
      by_cases h1 : v = a.toNat
      · subst h1
        rw [if_pos rfl]
        have := hx a.toNat
        split <;> split <;> omega
      · rw [if_neg h1]
        have h2 : (v : Int) ≠ a := by omega
        by_cases h3 : (v : Int) ∈ l
        · rw [if_pos (by simp [h3]), if_pos h3]; omega
        · rw [if_neg (by simp [h3, h2]), if_neg h3]; omega
    rw [isum_add, isum_one (by omega)] at e
    omega
theorem Net.s_eq (n : Net) : n.mk'.s = ((2 * n.weights.length : Nat) : Int) := by
  unfold Fl.s; rw [mk_outs]; unfold Net.all; congr 1
theorem Net.t_eq (n : Net) : n.mk'.t = ((2 * n.weights.length + 1 : Nat) : Int) := by
  unfold Fl.t; rw [mk_outs]; unfold Net.all; congr 1
/-- The set of places on the near side of a cut. -/
def side (n : Net) (l : List Int) (R : Int → Bool) (v : Int) : Bool :=
  if v = n.mk'.s then true else if v = n.mk'.t then false else if v % 2 = 0 then R (v / 2) else R (v / 2) && !decide (v / 2 ∈ l)
theorem side_even {l : List Int} {R : Int → Bool} {v : Nat} (h : v < n.weights.length) : side n l R ((2 * v : Nat) : Int) = R v := by
  unfold side
  rw [n.s_eq, n.t_eq, if_neg (by omega), if_neg (by omega), if_pos (by omega)]
  congr 1; omega
theorem side_odd {l : List Int} {R : Int → Bool} {v : Nat} (h : v < n.weights.length) : side n l R ((2 * v + 1 : Nat) : Int) = (R v && !decide ((v : Int) ∈ l)) := by
  unfold side
  rw [n.s_eq, n.t_eq, if_neg (by omega), if_neg (by omega), if_neg (by omega)]
  have : ((2 * v + 1 : Nat) : Int) / 2 = (v : Int) := by omega
  rw [this]
theorem side_s {l : List Int} {R : Int → Bool} : side n l R n.mk'.s = true := by unfold side; rw [if_pos rfl]
theorem side_t {l : List Int} {R : Int → Bool} : side n l R n.mk'.t = false := by
  unfold side
  rw [if_neg (by rw [n.s_eq, n.t_eq]; omega), if_pos rfl]
theorem all_s (n : Net) : ((n.all - 2 : Nat) : Int) = n.mk'.s := by rw [n.s_eq]; unfold Net.all; omega
theorem all_t (n : Net) : ((n.all - 1 : Nat) : Int) = n.mk'.t := by rw [n.t_eq]; unfold Net.all; omega
/-- Whatever cuts weighs at least what flows. -/
theorem cut_ge (hR : n.InR) (h : FI n.mk' f) {l : List Int} {R : Int → Bool} (hc : n.CutBy l R) (hl : ∀ v ∈ l, n.has v = true) : flow n f ≤ n.weight l := by
  refine Int.le_trans (flow_le hR h (side n l R) side_s side_t) ?_
  unfold Net.ed
  rw [cutC_append, cutC_append, cutC_append]
  have z1 : cutC (side n l R) (edY n.ways) = 0 := cutC_zero fun e he => by
    obtain ⟨x, hx, rfl⟩ := List.mem_map.1 he
    have h1 := hR.y x hx
    have h2 := Net.has_lt h1.1
    have h3 := Net.has_lt h1.2
    simp only
    rw [side_odd h2.2, side_even h3.2]
    have e1 : ((x.1.toNat : Nat) : Int) = x.1 := by omega
    have e2 : ((x.2.toNat : Nat) : Int) = x.2 := by omega
    rw [e1, e2]
    rintro ⟨h4, h5⟩
    simp only [Bool.and_eq_true, Bool.not_eq_true', decide_eq_false_iff_not] at h4
    rw [hc.ways x hx h4.1 h4.2] at h5
    cases h5
  have z2 : cutC (side n l R) (edF n.all n.frm) = 0 := cutC_zero fun e he => by
    obtain ⟨x, hx, rfl⟩ := List.mem_map.1 he
    have h2 := Net.has_lt (hR.f x hx)
    simp only
    rw [side_even h2.2]
    have e1 : ((x.toNat : Nat) : Int) = x := by omega
    rw [e1, hc.frm x hx]
    simp
  have z3 : cutC (side n l R) (edT n.all n.to) = 0 := cutC_zero fun e he => by
    obtain ⟨x, hx, rfl⟩ := List.mem_map.1 he
    have h2 := Net.has_lt (hR.t x hx)
    simp only
    rw [side_odd h2.2]
    have e1 : ((x.toNat : Nat) : Int) = x := by omega
    rw [e1]
    rintro ⟨h4, -⟩
    simp only [Bool.and_eq_true, Bool.not_eq_true', decide_eq_false_iff_not] at h4
    exact h4.2 (hc.to x hx h4.1)
  rw [z1, z2, z3, cutC_in]
  have hpos : ∀ v, 0 ≤ n.weights.getD v 0 := by
    intro v
    rw [List.getD_eq_getElem?_getD]
    cases hv : n.weights[v]? with
    | none => simp
    | some w => have := (hR.w w (List.mem_of_getElem? hv)).1; simp only [Option.getD_some]; omega
  have h1 : ((List.range n.weights.length).map fun j => if side n l R ((2 * (0 + j) : Nat) : Int) = true ∧ side n l R ((2 * (0 + j) + 1 : Nat) : Int) = false then n.weights.getD j 0 else 0).sum ≤ ((List.range n.weights.length).map fun (v : Nat) => if (v : Int) ∈ l then n.weights.getD v 0 else 0).sum := by
    refine isum_le fun j hj => ?_
    have hjl := List.mem_range.1 hj
    rw [Nat.zero_add, side_even hjl, side_odd hjl]
    have := hpos j
    split
    · rename_i h2
      rw [if_pos ?_]; omega
      have h3 := h2.2
      rw [h2.1] at h3
      simpa using h3
    · split <;> omega
  have h2 := sum_ge_mem (x := fun v => n.weights.getD v 0) hpos l n.weights.length fun v hv => by
    have := Net.has_lt (hl v hv); omega
  have h3 : n.weight l = (l.map fun v : Int => n.weights.getD v.toNat 0).sum := by
    rw [weight_eq]
    refine isum_congr fun v hv => ?_
    have := Net.has_lt (hl v hv)
    rw [if_pos (by omega)]
  rw [h3]
  omega
/-- At last nothing but what is within places is cut. -/
theorem found_cut (hR : n.InR) (h : FI n.mk' f) (h0 : F0 n.mk') (hf : f.found = false) : n.CutBy (cutOf f.seek n.weights.length) (fun v => seenB f (2 * v)) ∧ n.weight (cutOf f.seek n.weights.length) = flow n f := by
  obtain ⟨hF, hs, ht⟩ := flow_cut hR h h0 hf
  have hnn : ∀ e ∈ n.ed, 0 ≤ e.2.2 := fun e he => (ed_ok hR e he).2.2.1
  -- what flows is less than 'much'
  have hless : flow n f < much := by
    have h1 := cut_ge hR h (l := (List.range n.weights.length).map fun (v : Nat) => (v : Int)) (R := fun _ => true) ⟨fun _ _ => rfl, fun _ _ _ _ => rfl, fun v hv _ => by
      have := Net.has_lt (hR.t v hv)
      exact List.mem_map.2 ⟨v.toNat, List.mem_range.2 this.2, by omega⟩⟩ (fun v hv => by
      obtain ⟨j, hj, rfl⟩ := List.mem_map.1 hv
      have := List.mem_range.1 hj
      unfold Net.has; simp; omega)
    rw [weight_eq] at h1
    have h2 := isum_top (f := fun v : Int => if 0 ≤ v ∧ v < (n.weights.length : Nat) then n.weights.getD v.toNat 0 else 0) (m := 1073741824) (l := (List.range n.weights.length).map fun (v : Nat) => (v : Int)) (fun v hv => by
      split
      · rename_i hc
        have hg : n.weights[v.toNat]? = some (n.weights.getD v.toNat 0) := getD_some (by omega)
        exact (hR.w _ (List.mem_of_getElem? hg)).2
      · decide)
    rw [List.length_map, List.length_range] at h2
    have h3 := hR.n2000
    have hmu : much = 1152921504606846976 := rfl
    omega
  have no : ∀ e ∈ n.ed, e.2.2 = much → seenB f e.1 = true → seenB f e.2.1 = true := by
    intro e he hm h1
    cases h2 : seenB f e.2.1 with
    | true => rfl
    | false =>
      have := cutC_ge hnn e he h1 h2
      omega
  have hmem : ∀ v : Nat, v < n.weights.length → (((v : Nat) : Int) ∈ cutOf f.seek n.weights.length ↔ seenB f ((2 * v : Nat) : Int) = true ∧ seenB f ((2 * v + 1 : Nat) : Int) = false) := by
    intro v hv
    unfold cutOf seenB at_
    simp only [Int.toNat_natCast, List.mem_map, List.mem_filter, List.mem_range, Bool.and_eq_true, decide_eq_true_eq]
    constructor
    · rintro ⟨u, ⟨_, h1, h2⟩, e⟩
      have : u = v := by omega
      subst this
      exact ⟨h1, by simp only [h2, decide_true, Bool.not_true]⟩
    · rintro ⟨h1, h2⟩
      exact ⟨v, ⟨hv, h1, by simpa using h2⟩, rfl⟩
  have hinner : ∀ x : Int, n.has x = true → seenB f (2 * x) = true → x ∉ cutOf f.seek n.weights.length → seenB f ((2 * x.toNat + 1 : Nat) : Int) = true := by
    intro x hx h1 h2
    have h3 := Net.has_lt hx
    have e1 : ((x.toNat : Nat) : Int) = x := by omega
    have e2 : ((2 * x.toNat : Nat) : Int) = 2 * x := by omega
    cases h4 : seenB f ((2 * x.toNat + 1 : Nat) : Int) with
    | true => rfl
    | false =>
      have := (hmem x.toNat h3.2).2 ⟨by rw [e2]; exact h1, h4⟩
      rw [e1] at this
      exact absurd this h2
  refine ⟨⟨fun v hv => ?_, fun x hx h1 h2 => ?_, fun v hv h1 => ?_⟩, ?_⟩
  · have h3 := Net.has_lt (hR.f v hv)
    have := no (n.all - 2, 2 * v.toNat, much) (by unfold Net.ed; exact List.mem_append_right _ (List.mem_append_right _ (List.mem_append_left _ (List.mem_map.2 ⟨v, hv, rfl⟩)))) rfl (by simp only; rw [all_s]; exact hs)
    have e2 : ((2 * v.toNat : Nat) : Int) = 2 * v := by omega
    simp only at this
    rw [e2] at this
    exact this
  · have hy := hR.y x hx
    have h3 := Net.has_lt hy.2
    have h4 := hinner x.1 hy.1 h1 h2
    have := no (2 * x.1.toNat + 1, 2 * x.2.toNat, much) (by unfold Net.ed; exact List.mem_append_right _ (List.mem_append_left _ (List.mem_map.2 ⟨x, hx, rfl⟩))) rfl h4
    have e2 : ((2 * x.2.toNat : Nat) : Int) = 2 * x.2 := by omega
    simp only at this
    rw [e2] at this
    exact this
  · by_cases h2 : v ∈ cutOf f.seek n.weights.length
    · exact h2
    · have h4 := hinner v (hR.t v hv) h1 h2
      have := no (2 * v.toNat + 1, n.all - 1, much) (by unfold Net.ed; exact List.mem_append_right _ (List.mem_append_right _ (List.mem_append_right _ (List.mem_map.2 ⟨v, hv, rfl⟩)))) rfl h4
      simp only at this
      rw [all_t, ht] at this
      cases this
  · rw [hF]
    unfold Net.ed
    rw [cutC_append, cutC_append, cutC_append]
    have z : ∀ A : List Ed, (∀ e ∈ A, e ∈ n.ed ∧ e.2.2 = much) → cutC (seenB f) A = 0 := fun A hA => cutC_zero fun e he hh => by
      have := no e (hA e he).1 (hA e he).2 hh.1
      rw [this] at hh; cases hh.2
    have z1 : cutC (seenB f) (edY n.ways) = 0 := z _ fun e he => ⟨by unfold Net.ed; exact List.mem_append_right _ (List.mem_append_left _ he), by obtain ⟨x, _, rfl⟩ := List.mem_map.1 he; rfl⟩
    have z2 : cutC (seenB f) (edF n.all n.frm) = 0 := z _ fun e he => ⟨by unfold Net.ed; exact List.mem_append_right _ (List.mem_append_right _ (List.mem_append_left _ he)), by obtain ⟨x, _, rfl⟩ := List.mem_map.1 he; rfl⟩
    have z3 : cutC (seenB f) (edT n.all n.to) = 0 := z _ fun e he => ⟨by unfold Net.ed; exact List.mem_append_right _ (List.mem_append_right _ (List.mem_append_right _ he)), by obtain ⟨x, _, rfl⟩ := List.mem_map.1 he; rfl⟩
    rw [z1, z2, z3, cutC_in, weight_cutOf]
    rw [show ((List.range n.weights.length).map fun v => if f.seek.getD (2 * v) 0 ≠ -1 ∧ f.seek.getD (2 * v + 1) 0 = -1 then n.weights.getD v 0 else 0) = (List.range n.weights.length).map fun j => if seenB f ((2 * (0 + j) : Nat) : Int) = true ∧ seenB f ((2 * (0 + j) + 1 : Nat) : Int) = false then n.weights.getD j 0 else 0 from List.map_congr_left fun j _ => by
      unfold seenB at_
      simp only [Nat.zero_add, Int.toNat_natCast, Bool.not_eq_true', decide_eq_false_iff_not, Bool.not_eq_false', decide_eq_true_eq, ne_eq]]
    omega
/-- What is found weighs least. -/
theorem cut_least (hR : n.InR) (h : FI n.mk' f) (h0 : F0 n.mk') (hf : f.found = false) {l : List Int} {R : Int → Bool} (hc : n.CutBy l R) (hl : ∀ v ∈ l, n.has v = true) : n.weight (cutOf f.seek n.weights.length) ≤ n.weight l := by
  rw [(found_cut hR h h0 hf).2]
  exact cut_ge hR h hc hl
end
end Go.Pl.M

/- A reading of translated functions in plain propositions: 'den' turns a function's code, with a table of the kinds of its temporaries, into a proposition without frames; 'den_sound' says that the proposition gives the run. -/
namespace Go.Pl
set_option linter.unusedVariables false

inductive Kd where
  | int (k : IntKind) | bool | str | ptr | sl | map | any
/-- Functions of what a value of a kind is made of. -/
def Kd.Fn : Kd → Type → Type
  | .int _, R => Int → R
  | .bool, R => Bool → R
  | .str, R => ByteArray → R
  | .ptr, R => Option Addr → R
  | .sl, R => Option Addr → Nat → Nat → R
  | .map, R => Option Nat → R
  | .any, R => Value → R
def Kd.exV : Kd → (Value → Prop) → Prop
  | .int k, K => ∃ x : Int, K (.int k x)
  | .bool, K => ∃ x : Bool, K (.bool x)
  | .str, K => ∃ x : ByteArray, K (.string x)
  | .ptr, K => ∃ x : Option Addr, K (.pointer x)
  | .sl, K => ∃ (a : Option Addr) (n c : Nat), K (.slice a n c)
  | .map, K => ∃ x : Option Nat, K (.map x)
  | .any, K => ∃ x : Value, K x
theorem Kd.exV_inv {k : Kd} {K : Value → Prop} (h : k.exV K) : ∃ v, K v := by
  cases k <;> first
    | (obtain ⟨x, h⟩ := h; exact ⟨_, h⟩)
    | (obtain ⟨a, n, c, h⟩ := h; exact ⟨_, h⟩)
def ikEq : IntKind → IntKind → Bool
  | .i8, .i8 | .i16, .i16 | .i32, .i32 | .i64, .i64 | .u8, .u8 | .u16, .u16 | .u32, .u32 | .u64, .u64 => true
  | _, _ => false
theorem ikEq_eq {a b : IntKind} (h : ikEq a b = true) : a = b := by cases a <;> cases b <;> first | rfl | (simp [ikEq] at h)
def Kd.allF : (k : Kd) → {R : Type} → k.Fn R → (Value → R → Prop) → Prop
  | .int q, _, f, G => ∀ x : Int, G (.int q x) ((f : Int → _) x)
  | .bool, _, f, G => ∀ x : Bool, G (.bool x) ((f : Bool → _) x)
  | .str, _, f, G => ∀ x : ByteArray, G (.string x) ((f : ByteArray → _) x)
  | .ptr, _, f, G => ∀ x : Option Addr, G (.pointer x) ((f : Option Addr → _) x)
  | .sl, _, f, G => ∀ (a : Option Addr) (n c : Nat), G (.slice a n c) ((f : Option Addr → Nat → Nat → _) a n c)
  | .map, _, f, G => ∀ x : Option Nat, G (.map x) ((f : Option Nat → _) x)
  | .any, _, f, G => ∀ x : Value, G x ((f : Value → _) x)
/-- A function, at what a value is made of. -/
def Kd.appF : (k : Kd) → {R : Type} → k.Fn R → Value → (R → Prop) → Prop
  | .int q, _, f, .int q' x, K => match ikEq q q' with | true => K ((f : Int → _) x) | false => False
  | .bool, _, f, .bool x, K => K ((f : Bool → _) x)
  | .str, _, f, .string x, K => K ((f : ByteArray → _) x)
  | .ptr, _, f, .pointer p, K => K ((f : Option Addr → _) p)
  | .sl, _, f, .slice a n c, K => K ((f : Option Addr → Nat → Nat → _) a n c)
  | .map, _, f, .map x, K => K ((f : Option Nat → _) x)
  | .any, _, f, v, K => K ((f : Value → _) v)
  | _, _, _, _, _ => False
def Kd.mkF : (k : Kd) → {R : Type} → (Value → R) → k.Fn R
  | .int q, _, g => fun (x : Int) => g (.int q x)
  | .bool, _, g => fun (x : Bool) => g (.bool x)
  | .str, _, g => fun (x : ByteArray) => g (.string x)
  | .ptr, _, g => fun (x : Option Addr) => g (.pointer x)
  | .sl, _, g => fun (a : Option Addr) (n c : Nat) => g (.slice a n c)
  | .map, _, g => fun (x : Option Nat) => g (.map x)
  | .any, _, g => fun (x : Value) => g x
theorem Kd.app_mk {k : Kd} {R : Type} {g : Value → R} {v : Value} {K : R → Prop} (h : k.appF (k.mkF g) v K) : K (g v) := by
  cases k <;> cases v <;> simp only [Kd.appF, Kd.mkF] at h <;> first
    | exact h
    | exact h.elim
    | (split at h; · rename_i e; rw [← ikEq_eq e]; exact h
       · exact h.elim)
theorem Kd.all_mk {k : Kd} {R : Type} {g : Value → R} {G : Value → R → Prop} (h : ∀ v, G v (g v)) : k.allF (k.mkF g) G := by
  cases k <;> simp only [Kd.allF, Kd.mkF] <;> intros <;> exact h _
theorem Kd.all_app {k : Kd} {R : Type} {f : k.Fn R} {v : Value} {G : Value → R → Prop} {H : R → Prop} (h : k.allF f G) (hv : k.appF f v H) : ∃ r, G v r ∧ H r := by
  cases k <;> cases v <;> simp only [Kd.appF, Kd.allF] at h hv <;> first
    | exact ⟨_, h _, hv⟩
    | exact ⟨_, h _ _ _, hv⟩
    | exact hv.elim
    | (split at hv; · rename_i e; have e' := ikEq_eq e; subst e'; exact ⟨_, h _, hv⟩
       · exact hv.elim)

abbrev Env := Nat → Option Value
def upd (ρ : Env) (d : Nat) (v : Option Value) : Env := fun t => match Nat.beq t d with | true => v | false => ρ t
theorem upd_same (ρ : Env) (d : Nat) (v : Option Value) : upd ρ d v d = v := by
  simp [upd]
theorem upd_ne (ρ : Env) {d t : Nat} (v : Option Value) (h : t ≠ d) : upd ρ d v t = ρ t := by
  have : Nat.beq t d = false := by cases hb : Nat.beq t d with | false => rfl | true => exact absurd (Nat.eq_of_beq_eq_true hb) h
  simp [upd, this]
def clr (ws : List Nat) (ρ : Env) : Env := fun t => match ws.any (Nat.beq t) with | true => none | false => ρ t

inductive Sh1 where
  | one (k : Kd) | agg (ks : List Kd)
inductive Sh where
  | v (s : Sh1) | t (ss : List Sh1)
def exL : List Kd → (List Value → Prop) → Prop
  | [], K => K []
  | k :: ks, K => k.exV fun v => exL ks fun vs => K (v :: vs)
def Sh1.ex : Sh1 → (Value → Prop) → Prop
  | .one k, K => k.exV K
  | .agg ks, K => exL ks fun vs => K (.agg ⟨vs⟩)
def exS : List Sh1 → (List Value → Prop) → Prop
  | [], K => K []
  | s :: ss, K => s.ex fun v => exS ss fun vs => K (v :: vs)
def Sh.ex : Sh → (Value → Prop) → Prop
  | .v s, K => s.ex K
  | .t ss, K => exS ss fun vs => K (.tuple ⟨vs⟩)
theorem exL_len : ∀ {ks : List Kd} {Q : List Value → Prop}, exL ks Q → ∃ vs, vs.length = ks.length ∧ Q vs
  | [], Q, h => ⟨[], rfl, h⟩
  | k :: ks, Q, h => let ⟨v, h⟩ := Kd.exV_inv h; let ⟨vs, h1, h2⟩ := exL_len h; ⟨_, by simp [h1], h2⟩
theorem exL_inv {ks : List Kd} {K : List Value → Prop} (h : exL ks K) : ∃ vs, K vs := let ⟨vs, _, h⟩ := exL_len h; ⟨vs, h⟩
theorem Sh1.ex_inv {s : Sh1} {K : Value → Prop} (h : s.ex K) : ∃ v, K v := by
  cases s with
  | one k => exact Kd.exV_inv h
  | agg ks => obtain ⟨vs, h⟩ := exL_inv h; exact ⟨_, h⟩
theorem exS_inv : ∀ {ss : List Sh1} {K : List Value → Prop}, exS ss K → ∃ vs, K vs
  | [], _, h => ⟨_, h⟩
  | _ :: _, _, h => let ⟨_, h'⟩ := Sh1.ex_inv h; let ⟨_, h''⟩ := exS_inv h'; ⟨_, h''⟩
theorem Sh.ex_inv {s : Sh} {K : Value → Prop} (h : s.ex K) : ∃ v, K v := by
  cases s with
  | v s => exact Sh1.ex_inv h
  | t ss => obtain ⟨vs, h⟩ := exS_inv h; exact ⟨_, h⟩

/-- Where a pointer leads to. -/
def ptAt (p : Option Addr) (K : Nat → Nat → Prop) : Prop := match p with | some ⟨b, o, none⟩ => K b o | _ => False
theorem ptAt_inv {p : Option Addr} {K : Nat → Nat → Prop} (h : ptAt p K) : ∃ b o, p = some ⟨b, o, none⟩ ∧ K b o := by
  unfold ptAt at h
  split at h
  · exact ⟨_, _, rfl, h⟩
  · exact h.elim
theorem ptAt_of {p : Option Addr} {K : Nat → Nat → Prop} {b o : Nat} (e : p = some ⟨b, o, none⟩) (h : K b o) : ptAt p K := by subst e; exact h
/-- A cell of a block. -/
def cel (w : World) (b o : Nat) : Option Value := w.cell? ⟨b, o, none⟩
def Row (w : World) (b o : Nat) (vs : List Value) : Prop := w.rangeAt b o vs
def LdP (sh : Sh1) (b o : Nat) (w : World) (K : Value → Prop) : Prop :=
  match sh with
  | .one k => k.exV fun v => cel w b o = some v ∧ K v
  | .agg ks => exL ks fun vs => Row w b o vs ∧ K (.agg ⟨vs⟩)
def StP (b o : Nat) (vs : List Value) (w : World) (K : World → Prop) : Prop :=
  w.there b o vs.length ∧ (vs.all (·.oneCell')) = true ∧ K (w.setCells b o vs)
/-- New cells. -/
def AlP (e : TypeId) (vs : List Value) (w : World) (K : Nat → World → Prop) : Prop :=
  K w.heap.size (w.alloc (.cells ⟨vs⟩ e))
def AlM (w : World) (K : Nat → World → Prop) : Prop := K w.heap.size (w.alloc (.map #[] 0))
def RunQ (P : Program) (s : Sem Value) (sh : Sh) (w : World) (K : Value → Prop) : Prop := sh.ex fun v => s.run P w = .ok v w ∧ K v
def RunP (P : Program) (s : Sem Value) (sh : Sh) (w : World) (K : Value → World → Prop) : Prop := sh.ex fun v => ∃ w', s.run P w = .ok v w' ∧ K v w'
/-- A step of a range: it is over, or something has come. -/
def NextP (P : Program) (s : Sem Value) (str : Bool) (w : World) (K : Value → World → Prop) : Prop :=
  (∃ w', s.run P w = .ok (.tuple ⟨[.bool false]⟩) w' ∧ K (.tuple ⟨[.bool false]⟩) w') ∨
  match str with
  | true => ∃ (p c : Int) (w' : World), s.run P w = .ok (.tuple ⟨[.bool true, .int .i64 p, .int .i32 c]⟩) w' ∧ K (.tuple ⟨[.bool true, .int .i64 p, .int .i32 c]⟩) w'
  | false => ∃ (k v : Value) (w' : World), s.run P w = .ok (.tuple ⟨[.bool true, k, v]⟩) w' ∧ K (.tuple ⟨[.bool true, k, v]⟩) w'
theorem NextP.inv {P : Program} {s : Sem Value} {str : Bool} {w : World} {K : Value → World → Prop} (h : NextP P s str w K) : ∃ v w', s.run P w = .ok v w' ∧ K v w' := by
  rcases h with ⟨w', h1, h2⟩ | h
  · exact ⟨_, w', h1, h2⟩
  · cases str with
    | true => obtain ⟨p, c, w', h1, h2⟩ := h; exact ⟨_, w', h1, h2⟩
    | false => obtain ⟨p, c, w', h1, h2⟩ := h; exact ⟨_, w', h1, h2⟩
def RunU (P : Program) (s : Sem Unit) (w : World) (K : World → Prop) : Prop := ∃ w', s.run P w = .ok () w' ∧ K w'
def Ret (K : Value → World → Prop) (e : Ending) (w : World) : Prop := ∃ v, e = .returned v ∧ K v w
def CallP (P : Program) (f : FuncId) (vs : List Value) (w : World) (K : Value → World → Prop) : Prop := Calls P f ⟨vs⟩ w (Ret K)
def callable (P : Program) (f : FuncId) : Bool :=
  match P.funcs[f]? with
  | some fn => !(fn.name == "runtime.NumGoroutine") && fn.body.isSome
  | none => false
def CallV (P : Program) (v : Value) (vs : List Value) (w : World) (K : Value → World → Prop) : Prop :=
  match v with
  | .func (.func f) first cap => callable P f = true ∧ CallP P f (first.toList ++ vs ++ cap.toList) w K
  | _ => False
def sp (b : Bool) (A B : Prop) : Prop := match b with | true => A | false => B
theorem sp_true {b : Bool} {A B : Prop} (h : b = true) (a : A) : sp b A B := by subst h; exact a
theorem sp_false {b : Bool} {A B : Prop} (h : b = false) (x : B) : sp b A B := by subst h; exact x
theorem sp_of {b : Bool} {A B : Prop} (h : b = true → A) (k : b = false → B) : sp b A B := by cases b; exact k rfl; exact h rfl
theorem sp_dec {p : Prop} [Decidable p] {A B : Prop} (h : p → A) (k : ¬p → B) : sp (decide p) A B :=
  sp_of (fun e => h (by simpa using e)) (fun e => k (by simpa using e))

/-! ### operations -/
def ev (ρ : Env) (x : Operand) (K : Value → Prop) : Prop :=
  match x with
  | .const v => K v
  | .tmp t => match ρ t with | some v => K v | none => False
  | .func f => K (.func (.func f) #[] #[])
  | .global g => K (.pointer (some ⟨g, 0, none⟩))
def evs (ρ : Env) : List Operand → (List Value → Prop) → Prop
  | [], K => K []
  | x :: xs, K => ev ρ x fun v => evs ρ xs fun vs => K (v :: vs)
def evo (ρ : Env) : Option Operand → (Option Value → Prop) → Prop
  | none, K => K none
  | some x, K => ev ρ x fun v => K (some v)
def evp (ρ : Env) : List (Nat × Operand) → (List (Nat × Value) → Prop) → Prop
  | [], K => K []
  | (i, x) :: xs, K => ev ρ x fun v => evp ρ xs fun vs => K ((i, v) :: vs)

def isAggT (P : Program) (t : TypeId) : Option Bool :=
  match P.underlying t with
  | some (.struct _) | some (.array _ _) => some true
  | some _ => some false
  | none => none
def fieldOff (P : Program) (s f : Nat) : Option Nat :=
  match P.underlying s with
  | some (.struct fs) => match fs[f]? with
    | some fd => match P.info? fd.type with
      | some i => match i.size with | 0 => none | _ + 1 => some fd.offset
      | none => none
    | none => none
  | _ => none
def elemOfSl (P : Program) (t : TypeId) : Option (TypeId × Nat) :=
  match P.underlying t with
  | some (.slice e) => match P.info? e with | some i => some (e, i.size) | none => none
  | _ => none
def arrOf (P : Program) (t : TypeId) : Option (Nat × Nat) :=
  match P.underlying t with
  | some (.array len e) => match P.info? e with | some i => some (len, i.size) | none => none
  | _ => none
def zeroOf (P : Program) (t : TypeId) : Option Value := match P.info? t with | some i => i.zero | none => none
def ldOk (P : Program) (t : TypeId) : Sh1 → Bool
  | .one _ => match isAggT P t with | some false => true | _ => false
  | .agg ks => match isAggT P t, P.info? t with | some true, some i => Nat.beq i.size ks.length | _, _ => false
def fieldV (P : Program) (t : TypeId) (cs : Array Value) (f : Nat) : Option Value :=
  match P.underlying t with
  | some (.struct fs) => match fs[f]? with
    | some fd => match isAggT P fd.type with
      | some true => match P.info? fd.type with | some i => some (.agg (cs.extract fd.offset (fd.offset + i.size))) | none => none
      | some false => cs[fd.offset]?
      | none => none
    | none => none
  | _ => none
/-- The places and sizes of a struct's fields. -/
def plc (P : Program) : List Field → Option (List (Nat × Nat))
  | [] => some []
  | f :: fs => match P.info? f.type with
    | some j => match plc P fs with
      | some r => some ((f.offset, j.size) :: r)
      | none => none
    | none => none
def bitsI (op : BinOp) (k : IntKind) (x y : Int) : Int :=
  match op with
  | .and => k.wrap ((BitVec.ofInt k.bits x &&& BitVec.ofInt k.bits y).toNat)
  | .or => k.wrap ((BitVec.ofInt k.bits x ||| BitVec.ofInt k.bits y).toNat)
  | .xor => k.wrap ((BitVec.ofInt k.bits x ^^^ BitVec.ofInt k.bits y).toNat)
  | _ => k.wrap ((BitVec.ofInt k.bits x &&& ~~~ BitVec.ofInt k.bits y).toNat)
def binP (P : Program) (op : BinOp) (t : TypeId) (vx vy : Value) (x y : Operand) (sh : Sh) (w : World) (K : Value → Prop) : Prop :=
  match vx, vy with
  | .int k a, .int k' b =>
    match op with
    | .shl => 0 ≤ b ∧ K (.int k (k.wrap (a * 2 ^ (min b.toNat k.bits))))
    | .shr => 0 ≤ b ∧ K (.int k (a.fdiv (2 ^ (min b.toNat k.bits))))
    | op => match ikEq k k' with
      | false => False
      | true => match op with
        | .add => K (.int k (k.wrap (a + b)))
        | .sub => K (.int k (k.wrap (a - b)))
        | .mul => K (.int k (k.wrap (a * b)))
        | .quo => b ≠ 0 ∧ K (.int k (k.wrap (a.tdiv b)))
        | .rem => b ≠ 0 ∧ K (.int k (a.tmod b))
        | .and => K (.int k (bitsI .and k a b))
        | .or => K (.int k (bitsI .or k a b))
        | .xor => K (.int k (bitsI .xor k a b))
        | .andNot => K (.int k (bitsI .andNot k a b))
        | .eql => K (.bool (decide (a = b)))
        | .neq => K (.bool (!decide (a = b)))
        | .lss => K (.bool (decide (a < b)))
        | .leq => K (.bool (decide (a ≤ b)))
        | .gtr => K (.bool (decide (b < a)))
        | .geq => K (.bool (decide (b ≤ a)))
        | _ => False
  | .string a, .string b =>
    match op with
    | .eql => K (.bool (decide (a = b)))
    | .neq => K (.bool (!decide (a = b)))
    | _ => RunQ P (do eqGuard op t x y (.string a) (.string b); binOp op t (.string a) (.string b)) sh w K
  | .bool a, .bool b =>
    match op with
    | .eql => match P.underlying t with | some .bool => K (.bool (a == b)) | _ => False
    | .neq => match P.underlying t with | some .bool => K (.bool (!(a == b))) | _ => False
    | _ => False
  | a, b => RunQ P (do eqGuard op t x y a b; binOp op t a b) sh w K
def mxI (x y : Int) : Int := if y > x then y else x
def mnI (x y : Int) : Int := if y < x then y else x
def foldI (f : Int → Int → Int) : Int → List Value → (Int → Prop) → Prop
  | x, [], K => K x
  | x, .int _ y :: r, K => foldI f (f x y) r K
  | _, _, _ => False
def callP (P : Program) (ρ : Env) (c : Call) (type : TypeId) (sh : Sh) (w : World) (K : Value → World → Prop) : Prop :=
  evs ρ c.args.toList fun vs =>
  match c.callee with
  | .value (.func f) => match callable P f with
    | true => CallP P f vs w fun v w' => sh.ex fun u => v = u ∧ K u w'
    | false => False
  | .value x => ev ρ x fun v => CallV P v vs w fun v w' => sh.ex fun u => v = u ∧ K u w'
  | .builtin .len => match vs with
    | [.slice _ n _] => match (c.argTypes[0]?).bind P.underlying with | some (.slice _) => K (.int .i64 n) w | _ => False
    | [.string s] => match (c.argTypes[0]?).bind P.underlying with | some .string => K (.int .i64 s.size) w | _ => False
    | vs => RunQ P (Builtin.len_ c.argTypes type ⟨vs⟩) sh w fun v => K v w
  | .builtin .max => match vs with
    | .int k x :: r => foldI mxI x r fun z => K (.int k z) w
    | _ => False
  | .builtin .min => match vs with
    | .int k x :: r => foldI mnI x r fun z => K (.int k z) w
    | _ => False
  | .builtin .append => RunP P (Builtin.append_ c.argTypes type ⟨vs⟩) sh w K
  | .builtin .delete => RunP P (Builtin.delete_ c.argTypes type ⟨vs⟩) sh w K
  | .builtin .copy => RunP P (Builtin.copy_ c.argTypes type ⟨vs⟩) sh w K
  | .builtin .cap => RunQ P (Builtin.cap_ c.argTypes type ⟨vs⟩) sh w fun v => K v w
  | _ => False
def opP (P : Program) (ρ : Env) (o : Oper) (sh : Sh) (w : World) (K : Value → World → Prop) : Prop :=
  match o.op with
  | .move x | .assign x => ev ρ x fun v => K v w
  | .pick c a b => ev ρ c fun v => match v with
    | .bool b' => match b' with
      | true => ev ρ a fun v => K v w
      | false => ev ρ b fun v => K v w
    | _ => False
  | .alloc e => match zeroOf P e with
    | some v => AlP e v.cells.toList w fun b w' => K (.pointer (some ⟨b, 0, none⟩)) w'
    | none => False
  | .box e x => ev ρ x fun v => AlP e v.cells.toList w fun b w' => K (.pointer (some ⟨b, 0, none⟩)) w'
  | .build t parts => evp ρ parts.toList fun ps => match zeroOf P t with
    | some z => match P.underlying t with
      | some (.struct fs) => match plc P fs.toList with
        | some pl => match Instr.fill (fun i => pl[i]?) z.cells ps with
          | some cs => K (.agg cs) w
          | none => False
        | none => False
      | some (.array _ e) => match P.info? e with
        | some j => match Instr.fill (fun i => some (i * j.size, j.size)) z.cells ps with
          | some cs => K (.agg cs) w
          | none => False
        | none => False
      | _ => False
    | none => False
  | .buildSlice t len parts => evp ρ parts.toList fun ps => match elemOfSl P t with
    | some (e, size) => match Nat.ble (len * size) 10000 with
      | true => match zeroOf P e with
        | some z => match Instr.fill (fun i => some (i * size, size)) ((Array.range (len * size)).map (z.cells[· % z.cells.size]!)) ps with
          | some cs => AlP e cs.toList w fun b w' => K (.slice (some ⟨b, 0, none⟩) len len) w'
          | none => False
        | none => False
      | false => False
    | none => False
  | .load t x => ev ρ x fun v => match v with
    | .pointer p => match sh with
      | .v s => match ldOk P t s with | true => ptAt p fun b o => LdP s b o w fun v => K v w | false => False
      | _ => False
    | _ => False
  | .store t x y => ev ρ x fun v => ev ρ y fun u => match v with
    | .pointer p => match isAggT P t with
      | some true => match u with
        | .agg cs => match P.info? t with
          | some i => match Nat.beq cs.size i.size with | true => ptAt p fun b o => StP b o cs.toList w fun w' => K undef w' | false => False
          | none => False
        | _ => False
      | some false => match P.info? t with
        | some i => match Nat.beq 1 i.size with | true => ptAt p fun b o => StP b o [u] w fun w' => K undef w' | false => False
        | none => False
      | none => False
    | _ => False
  | .nilCheck x => ev ρ x fun v => match v with
    | .pointer p => ptAt p fun b o => K (.pointer (some ⟨b, o, none⟩)) w
    | .slice a n c => K (.slice a n c) w
    | .map m => K (.map m) w
    | .func (.func f) x y => K (.func (.func f) x y) w
    | _ => False
  | .binOp op t x y _ => ev ρ x fun a => ev ρ y fun b => binP P op t a b x y sh w fun v => K v w
  | .unOp op _ x => ev ρ x fun v => match op, v with
    | .not, .bool b => K (.bool (!b)) w
    | .neg, .int k n => K (.int k (k.wrap (0 - n))) w
    | op, v => RunQ P (Op.unary op v) sh w fun v => K v w
  | .convert s d x => ev ρ x fun v => match P.underlying s, P.underlying d, v with
    | some (.int _), some (.int k), .int _ n => K (.int k (k.wrap n)) w
    | _, _, v => RunP P (convert s d v) sh w K
  | .makeFunc fn first cap => evs ρ first.toList fun xs => evs ρ cap.toList fun ys => K (.func fn ⟨xs⟩ ⟨ys⟩) w
  | .makeMap _ none => AlM w fun b w' => K (.map (some b)) w'
  | .makeSlice t l c => ev ρ l fun l => ev ρ c fun c => RunP P (Instr.makeSlice t l c) sh w K
  | .slice t x lo hi mx => ev ρ x fun v => evo ρ lo fun lo => evo ρ hi fun hi => evo ρ mx fun mx => RunQ P (Instr.sliceAt t v lo hi mx) sh w fun v => K v w
  | .fieldAddr s x f => ev ρ x fun v => match v with
    | .pointer p => match fieldOff P s f with
      | some off => ptAt p fun b o => K (.pointer (some ⟨b, o + off, none⟩)) w
      | none => False
    | _ => False
  | .field t x f => ev ρ x fun v => match v with
    | .agg cs => match fieldV P t cs f with | some u => K u w | none => False
    | _ => False
  | .indexAddr t x i => ev ρ x fun v => ev ρ i fun i => match i with
    | .int k n => match v with
      | .slice a len _ => match elemOfSl P t with
        | some (_, size) => 0 ≤ n ∧ n < len ∧ ptAt a fun b o => K (.pointer (some ⟨b, o + n.toNat * size, none⟩)) w
        | none => False
      | .pointer p => match arrOf P t with
        | some (len, size) => 0 ≤ n ∧ n < len ∧ ptAt p fun b o => K (.pointer (some ⟨b, o + n.toNat * size, none⟩)) w
        | none => False
      | _ => False
    | _ => False
  | .index t x i => ev ρ x fun v => ev ρ i fun i => RunQ P (Instr.index t v i) sh w fun v => K v w
  | .lookup t x i ok => ev ρ x fun v => ev ρ i fun i => RunQ P (Instr.lookup t v i ok) sh w fun v => K v w
  | .mapUpdate t m k x | .insert t m k x => ev ρ m fun m => ev ρ k fun k => ev ρ x fun x => RunU P (Instr.mapUpdate t m k x) w fun w' => K undef w'
  | .range t x => ev ρ x fun v => RunP P (Instr.range t v) sh w K
  | .next it s => ev ρ it fun v => NextP P (Instr.next v s o.type) s w K
  | .entry it => ev ρ it fun v => RunQ P (Instr.entry v) sh w fun v => K v w
  | .extract t i => ev ρ t fun v => match v with
    | .tuple vs => match vs[i]? with | some u => K u w | none => False
    | _ => False
  | .makeInterface t x => ev ρ x fun v => RunP P (Instr.makeInterface t v) sh w K
  | .call c => callP P ρ c o.type sh w K
  | _ => False
/-- The 'slice' of a variable slice: where its address may be nil. -/
theorem ev_inv {n : Nat} {ρ : Env} {x : Operand} {K : Value → Prop} {a : Act} (hA : ∀ t v, ρ t = some v → t < n ∧ a.tmps.getD t undef = v) (h : ev ρ x K) : K (a.eval x) := by
  cases x with
  | const v => exact h
  | global g => exact h
  | func f => exact h
  | tmp t =>
    simp only [ev] at h
    split at h
    · rename_i v hv
      simp only [Act.eval]
      rw [(hA t v hv).2]
      exact h
    · exact h.elim

theorem evs_inv {n : Nat} {ρ : Env} {a : Act} (hA : ∀ t v, ρ t = some v → t < n ∧ a.tmps.getD t undef = v) : ∀ {xs : List Operand} {K : List Value → Prop}, evs ρ xs K → K (xs.map a.eval)
  | [], _, h => h
  | x :: xs, K, h => by
    have h1 := ev_inv hA h
    exact evs_inv (xs := xs) (K := fun vs => K (a.eval x :: vs)) hA h1
theorem evo_inv {n : Nat} {ρ : Env} {a : Act} (hA : ∀ t v, ρ t = some v → t < n ∧ a.tmps.getD t undef = v) : ∀ {x : Option Operand} {K : Option Value → Prop}, evo ρ x K → K (x.map a.eval)
  | none, _, h => h
  | some _, _, h => ev_inv hA h
theorem evp_inv {n : Nat} {ρ : Env} {a : Act} (hA : ∀ t v, ρ t = some v → t < n ∧ a.tmps.getD t undef = v) : ∀ {xs : List (Nat × Operand)} {K : List (Nat × Value) → Prop}, evp ρ xs K → K (xs.map fun (i, x) => (i, a.eval x))
  | [], _, h => h
  | (i, x) :: xs, K, h => by
    have h1 := ev_inv hA h
    exact evp_inv (xs := xs) (K := fun vs => K ((i, a.eval x) :: vs)) hA h1
theorem map_arr {α β : Type} (f : α → β) (xs : Array α) : xs.map f = ⟨xs.toList.map f⟩ := by cases xs; simp
theorem run_und {P : Program} {t : TypeId} {d : TypeDesc} (w : World) (h : P.underlying t = some d) : (underlying t).run P w = .ok d w := run_underlying h w

section
variable {P : Program} {n : Nat} {ρ : Env} {a : Act} {w : World}
/-- The value that the operation yields, the world behind it. -/
def Yl (P : Program) (o : Oper) (a : Act) (w : World) (K : Value → World → Prop) : Prop :=
  ∃ r w', (execOp a.eval o).run P w = .ok r w' ∧ ((∃ v, r = .value v ∧ K v w') ∨ (r = .skip ∧ K undef w'))
theorem Yl.wp {o : Oper} {K : Value → World → Prop} {Q : Exit → Act → World → Prop} (h : Yl P o a w K) : o.wp P a w (fun a' w' => ∃ v, a' = a.put o.dst v ∧ K v w') Q := by
  obtain ⟨r, w', hr, ⟨v, rfl, h⟩ | ⟨rfl, h⟩⟩ := h
  · unfold Oper.wp; rw [hr]; exact ⟨v, rfl, h⟩
  · unfold Oper.wp; rw [hr]; exact ⟨undef, rfl, h⟩
theorem ldOk_one {t : TypeId} {k : Kd} (h : ldOk P t (.one k) = true) (w : World) : (isAgg t).run P w = .ok false w := by
  unfold ldOk isAggT at h
  unfold isAgg
  rw [Sem.run_bind]
  cases hu : P.underlying t with
  | none => simp [hu] at h
  | some d =>
    rw [run_und w hu]
    simp only [Result.andThen_ok]
    simp only [hu] at h
    cases d <;> first | rfl | (simp at h)
theorem isAggT_run {t : TypeId} {b : Bool} (h : isAggT P t = some b) (w : World) : (isAgg t).run P w = .ok b w := by
  unfold isAggT at h
  unfold isAgg
  rw [Sem.run_bind]
  cases hu : P.underlying t with
  | none => simp [hu] at h
  | some d =>
    rw [run_und w hu]
    simp only [Result.andThen_ok]
    simp only [hu] at h
    cases d <;> (simp at h; subst h; rfl)
theorem info_of_size {t : TypeId} {i : TypeInfo} (h : P.info? t = some i) (w : World) : (sizeOf t).run P w = .ok i.size w := by
  simp [sizeOf, typeInfo, h]
theorem ldP_run {t : TypeId} {s : Sh1} {b o : Nat} {K : Value → Prop} (ho : ldOk P t s = true) (h : LdP s b o w K) :
    ∃ v, (Instr.loadAt t (.pointer (some ⟨b, o, none⟩))).run P w = .ok v w ∧ K v := by
  cases s with
  | one k =>
    obtain ⟨x, hx, hK⟩ := Kd.exV_inv h
    refine ⟨_, ?_, hK⟩
    unfold cel at hx
    simp [Instr.loadAt, Instr.sureAddr, loadVar, ldOk_one ho w, run_load, hx]
  | agg ks =>
    obtain ⟨vs, hl, hr, hK⟩ := exL_len h
    refine ⟨_, ?_, hK⟩
    simp only [ldOk] at ho
    have hag : isAggT P t = some true := by
      split at ho
      · assumption
      · cases ho
    cases hi : P.info? t with
    | none => simp [hag, hi] at ho
    | some i =>
      simp only [hag, hi] at ho
      have hs : i.size = ks.length := Nat.eq_of_beq_eq_true ho
      have hl2 : (loadCells ⟨b, o, none⟩ vs.length).run P w = .ok vs.toArray w :=
        run_loadCells_list (P := P) w ⟨b, o, none⟩ vs (fun j v hv => by rw [Addr.add_mid]; exact hr j v hv)
      simp [Instr.loadAt, Instr.sureAddr, loadVar, isAggT_run hag w, info_of_size hi w, hs, ← hl, hl2]
theorem runQ_yl {s : Sem Value} {sh : Sh} {K : Value → Prop} (h : RunQ P s sh w K) : ∃ v, s.run P w = .ok v w ∧ K v := Sh.ex_inv h
theorem runP_yl {s : Sem Value} {sh : Sh} {K : Value → World → Prop} (h : RunP P s sh w K) : ∃ v w', s.run P w = .ok v w' ∧ K v w' := Sh.ex_inv h
end
end Go.Pl

/- 'opP' is sound, operation by operation. -/
namespace Go.Pl
set_option linter.unusedVariables false
section
variable {P : Program} {n : Nat} {ρ : Env} {a : Act} {w : World} {o : Oper} {sh : Sh} {K : Value → World → Prop}

theorem yl_val {s : Sem Value} (he : (execOp a.eval o) = (do pure (Next.value (← s)))) {v : Value} {w' : World} (hr : s.run P w = .ok v w') (hK : K v w') : Yl P o a w K := by
  refine ⟨.value v, w', ?_, .inl ⟨v, rfl, hK⟩⟩
  rw [he]
  simp [hr]
theorem yl_unit {s : Sem Unit} (he : (execOp a.eval o) = (do s; pure Next.skip)) {w' : World} (hr : s.run P w = .ok () w') (hK : K undef w') : Yl P o a w K := by
  refine ⟨.skip, w', ?_, .inr ⟨rfl, hK⟩⟩
  rw [he]
  simp [hr]
theorem str_eq (a b : ByteArray) : (a.toList == b.toList) = decide (a = b) := by
  rw [Lib.toList_data, Lib.toList_data]
  by_cases h : a = b
  · subst h; simp
  · rw [decide_eq_false h, beq_eq_false_iff_ne]
    intro e
    exact h (by cases a; cases b; simp at e; simp [e])
theorem bool_eq {P : Program} {t : TypeId} (a b : Bool) {w : World} (hu : P.underlying t = some .bool) : (Op.equalIn Op.maxDepth t (.bool a) (.bool b)).run P w = .ok (a == b) w := by
  have e : Op.maxDepth = Nat.succ 9999 := rfl
  rw [e, Op.equalIn]
  simp only [Sem.run_bind, run_und w hu, Result.andThen_ok, Sem.run_pure]
theorem bin_run {op : BinOp} {t : TypeId} {vx vy : Value} {x y : Operand} {K : Value → Prop} (h : binP P op t vx vy x y sh w K) :
    ∃ v, (do eqGuard op t x y vx vy; binOp op t vx vy : Sem Value).run P w = .ok v w ∧ K v := by
  unfold binP at h
  split at h
  · rename_i k a k' b
    have hg : (eqGuard op t x y (.int k a) (.int k' b)).run P w = .ok () w := by
      unfold eqGuard; cases op <;> simp
    split at h
    · refine ⟨_, ?_, h.2⟩
      simp [hg, binOp, Op.shift, Int.not_lt.2 h.1]
    · refine ⟨_, ?_, h.2⟩
      simp [hg, binOp, Op.shift, Int.not_lt.2 h.1]
    · rename_i h1 h2
      split at h
      · exact h.elim
      · rename_i hk
        have hkk := ikEq_eq hk
        subst hkk
        split at h <;> first
          | exact h.elim
          | (refine ⟨_, ?_, h.2⟩; simp [hg, binOp, Op.intDiv, h.1])
          | (refine ⟨_, ?_, h⟩; simp [hg, binOp, Op.intArith]; done)
          | (refine ⟨_, ?_, h⟩; simp [hg, binOp, Op.intBits, bitsI]; done)
          | (refine ⟨_, ?_, h⟩; simp [hg, binOp, Op.intCmp]; done)
          | (refine ⟨_, ?_, h⟩; simp [hg, binOp, Op.intCmp]; rfl)
  · rename_i a b
    split at h
    · refine ⟨_, ?_, h⟩
      simp [eqGuard, binOp, Op.stringOp, str_eq]
    · refine ⟨_, ?_, h⟩
      simp [eqGuard, binOp, Op.stringOp, str_eq]
    · exact runQ_yl h
  · rename_i a b
    split at h
    · split at h
      · rename_i hu
        refine ⟨_, ?_, h⟩
        simp [eqGuard, binOp, Op.equal, bool_eq a b hu]
      · exact h.elim
    · split at h
      · rename_i hu
        refine ⟨_, ?_, h⟩
        simp [eqGuard, binOp, Op.equal, bool_eq a b hu]
      · exact h.elim
    · exact h.elim
  · exact runQ_yl h
theorem callFunc_run {f : FuncId} (args : Array Value) (h : callable P f = true) (w : World) : (callFunc f args).run P w = .ok (.enter f args) w := by
  unfold callable at h
  split at h
  · rename_i fn hf
    simp only [Bool.and_eq_true, Bool.not_eq_true'] at h
    have hb : ¬ fn.body = none := Option.isSome_iff_ne_none.1 h.2
    have hn : ¬ fn.name = "runtime.NumGoroutine" := by simpa using h.1
    simp [callFunc, program, Sem.run, hf, hn, hb]
  · cases h
theorem call_wp {f : FuncId} {vs : List Value} {Q : Exit → Act → World → Prop} (hr : (execOp a.eval o).run P w = .ok (.enter f ⟨vs⟩) w) (h : CallP P f vs w fun v w' => sh.ex fun u => v = u ∧ K u w') :
    o.wp P a w (fun a' w' => ∃ v, a' = a.put o.dst v ∧ K v w') Q := by
  unfold Oper.wp
  rw [hr]
  refine Calls.mono h ?_
  rintro e w' ⟨v, rfl, hv⟩
  obtain ⟨u, rfl, hu⟩ := Sh.ex_inv hv
  exact ⟨_, rfl, hu⟩
theorem foldI_max {P : Program} {k : IntKind} : ∀ {r : List Value} {x : Int} {K : Int → Prop}, foldI mxI x r K → ∃ z, (∀ w, (r.foldlM Builtin.max2 (.int k x)).run P w = .ok (.int k z) w) ∧ K z
  | [], x, K, h => ⟨x, fun _ => rfl, h⟩
  | v :: r, x, K, h => by
    cases v with
    | int k' y =>
      obtain ⟨z, h1, h2⟩ := foldI_max (k := k) (r := r) (x := mxI x y) h
      refine ⟨z, fun w => ?_, h2⟩
      rw [List.foldlM_cons, Sem.run_bind]
      exact h1 w
    | _ => exact h.elim
theorem foldI_min {P : Program} {k : IntKind} : ∀ {r : List Value} {x : Int} {K : Int → Prop}, foldI mnI x r K → ∃ z, (∀ w, (r.foldlM Builtin.min2 (.int k x)).run P w = .ok (.int k z) w) ∧ K z
  | [], x, K, h => ⟨x, fun _ => rfl, h⟩
  | v :: r, x, K, h => by
    cases v with
    | int k' y =>
      obtain ⟨z, h1, h2⟩ := foldI_min (k := k) (r := r) (x := mnI x y) h
      refine ⟨z, fun w => ?_, h2⟩
      rw [List.foldlM_cons, Sem.run_bind]
      exact h1 w
    | _ => exact h.elim
theorem callP_wp {c : Call} {Q : Exit → Act → World → Prop} (hA : ∀ t v, ρ t = some v → t < n ∧ a.tmps.getD t undef = v) (ho : o.op = .call c) (h : callP P ρ c o.type sh w K) :
    o.wp P a w (fun a' w' => ∃ v, a' = a.put o.dst v ∧ K v w') Q := by
  unfold callP at h
  have h1 := evs_inv hA h
  clear h
  have hm : c.args.map a.eval = ⟨c.args.toList.map a.eval⟩ := map_arr _ _
  generalize hvs : c.args.toList.map a.eval = vs at h1 hm
  have hx : ∀ b, c.callee = .builtin b → ∃ cs, execOp a.eval o = builtin b c.argTypes o.type cs ⟨vs⟩ := by
    intro b hc
    simp only [execOp, ho, resolve, hc, hm]
    exact ⟨_, rfl⟩
  split at h1
  · rename_i f hc
    split at h1
    · rename_i hcal
      refine call_wp ?_ h1
      simp [execOp, ho, resolve, hc, Deferred.ofValue, invoke, hm, Act.eval, callFunc_run _ hcal]
    · exact h1.elim
  · rename_i x _ hc
    have h2 := ev_inv hA h1
    unfold CallV at h2
    split at h2
    · rename_i f first cap hv
      obtain ⟨hcal, h2⟩ := h2
      refine call_wp ?_ h2
      simp [execOp, ho, resolve, hc, Deferred.ofValue, invoke, hm, hv, callFunc_run _ hcal]
    · exact h2.elim
  · rename_i hc
    obtain ⟨cs, he⟩ := hx _ hc
    split at h1
    · rename_i s nn cc
      split at h1
      · rename_i e hu
        refine Yl.wp (yl_val he (v := .int .i64 nn) (w' := w) ?_ h1)
        obtain ⟨t, ht, hu⟩ := Option.bind_eq_some_iff.1 hu
        simp [Builtin.len_, ht, run_und w hu, goInt]
      · exact h1.elim
    · rename_i s
      split at h1
      · rename_i hu
        refine Yl.wp (yl_val he (v := .int .i64 s.size) (w' := w) ?_ h1)
        obtain ⟨t, ht, hu⟩ := Option.bind_eq_some_iff.1 hu
        simp [Builtin.len_, ht, run_und w hu, goInt]
      · exact h1.elim
    · obtain ⟨v, hr, hK⟩ := runQ_yl h1
      exact Yl.wp (yl_val he hr hK)
  · rename_i hc
    obtain ⟨cs, he⟩ := hx _ hc
    split at h1
    · rename_i k x r
      obtain ⟨z, hz, hK⟩ := foldI_max h1
      exact Yl.wp (yl_val he (w' := w) (by simpa [Builtin.max_] using hz w) hK)
    · exact h1.elim
  · rename_i hc
    obtain ⟨cs, he⟩ := hx _ hc
    split at h1
    · rename_i k x r
      obtain ⟨z, hz, hK⟩ := foldI_min h1
      exact Yl.wp (yl_val he (w' := w) (by simpa [Builtin.min_] using hz w) hK)
    · exact h1.elim
  · rename_i hc
    obtain ⟨v, w', hr, hK⟩ := runP_yl h1
    obtain ⟨cs, he⟩ := hx _ hc
    exact Yl.wp (yl_val he hr hK)
  · rename_i hc
    obtain ⟨v, w', hr, hK⟩ := runP_yl h1
    obtain ⟨cs, he⟩ := hx _ hc
    exact Yl.wp (yl_val he hr hK)
  · rename_i hc
    obtain ⟨v, w', hr, hK⟩ := runP_yl h1
    obtain ⟨cs, he⟩ := hx _ hc
    exact Yl.wp (yl_val he hr hK)
  · rename_i hc
    obtain ⟨v, hr, hK⟩ := runQ_yl h1
    obtain ⟨cs, he⟩ := hx _ hc
    exact Yl.wp (yl_val he hr hK)
  · exact h1.elim
theorem run_plc : ∀ (fs : List Field) (pl : List (Nat × Nat)), plc P fs = some pl → ∀ w, (fs.mapM fun f => (do pure (f.offset, ← sizeOf f.type) : Sem (Nat × Nat))).run P w = .ok pl w
  | [], pl, h, w => by simp only [plc, Option.some.injEq] at h; subst h; simp
  | f :: fs, pl, h, w => by
    unfold plc at h
    split at h
    · rename_i j hj
      split at h
      · rename_i r hr
        simp only [Option.some.injEq] at h
        subst h
        have ih := run_plc fs r hr w
        simp only [List.mapM_cons, Sem.run_bind, info_of_size hj w, Result.andThen_ok, Sem.run_pure, ih]
      · cases h
    · cases h
theorem run_newRow (e : TypeId) (cs : Array Value) (w : World) : (newRow e cs).run P w = .ok ⟨w.heap.size, 0, none⟩ (w.alloc (.cells cs e)) := rfl
theorem op_wp {Q : Exit → Act → World → Prop} (hA : ∀ t v, ρ t = some v → t < n ∧ a.tmps.getD t undef = v) (h : opP P ρ o sh w K) :
    o.wp P a w (fun a' w' => ∃ v, a' = a.put o.dst v ∧ K v w') Q := by
  unfold opP at h
  split at h
  case h_1 x ho =>
    replace h := ev_inv hA h
    exact Yl.wp ⟨_, _, by simp only [execOp, ho]; rfl, .inl ⟨_, rfl, h⟩⟩
  case h_2 x ho =>
    replace h := ev_inv hA h
    exact Yl.wp ⟨_, _, by simp only [execOp, ho]; rfl, .inl ⟨_, rfl, h⟩⟩
  case h_3 c x y ho =>
    replace h := ev_inv hA h
    split at h
    · rename_i b hb
      split at h
      · replace h := ev_inv hA h
        exact Yl.wp ⟨.value (a.eval x), w, by simp [execOp, ho, asBool, hb], .inl ⟨_, rfl, h⟩⟩
      · replace h := ev_inv hA h
        exact Yl.wp ⟨.value (a.eval y), w, by simp [execOp, ho, asBool, hb], .inl ⟨_, rfl, h⟩⟩
    · exact h.elim
  case h_4 e ho =>
    split at h
    · rename_i v hz
      refine Yl.wp (yl_val (s := Instr.alloc e true (.tuple #[])) (by simp [execOp, ho]) (v := .pointer (some ⟨w.heap.size, 0, none⟩)) (w' := w.alloc (.cells v.cells e)) ?_ h)
      unfold zeroOf at hz
      split at hz
      · rename_i i hi
        simp [Instr.alloc, zeroValue, typeInfo, hi, hz, newVar, run_newRow]
      · cases hz
    · exact h.elim
  case h_5 e x ho =>
    replace h := ev_inv hA h
    refine Yl.wp (yl_val (s := Instr.box e (a.eval x)) (by simp [execOp, ho]) (v := .pointer (some ⟨w.heap.size, 0, none⟩)) (w' := w.alloc (.cells (a.eval x).cells e)) ?_ h)
    simp [Instr.box, newVar, run_newRow]
  case h_6 t parts ho =>
    replace h := evp_inv hA h
    have hp : (parts.map fun (i, x) => (i, a.eval x)).toList = parts.toList.map fun (i, x) => (i, a.eval x) := by simp
    rw [← hp] at h
    have hex : execOp a.eval o = (do pure (Next.value (← Instr.build t (parts.map fun (i, x) => (i, a.eval x))))) := by simp only [execOp, ho]
    generalize (parts.map fun (i, x) => (i, a.eval x)) = q at h hex
    clear hp
    split at h
    · rename_i z hz
      unfold zeroOf at hz
      split at hz
      · rename_i i hi
        split at h
        · rename_i fs hu
          split at h
          · rename_i pl hpl
            split at h
            · rename_i cs hf
              refine Yl.wp (yl_val hex (v := .agg cs) (w' := w) ?_ h)
              have hm : (fs.mapM fun f => (do pure (f.offset, ← sizeOf f.type) : Sem (Nat × Nat))).run P w = .ok pl.toArray w := by
                rw [Array.mapM_eq_mapM_toList, Sem.run_map, run_plc _ _ hpl w]; rfl
              simp only [Instr.build, zeroValue, typeInfo, program, Sem.run_bind, Sem.run, hi, hz, Result.andThen_ok, Sem.run_pure, run_und w hu, hm, List.getElem?_toArray, hf]
            · exact h.elim
          · exact h.elim
        · rename_i n' e hu
          split at h
          · rename_i j hj
            split at h
            · rename_i cs hf
              refine Yl.wp (yl_val hex (v := .agg cs) (w' := w) ?_ h)
              simp only [Instr.build, zeroValue, typeInfo, program, Sem.run_bind, Sem.run, hi, hz, Result.andThen_ok, Sem.run_pure, run_und w hu, sizeOf, hj, hf]
            · exact h.elim
          · exact h.elim
        · exact h.elim
      · cases hz
    · exact h.elim
  case h_7 t len parts ho =>
    replace h := evp_inv hA h
    have hp : (parts.map fun (i, x) => (i, a.eval x)).toList = parts.toList.map fun (i, x) => (i, a.eval x) := by simp
    rw [← hp] at h
    have hex : execOp a.eval o = (do pure (Next.value (← Instr.buildSlice t len (parts.map fun (i, x) => (i, a.eval x))))) := by simp only [execOp, ho]
    generalize (parts.map fun (i, x) => (i, a.eval x)) = q at h hex
    clear hp
    split at h
    · rename_i e size he
      unfold elemOfSl at he
      split at he
      · rename_i e' hu
        split at he
        · rename_i i hi
          simp only [Option.some.injEq, Prod.mk.injEq] at he
          obtain ⟨rfl, rfl⟩ := he
          split at h
          · rename_i hle
            have hle := Nat.le_of_ble_eq_true hle
            split at h
            · rename_i z hz
              split at h
              · rename_i cs hf
                refine Yl.wp (yl_val hex (v := .slice (some ⟨w.heap.size, 0, none⟩) len len) (w' := w.alloc (.cells cs e')) ?_ h)
                unfold zeroOf at hz
                rw [hi] at hz
                simp only at hz
                have h24 : ¬ (len * i.size > 2 ^ 24) := by omega
                by_cases h0 : len * i.size = 0
                · have hc : (Array.range (len * i.size)).map (fun x => (#[] : Array Value)[x % (#[] : Array Value).size]!) = (Array.range (len * i.size)).map (z.cells[· % z.cells.size]!) := by simp [h0]
                  simp only [Instr.buildSlice, Sem.run_bind, run_und w hu, Result.andThen_ok, info_of_size hi w, if_neg h24, Sem.run_pure, if_pos h0, hc, hf, run_newRow]
                · have hz0 : (zeroValue e').run P w = .ok z w := by simp [zeroValue, typeInfo, hi, hz]
                  simp only [Instr.buildSlice, Sem.run_bind, run_und w hu, Result.andThen_ok, info_of_size hi w, if_neg h24, Sem.run_pure, if_neg h0, hz0, hf, run_newRow]
              · exact h.elim
            · exact h.elim
          · exact h.elim
        · cases he
      · cases he
    · exact h.elim
  case h_8 t x ho =>
    replace h := ev_inv hA h
    split at h
    · rename_i p hx
      split at h
      · rename_i s
        split at h
        · rename_i hok
          obtain ⟨b, o', rfl, h2⟩ := ptAt_inv h
          obtain ⟨v, hr, hK⟩ := ldP_run hok h2
          exact Yl.wp (yl_val (s := Instr.loadAt t (a.eval x)) (by simp [execOp, ho]) (by rw [hx]; exact hr) hK)
        · exact h.elim
      · exact h.elim
    · exact h.elim
  case h_9 t x y ho =>
    replace h := ev_inv hA (ev_inv hA h)
    split at h
    · rename_i p hx
      split at h
      · rename_i hag
        split at h
        · rename_i cs hu
          split at h
          · rename_i i hi
            split at h
            · rename_i hsz
              have hsz := Nat.eq_of_beq_eq_true hsz
              obtain ⟨b, o', rfl, h⟩ := ptAt_inv h
              obtain ⟨h1, h2, h3⟩ := h
              refine Yl.wp (yl_unit (s := Instr.storeAt t (a.eval x) (a.eval y)) (by simp [execOp, ho]) (w' := w.setCells b o' cs.toList) ?_ h3)
              rw [hx, hu]
              exact run_storeAt_mid w b o' t cs (by simpa using h1) (by simp [hi, hsz]) (by rw [← Array.all_toList]; exact h2)
            · exact h.elim
          · exact h.elim
        · exact h.elim
      · rename_i hag
        split at h
        · rename_i i hi
          split at h
          · rename_i hsz
            have hsz := Nat.eq_of_beq_eq_true hsz
            obtain ⟨b, o', rfl, h⟩ := ptAt_inv h
            obtain ⟨h1, h2, h3⟩ := h
            refine Yl.wp (yl_unit (s := Instr.storeAt t (a.eval x) (a.eval y)) (by simp [execOp, ho]) (w' := w.setCells b o' [a.eval y]) ?_ h3)
            have hone : (a.eval y).oneCell' = true := by simpa using h2
            have hcell := h1 0 (by simp)
            obtain ⟨v0, hv0⟩ := Option.isSome_iff_exists.1 hcell.1
            rw [hx]
            have hcs : (a.eval y).cells = #[a.eval y] := by
              generalize a.eval y = u at hone
              cases u <;> first | rfl | (simp [Value.oneCell'] at hone)
            have hfz : w.frozen? ⟨b, o', none⟩ = false := by simpa using hcell.2
            have hc0 : w.cell? ⟨b, o', none⟩ = some v0 := by simpa using hv0
            have hs1 : (sizeOf t).run P w = .ok 1 w := by rw [info_of_size hi w, ← hsz]
            have hst : (store ⟨b, o', none⟩ (a.eval y)).run P w = .ok () (w.setCell ⟨b, o', none⟩ (a.eval y)) := by
              rw [run_store P w _ _ _ hone, hc0]; simp [hfz]
            have had : (⟨b, o', none⟩ : Addr).add 0 = ⟨b, o', none⟩ := rfl
            simp [Instr.storeAt, Instr.sureAddr, storeVar, hs1, hcs, storeCells, had, hst, World.setCells]
          · exact h.elim
        · exact h.elim
      · exact h.elim
    · exact h.elim
  case h_10 x ho =>
    replace h := ev_inv hA h
    split at h
    · rename_i p hx
      obtain ⟨b, o', rfl, h⟩ := ptAt_inv h
      exact Yl.wp ⟨.value (.pointer (some ⟨b, o', none⟩)), w, by simp [execOp, ho, hx], .inl ⟨_, rfl, h⟩⟩
    · rename_i p nn c hx
      exact Yl.wp ⟨.value (.slice p nn c), w, by simp [execOp, ho, hx], .inl ⟨_, rfl, h⟩⟩
    · rename_i m hx
      exact Yl.wp ⟨.value (.map m), w, by simp [execOp, ho, hx], .inl ⟨_, rfl, h⟩⟩
    · rename_i f xs ys hx
      exact Yl.wp ⟨.value (.func (.func f) xs ys), w, by simp [execOp, ho, hx], .inl ⟨_, rfl, h⟩⟩
    · exact h.elim
  case h_11 op t x y yt ho =>
    replace h := ev_inv hA (ev_inv hA h)
    obtain ⟨v, hr, hK⟩ := bin_run h
    exact Yl.wp (yl_val (s := do eqGuard op t x y (a.eval x) (a.eval y); binOp op t (a.eval x) (a.eval y)) (by simp only [execOp, ho]) hr hK)
  case h_12 op t x ho =>
    replace h := ev_inv hA h
    have hex : execOp a.eval o = (do pure (Next.value (← Op.unary op (a.eval x)))) := by simp only [execOp, ho]
    split at h
    · rename_i b hx
      exact Yl.wp (yl_val hex (by rw [hx]; simp [Op.unary]) h)
    · rename_i k m hx
      exact Yl.wp (yl_val hex (by rw [hx]; simp [Op.unary, Op.intArith]) h)
    · obtain ⟨v, hr, hK⟩ := runQ_yl h
      exact Yl.wp (yl_val hex hr hK)
  case h_13 s d x ho =>
    replace h := ev_inv hA h
    have hex : execOp a.eval o = (do pure (Next.value (← convert s d (a.eval x)))) := by simp only [execOp, ho]
    split at h
    · rename_i k1 k k2 m hs hd hx
      refine Yl.wp (yl_val hex (v := .int k (k.wrap m)) (w' := w) ?_ h)
      rw [hx]
      simp [convert, run_und w hs, run_und w hd, Conv.intToInt]
    · obtain ⟨v, w', hr, hK⟩ := runP_yl h
      exact Yl.wp (yl_val hex hr hK)
  case h_14 fn first cap ho =>
    replace h := evs_inv hA (evs_inv hA h)
    refine Yl.wp (yl_val (s := Instr.makeFunc fn (first.map a.eval) (cap.map a.eval)) (by simp only [execOp, ho]) (w' := w) ?_ h)
    simp only [Instr.makeFunc, map_arr, Sem.run_pure]
  case h_15 t ho =>
    refine Yl.wp (yl_val (s := Instr.makeMap t none) (by simp only [execOp, ho]; rfl) (v := .map (some w.heap.size)) (w' := w.alloc (.map #[] 0)) ?_ h)
    rfl
  case h_16 t l c ho =>
    replace h := ev_inv hA (ev_inv hA h)
    obtain ⟨v, w', hr, hK⟩ := runP_yl h
    exact Yl.wp (yl_val (s := Instr.makeSlice t (a.eval l) (a.eval c)) (by simp only [execOp, ho]) hr hK)
  case h_17 t x lo hi mx ho =>
    replace h := evo_inv hA (evo_inv hA (evo_inv hA (ev_inv hA h)))
    obtain ⟨v, hr, hK⟩ := runQ_yl h
    exact Yl.wp (yl_val (s := Instr.sliceAt t (a.eval x) (lo.map a.eval) (hi.map a.eval) (mx.map a.eval)) (by simp only [execOp, ho]) hr hK)
  case h_18 s x f ho =>
    replace h := ev_inv hA h
    split at h
    · rename_i p hx
      split at h
      · rename_i off hoff
        obtain ⟨b, o', rfl, h⟩ := ptAt_inv h
        refine Yl.wp (yl_val (s := Instr.fieldAt s (a.eval x) f) (by simp only [execOp, ho]) (v := .pointer (some ⟨b, o' + off, none⟩)) (w' := w) ?_ h)
        unfold fieldOff at hoff
        split at hoff
        · rename_i fs hu
          split at hoff
          · rename_i fd hfd
            split at hoff
            · rename_i i hi
              split at hoff
              · cases hoff
              · rename_i m hm
                cases hoff
                have hne : ¬ i.size = 0 := by omega
                rw [hx]
                simp only [Instr.fieldAt, Instr.sureAddr, Sem.run_bind, run_und w hu, Result.andThen_ok, hfd, Sem.run_pure, fieldPlace, info_of_size hi w, if_neg hne, Addr.add_mid]
            · cases hoff
          · cases hoff
        · cases hoff
      · exact h.elim
    · exact h.elim
  case h_19 t x f ho =>
    replace h := ev_inv hA h
    split at h
    · rename_i cs hx
      split at h
      · rename_i u hf
        refine Yl.wp (yl_val (s := Instr.field t (a.eval x) f) (by simp only [execOp, ho]) (v := u) (w' := w) ?_ h)
        unfold fieldV at hf
        split at hf
        · rename_i fs hu
          split at hf
          · rename_i fd hfd
            split at hf
            · rename_i hag
              split at hf
              · rename_i i hi
                cases hf
                rw [hx]
                simp only [Instr.field, Sem.run_bind, run_und w hu, Result.andThen_ok, hfd, Sem.run_pure, asAgg, part, isAggT_run hag w, if_true, info_of_size hi w]
              · cases hf
            · rename_i hag
              rw [hx]
              simp only [Instr.field, Sem.run_bind, run_und w hu, Result.andThen_ok, hfd, Sem.run_pure, asAgg, part, isAggT_run hag w, hf]
              rfl
            · cases hf
          · cases hf
        · cases hf
      · exact h.elim
    · exact h.elim
  case h_20 t x i ho =>
    replace h := ev_inv hA (ev_inv hA h)
    have hex : execOp a.eval o = (do pure (Next.value (← Instr.indexAt t (a.eval x) (a.eval i)))) := by simp only [execOp, ho]
    split at h
    · rename_i k m hi
      split at h
      · rename_i p len c hx
        split at h
        · rename_i e size he
          obtain ⟨h1, h2, h⟩ := h
          obtain ⟨b, o', rfl, h3⟩ := ptAt_inv h
          unfold elemOfSl at he
          split at he
          · rename_i e' hu
            split at he
            · rename_i j hj
              simp only [Option.some.injEq, Prod.mk.injEq] at he
              obtain ⟨rfl, rfl⟩ := he
              refine Yl.wp (yl_val hex (v := .pointer (some ⟨b, o' + m.toNat * j.size, none⟩)) (w' := w) ?_ h3)
              rw [hx, hi]
              simp [Instr.indexAt, asIntOf, run_und w hu, h1, h2, info_of_size hj w, Addr.add_mid]
            · cases he
          · cases he
        · exact h.elim
      · rename_i p hx
        split at h
        · rename_i len size he
          obtain ⟨h1, h2, h⟩ := h
          obtain ⟨b, o', rfl, h3⟩ := ptAt_inv h
          unfold arrOf at he
          split at he
          · rename_i len' e' hu
            split at he
            · rename_i j hj
              simp only [Option.some.injEq, Prod.mk.injEq] at he
              obtain ⟨rfl, rfl⟩ := he
              refine Yl.wp (yl_val hex (v := .pointer (some ⟨b, o' + m.toNat * j.size, none⟩)) (w' := w) ?_ h3)
              rw [hx, hi]
              simp [Instr.indexAt, asIntOf, run_und w hu, Instr.sureAddr, h1, h2, info_of_size hj w, Addr.add_mid]
            · cases he
          · cases he
        · exact h.elim
      · exact h.elim
    · exact h.elim
  case h_21 t x i ho =>
    replace h := ev_inv hA (ev_inv hA h)
    obtain ⟨v, hr, hK⟩ := runQ_yl h
    exact Yl.wp (yl_val (s := Instr.index t (a.eval x) (a.eval i)) (by simp only [execOp, ho]) hr hK)
  case h_22 t x i ok ho =>
    replace h := ev_inv hA (ev_inv hA h)
    obtain ⟨v, hr, hK⟩ := runQ_yl h
    exact Yl.wp (yl_val (s := Instr.lookup t (a.eval x) (a.eval i) ok) (by simp only [execOp, ho]) hr hK)
  case h_23 t m k x ho =>
    replace h := ev_inv hA (ev_inv hA (ev_inv hA h))
    obtain ⟨w', hr, hK⟩ := h
    exact Yl.wp (yl_unit (s := Instr.mapUpdate t (a.eval m) (a.eval k) (a.eval x)) (by simp only [execOp, ho]) hr hK)
  case h_24 t m k x ho =>
    replace h := ev_inv hA (ev_inv hA (ev_inv hA h))
    obtain ⟨w', hr, hK⟩ := h
    exact Yl.wp (yl_unit (s := Instr.mapUpdate t (a.eval m) (a.eval k) (a.eval x)) (by simp only [execOp, ho]) hr hK)
  case h_25 t x ho =>
    replace h := ev_inv hA h
    obtain ⟨v, w', hr, hK⟩ := runP_yl h
    exact Yl.wp (yl_val (s := Instr.range t (a.eval x)) (by simp only [execOp, ho]) hr hK)
  case h_26 it s ho =>
    replace h := ev_inv hA h
    obtain ⟨v, w', hr, hK⟩ := NextP.inv h
    exact Yl.wp (yl_val (s := Instr.next (a.eval it) s o.type) (by simp only [execOp, ho]) hr hK)
  case h_27 it ho =>
    replace h := ev_inv hA h
    obtain ⟨v, hr, hK⟩ := runQ_yl h
    exact Yl.wp (yl_val (s := Instr.entry (a.eval it)) (by simp only [execOp, ho]) hr hK)
  case h_28 t i ho =>
    replace h := ev_inv hA h
    split at h
    · rename_i vs hx
      split at h
      · rename_i u hu
        exact Yl.wp (yl_val (s := Instr.extract (a.eval t) i) (by simp only [execOp, ho]) (by rw [hx]; simp [Instr.extract, hu]) h)
      · exact h.elim
    · exact h.elim
  case h_29 t x ho =>
    replace h := ev_inv hA h
    obtain ⟨v, w', hr, hK⟩ := runP_yl h
    exact Yl.wp (yl_val (s := Instr.makeInterface t (a.eval x)) (by simp only [execOp, ho]) hr hK)
  case h_30 c ho => exact callP_wp hA ho h
  case h_31 => exact h.elim
end
end Go.Pl
