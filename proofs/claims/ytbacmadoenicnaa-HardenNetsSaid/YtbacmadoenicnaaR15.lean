/- Joined texts of the proof, part 15: WVals, WSane, F10, WNet, F18, WNote, F9, WFew, F6, WHead. -/
import Derived.Test.YtbacmadoenicnaaR14
set_option maxRecDepth 2000
set_option linter.unusedVariables false
set_option linter.unusedSimpArgs false
set_option linter.unusedSectionVars false
/- The values behind which fences stand, in order: walked, by the kit's contracts of maps.Keys and slices.Sorted. -/
namespace Go.Pl
set_option linter.unusedVariables false
theorem insert_perm {H : Type} (x : Lit × DataW H) : ∀ l : List (Lit × DataW H), (DataW.insert x l).Perm (x :: l)
  | [] => List.Perm.refl _
  | y :: r => by
    unfold DataW.insert
    split
    · exact List.Perm.refl _
    · exact ((insert_perm x r).cons y).trans (List.Perm.swap x y r)
theorem foldr_insert_perm {H : Type} : ∀ l : List (Lit × DataW H), (l.foldr DataW.insert []).Perm l
  | [] => List.Perm.refl _
  | x :: l => (insert_perm x _).trans ((foldr_insert_perm l).cons x)
theorem ext_below {w w' : World} (h : Go.RowKit.Below w.heap.size w w') : Ext w w' := ⟨h.size, h.block, h.os, h.output⟩
end Go.Pl
namespace Go.Pl.Try
open M Go.Proofs Go.RowKit Go.Maps Go.Sort Go.Shelf
set_option linter.unusedVariables false
theorem sorts_first (m : Nat) : AnyZI.SortsIn Go.Proofs.Try.prog Go.Proofs.Try.sortedA_ren Fence.wide m :=
  ⟨fun blk off cap ss W hH hblk hsz => callsIn_wide.2 (AnyM.slices_Sort_int Go.Proofs.Try.sortA blk off cap ss W hH hblk hsz),
   fun p cap W => callsIn_wide.2 (AnyM.slices_Sort_int_none Go.Proofs.Try.sortA p cap W)⟩
theorem uBool : Pg.underlying 4 = some .bool := by kernel_rfl
theorem owns_trues {w : World} {mb : Nat} {ob : Obj} {ks : List Int} (hob : w.heap[mb]? = some ob) (hmp : MpO (trues ks) ob) (hwf : ∀ k ∈ ks, (Lit.int .i64 k).wf = true) (hl : ks.length ≤ 4294967296) :
    ∃ D : DataW Unit, w.ownsMap Go.Proofs.Try.prog 3 (plainElem Go.Proofs.Try.prog 4) mb ks.length D ∧ (intKeys D).Perm ks := by
  obtain ⟨es, clock, rfl, he, hnd, hbn, hcl⟩ := hmp
  have hlen : es.toList.length = ks.length := by simpa [trues] using congrArg List.length he
  have hent : ∀ x ∈ es.toList, ∃ k ∈ ks, x.key = .int .i64 k ∧ x.val = .bool true := by
    intro x hx
    have : ((x.key, x.val) : Value × Value) ∈ (trues ks).map fun p => (Value.int .i64 p.1, p.2) := by rw [← he]; exact List.mem_map.2 ⟨x, hx, rfl⟩
    obtain ⟨q, hq, hqe⟩ := List.mem_map.1 this
    obtain ⟨k, hk, rfl⟩ := List.mem_map.1 hq
    simp only [Prod.mk.injEq] at hqe
    exact ⟨k, hk, hqe.1.symm, hqe.2.symm⟩
  have hrd : ∀ x ∈ es.toList, ∃ k ∈ ks, x.key = .int .i64 k ∧ Go.WideElems.rd Go.Proofs.Try.prog 3 (plainElem (H := Unit) Go.Proofs.Try.prog 4) x = some (.int .i64 k, .lit (.bool true)) := by
    intro x hx
    obtain ⟨k, hk, hkey, hval⟩ := hent x hx
    refine ⟨k, hk, hkey, ?_⟩
    have h1 : keyOf Go.Proofs.Try.prog 3 x.key = some (.int .i64 k) := by rw [hkey]; exact Maps.keyOf_int_mk uInt (hwf k hk)
    have h2 : plainElem (H := Unit) Go.Proofs.Try.prog 4 x.val = some (.lit (.bool true), []) := by
      rw [hval]; exact plainElem_bool uBool true
    simp [Go.WideElems.rd, h1, h2]
  have hkeys : es.toList.map (·.key) = ks.map (Value.int .i64) := by
    have := congrArg (List.map Prod.fst) he
    simpa [trues, Function.comp_def] using this
  have hksn : ks.Nodup := by simpa [trues, Function.comp_def] using hnd
  refine ⟨_, ⟨es, clock, hob, ⟨by rw [← Array.length_toList, hlen]; simp only [maxLen]; omega, ⟨hcl, hbn, ?_⟩, fun x hx => ?_⟩, by rw [← Array.length_toList, hlen]; exact Nat.le_refl _, rfl⟩, ?_⟩
  · show (es.toList.map (·.key)).Nodup
    rw [hkeys]
    exact List.pairwise_map.2 (hksn.imp fun {a b} hne e => hne (by cases e; rfl))
  · obtain ⟨k, _, _, h⟩ := hrd x hx
    exact ⟨_, h⟩
  · unfold intKeys
    have hp := (foldr_insert_perm (es.toList.map (Go.WideElems.rg Go.Proofs.Try.prog 3 (plainElem (H := Unit) Go.Proofs.Try.prog 4)))).map fun p => Go.intOf p.1
    refine hp.trans ?_
    rw [List.map_map]
    have : es.toList.map ((fun p => Go.intOf p.1) ∘ Go.WideElems.rg Go.Proofs.Try.prog 3 (plainElem (H := Unit) Go.Proofs.Try.prog 4)) = ks := by
      have h2 : es.toList.map ((fun p => Go.intOf p.1) ∘ Go.WideElems.rg Go.Proofs.Try.prog 3 (plainElem (H := Unit) Go.Proofs.Try.prog 4)) = (es.toList.map (·.key)).map fun v => match v with | .int _ a => a | _ => 0 := by
        rw [List.map_map]
        refine List.map_congr_left fun x hx => ?_
        obtain ⟨k, _, hkey, h⟩ := hrd x hx
        simp only [Function.comp]
        rw [Go.WideElems.rg_of h, hkey]
        rfl
      rw [h2, hkeys, List.map_map]
      simp [Function.comp_def]
    rw [this]
theorem sorted_keys {w : World} {mb : Nat} {ob : Obj} {ks : List Int} (hob : w.heap[mb]? = some ob) (hmp : MpO (trues ks) ob) (hwf : ∀ k ∈ ks, (Lit.int .i64 k).wf = true) (hl : ks.length ≤ 4294967296) :
    CallP Pg 44 [.map (some mb)] w fun v w' => Ext w w' ∧ CallP Pg 43 [v] w' fun u w2 => ∃ a c l, u = .slice a l.length c ∧ l.Perm ks ∧ l.Pairwise (· ≤ ·) ∧ RdI w2 a l.length l ∧ Ext w' w2 := by
  obtain ⟨D, hown, hperm⟩ := owns_trues hob hmp hwf hl
  have hsz := hown.size_le
  have hbl := (Array.getElem?_eq_some_iff.1 hob).1
  have hseq : SeqGives Fence.wide 2 Go.Proofs.Try.prog 75 #[.pointer (some ⟨w.heap.size, 0, none⟩)] encZ (fun ss => ss.Perm (intKeys D)) (Maps.size D) (w.alloc (.cells #[.map (some mb)] 56)) :=
    AnyZI.keys_gives (ρ := Go.Proofs.Try.keysA_ren) { Go.Proofs.Try.keysA with } Fence.wide _ trivial rfl (by omega) w.heap.size mb ks.length D _ (by simp) (by simp) (by
      obtain ⟨es, clock, hb, Ft, hs, hD⟩ := hown
      exact ⟨es, clock, (Below.heap_alloc _ _ mb hbl).trans hb, Ft, hs, hD⟩)
  have cK : CallsIn Fence.wide 5 Go.Proofs.Try.prog 44 #[.map (some mb)] w fun e w' => e = .returned (.func (.func 75) #[] #[.pointer (some ⟨w.heap.size, 0, none⟩)]) ∧ w' = w.alloc (.cells #[.map (some mb)] 56) := AnyZI.keys_in Go.Proofs.Try.keysA Fence.wide 5 trivial rfl (some mb) w
  have cS := AnyZI.sorted_in Go.Proofs.Try.sortedA Fence.wide 5 trivial trivial trivial trivial rfl (by omega) (sorts_first _) (enters_of Go.Proofs.Try.func74 (by kernel_rfl) rfl) 75 #[.pointer (some ⟨w.heap.size, 0, none⟩)] trivial (enters_of Go.Proofs.Try.func75 (by kernel_rfl) rfl) _ _ (by simp only [maxLen]; omega) (by omega) _ hseq
  change CallsIn _ _ Go.Proofs.Try.prog 43 _ _ _ at cS
  refine Calls.mono (callsIn_wide.1 cK) ?_
  rintro e w' ⟨rfl, rfl⟩
  refine ⟨_, rfl, ext_alloc _ _, Calls.mono (callsIn_wide.1 cS) ?_⟩
  rintro e w2 ⟨v, ss, rfl, hss, hrow, hnil, hb⟩
  refine ⟨v, rfl, ?_⟩
  have hps := (List.mergeSort_perm ss (fun x y => decide (x ≤ y))).trans (hss.trans hperm)
  have hsorted : (ss.mergeSort (fun x y => decide (x ≤ y))).Pairwise (· ≤ ·) := by
    have := List.pairwise_mergeSort (le := fun (x y : Int) => decide (x ≤ y)) (fun a b c h1 h2 => by simp only [decide_eq_true_eq] at *; exact Int.le_trans h1 h2) (fun a b => by simp only [Bool.or_eq_true, decide_eq_true_eq]; exact Int.le_total a b) ss
    exact this.imp fun h => by simpa using h
  obtain ⟨l, hl2⟩ : ∃ l, l = ss.mergeSort (fun x y => decide (x ≤ y)) := ⟨_, rfl⟩
  have hll : ss.length = l.length := by rw [hl2]; simp
  rw [← hl2] at hps hsorted hrow
  rw [hll] at hrow
  have hext := ext_below hb
  obtain ⟨hlen, ⟨rfl, h0⟩ | ⟨g, cap, cur, rfl, hge, hcel, hnc, hcm, hcs, htk⟩⟩ := hrow
  · have : l = [] := List.eq_nil_of_length_eq_zero h0
    subst this
    exact ⟨none, 0, [], rfl, hps, hsorted, RdS.nil _ _ _ _, hext⟩
  · refine ⟨_, cap, l, rfl, hps, hsorted, ⟨rfl, Nat.le_trans hnc hcm, fun i x hi => ⟨g, 0, [.int .i64 x], rfl, fun k v hk => ?_, rfl, rfl⟩⟩, hext⟩
    cases k with
    | zero =>
      cases hk
      have hil := (List.getElem?_eq_some_iff.1 hi).1
      have h1 : (cur.toList.take (l.length * 1))[i]? = some (.int .i64 x) := by rw [htk]; simp [encZ, hi]
      rw [List.getElem?_take] at h1
      split at h1
      · refine cel_of (vs := cur.toList) (e := 3) (fr := (0, 0)) ?_ (by rw [show 0 + i * 1 + 0 = i by omega]; exact h1)
        exact hcel
      · cases h1
    | succ k => simp at hk
theorem values_w {w : World} {us : List Value} {nf : Nat} {cut : Nat → List Int} {gs : List Plc} {wt : Int} (h : RPlan w us nf cut gs wt) {k : Nat} (hk : k < nf) (hwf : ∀ x ∈ cut k, (Lit.int .i64 x).wf = true) (hl : (cut k).length ≤ 4294967296) :
    CallP Pg 21 [.agg ⟨us⟩, .int .i64 k] w fun u w' => ∃ a c l, u = .slice a l.length c ∧ l.Perm (cut k) ∧ l.Pairwise (· ≤ ·) ∧ RdI w' a l.length l ∧ Ext w w' := by
  obtain ⟨ac, cc, ag, ng, cg, rfl, hc, hg⟩ := h
  obtain ⟨b, o, mb, ob, ha, hcel, hob, hmp⟩ := hc k hk
  refine F21_ok _ _ _ _ _ _ _ _ ?_
  unfold F21
  refine alp (Hp.refl w) fun b5 w6 h6 => ?_
  intro K7 hK7 K19 hK19
  refine sp_dec (fun h0 => by omega) (fun _ => ⟨_, _, _, h6.cl 0 rfl rfl, sp_dec (fun h1 => by omega) (fun _ => hK7 _ ?_)⟩)
  refine ⟨_, _, _, h6.cl 0 rfl rfl, by omega, by omega, ptAt_of ha ⟨_, h6.ext.cel (by simpa using hcel), ?_⟩⟩
  refine (sorted_keys (by rw [h6.ext.blk mb (Array.getElem?_eq_some_iff.1 hob).1]; exact hob) hmp hwf hl).mono ?_
  rintro v w14 ⟨hx14, hs⟩
  refine ⟨_, rfl, hs.mono ?_⟩
  rintro u w17 ⟨a, c, l, rfl, hp, hs, hr, hx⟩
  exact ⟨_, _, _, rfl, a, c, l, rfl, hp, hs, hr, h6.ext.trans (hx14.trans hx)⟩
/-- How many fences there are. -/
def fenceSum (cut : Nat → List Int) : Nat → Nat
  | 0 => 0
  | k + 1 => fenceSum cut k + (cut k).length
theorem fenceSum_le {cut : Nat → List Int} {m : Nat} : ∀ {n : Nat}, (∀ k, k < n → (cut k).length ≤ m) → fenceSum cut n ≤ n * m
  | 0, _ => by simp [fenceSum]
  | n + 1, h => by
    have := fenceSum_le (cut := cut) (m := m) (n := n) fun k hk => h k (by omega)
    have := h n (by omega)
    rw [fenceSum, Nat.add_one_mul]; omega
theorem fences_w {w : World} {us : List Value} {nf : Nat} {cut : Nat → List Int} {gs : List Plc} {wt : Int} (h : RPlan w us nf cut gs wt) (hnf : nf ≤ 1024) (hl : ∀ k, k < nf → (cut k).length ≤ 1048576) (hgl : gs.length ≤ 4398046511104) :
    CallP Pg 8 [.agg ⟨us⟩] w fun u w' => u = .int .i64 ((gs.length + fenceSum cut nf : Nat) : Int) ∧ Ext w w' := by
  obtain ⟨ac, cc, ag, ng, cg, rfl, hc, hg⟩ := h
  have hgn := hg.len
  refine F8_ok _ _ _ _ _ _ _ ?_
  unfold F8
  refine alp (Hp.refl w) fun b4 w5 h5 => ⟨_, _, _, h5.cl 0 rfl rfl, _, _, _, h5.cl 0 rfl rfl, ?_⟩
  refine ⟨fun n i w' m => w' = w5 ∧ ∃ j : Nat, i = j ∧ j ≤ nf ∧ m = nf - j ∧ n = ((gs.length + fenceSum cut j : Nat) : Int), ⟨nf, rfl, 0, rfl, by omega, by omega, by simp [fenceSum, hgn]⟩, ?_⟩
  rintro n i w11 m ⟨rfl, j, rfl, hj, rfl, rfl⟩
  refine sp_dec (fun hlt => ?_) (fun hge => ?_)
  · obtain ⟨b, o, mb, ob, ha, hcel, hob, hmp⟩ := hc j (by omega)
    have hb1 := fenceSum_le (cut := cut) (n := j) fun k hk => hl k (by omega)
    have hb2 := hl j (by omega)
    have hb3 : j * 1048576 ≤ 1024 * 1048576 := Nat.mul_le_mul_right _ (by omega)
    have hlen := mlen_run (ty := 3) mpCut hmp (w := w11) (by rw [h5.ext.blk mb (Array.getElem?_eq_some_iff.1 hob).1]; exact hob)
    refine ⟨by omega, by omega, ptAt_of ha ⟨_, h5.ext.cel (by simpa using hcel), _, hlen, nf - (j + 1), by omega, rfl, j + 1, wrap_succ (by simp only [maxLen]; omega), by omega, rfl, ?_⟩⟩
    have htl : (trues (cut j)).length = (cut j).length := by simp [trues]
    rw [htl, wrap_in (by omega) (by omega), fenceSum]
    omega
  · have hjn : j = nf := by omega
    subst hjn
    exact ⟨rfl, h5.ext⟩
end Go.Pl.Try

/- Programs that are right have graphs that end. -/
namespace Go.Pl.Try
open M
set_option linter.unusedVariables false
theorem Fnc.gr_end (f : Fnc) (hl : f.Lim) : GEnd f.blocks.length f.gr := by
  obtain ⟨h1, h2, h3, h4, h5⟩ := f.gr_facts hl
  have hb := hl.blocks
  simp only [lim] at hb
  refine ⟨?_, fun xs hx => ?_, ⟨_, by have := f.gr.doms_go; rw [h1] at this; exact this⟩, fun top b _ _ _ => ?_⟩
  · have := grBlks_ok f.blocks.length f.blocks 0 (List.replicate f.blocks.length [], List.replicate f.blocks.length []) (by omega) (fun l hl => by rw [List.eq_of_mem_replicate hl]; simp)
    exact this
  · have := h5 xs hx
    simp only [lim] at this
    omega
  · have hg := f.gr.loop_go top b
    rw [h1] at hg
    refine ⟨_, ?_, hg⟩
    have hs : ∀ (ls : List (List Int)) (m : Nat), (∀ l ∈ ls, l.length ≤ m) → (ls.map List.length).sum ≤ ls.length * m := by
      intro ls m
      induction ls with
      | nil => intro _; simp
      | cons a ls ih =>
        intro h
        have h6 := h a (by simp)
        have h7 := ih fun l hl => h l (by simp [hl])
        simp only [List.map_cons, List.sum_cons, List.length_cons, Nat.add_one_mul]
        omega
    have h8 := hs f.gr.ins (lim * lim) h5
    have h9 : f.gr.ins.length * (lim * lim) ≤ 1024 * (lim * lim) := Nat.mul_le_mul_right _ (by omega)
    simp only [lim] at h8 h9
    omega
theorem sane_of {p : Prg} (hl : p.Lim) (hc : p.check = true) : Sane p := by
  refine ⟨hl, fun f hf b hb => ?_, fun f hf => Fnc.gr_end f (hl.each f hf)⟩
  obtain ⟨k, hk⟩ := List.mem_iff_getElem?.1 hf
  exact ((prog_facts hc hk).1 b hb).2.1
end Go.Pl.Try

/- What 'palings/harden.Net' does, read off its translation by gen.py. -/
namespace Go.Pl.Try
set_option linter.unusedVariables false
set_option maxRecDepth 100000
def F10 (ap1 : Option Addr) (np1 cp1 : Nat) (ap2 : Option Addr) (np2 cp2 : Nat) (p3 : Int) (fn4 : Int) (w : World) (R : Value → World → Prop) : Prop :=
  AlP 32 [.slice ap1 np1 cp1, .slice ap2 np2 cp2, .int .i64 p3] w fun b5 w6 =>
  AlP 62 [.slice none 0 0, .slice none 0 0, .slice none 0 0, .slice none 0 0] w6 fun b7 w8 =>
  ∃ (ax9 : Option Addr) (nx9 cx9 : Nat) (ax10 : Option Addr) (nx10 cx10 : Nat) (x11 : Int), Row w8 b5 0 [.slice ax9 nx9 cx9, .slice ax10 nx10 cx10, .int .i64 x11] ∧
  CallP Pg 12 [.agg ⟨[.slice ax9 nx9 cx9, .slice ax10 nx10 cx10, .int .i64 x11]⟩, .slice none 0 0] w8 fun v12 w13 => ∃ (ax14 : Option Addr) (nx14 cx14 : Nat) (ax15 : Option Addr) (nx15 cx15 : Nat) (ax16 : Option Addr) (nx16 cx16 : Nat) (ax17 : Option Addr) (nx17 cx17 : Nat) (x18 : Int), v12 = .tuple ⟨[.agg ⟨[.slice ax14 nx14 cx14, .slice ax15 nx15 cx15, .slice ax16 nx16 cx16, .slice ax17 nx17 cx17]⟩, .int .i64 x18]⟩ ∧
  AlP 69 [.slice none 0 0, .slice none 0 0, .slice none 0 0, .slice none 0 0] w13 fun b19 w20 =>
  StP b19 0 [.slice ax14 nx14 cx14, .slice ax15 nx15 cx15, .slice ax16 nx16 cx16, .slice ax17 nx17 cx17] w20 fun w21 =>
  ∀ K22 : World → Prop, (∀ w23, (
  ∃ X24 : Nat → Prop,
  ¬ X24 b5 ∧
  ∃ (ax25 : Option Addr) (nx25 cx25 : Nat) (ax26 : Option Addr) (nx26 cx26 : Nat) (x27 : Int), Row w23.drew b5 0 [.slice ax25 nx25 cx25, .slice ax26 nx26 cx26, .int .i64 x27] ∧
  ¬ X24 b19 ∧
  ∃ (ax28 : Option Addr) (nx28 cx28 : Nat) (ax29 : Option Addr) (nx29 cx29 : Nat) (ax30 : Option Addr) (nx30 cx30 : Nat) (ax31 : Option Addr) (nx31 cx31 : Nat), Row w23.drew b19 0 [.slice ax28 nx28 cx28, .slice ax29 nx29 cx29, .slice ax30 nx30 cx30, .slice ax31 nx31 cx31] ∧
  ¬ X24 b5 ∧
  ∃ (ax32 : Option Addr) (nx32 cx32 : Nat) (ax33 : Option Addr) (nx33 cx33 : Nat) (x34 : Int), Row w23.drew b5 0 [.slice ax32 nx32 cx32, .slice ax33 nx33 cx33, .int .i64 x34] ∧
  ¬ X24 b19 ∧
  ∃ (ax35 : Option Addr) (nx35 cx35 : Nat) (ax36 : Option Addr) (nx36 cx36 : Nat) (ax37 : Option Addr) (nx37 cx37 : Nat) (ax38 : Option Addr) (nx38 cx38 : Nat), Row w23.drew b19 0 [.slice ax35 nx35 cx35, .slice ax36 nx36 cx36, .slice ax37 nx37 cx37, .slice ax38 nx38 cx38] ∧
  CallP Pg 22 [.agg ⟨[.slice ax32 nx32 cx32, .slice ax33 nx33 cx33, .int .i64 x34]⟩, .agg ⟨[.slice ax35 nx35 cx35, .slice ax36 nx36 cx36, .slice ax37 nx37 cx37, .slice ax38 nx38 cx38]⟩] w23.drew fun v39 w40 => ∃ (ax41 : Option Addr) (nx41 cx41 : Nat), v39 = .slice ax41 nx41 cx41 ∧
  ExtX X24 w23.drew w40 ∧
  CallP Pg 23 [.agg ⟨[.slice ax25 nx25 cx25, .slice ax26 nx26 cx26, .int .i64 x27]⟩, .int .i64 fn4, .agg ⟨[.slice ax28 nx28 cx28, .slice ax29 nx29 cx29, .slice ax30 nx30 cx30, .slice ax31 nx31 cx31]⟩, .slice ax41 nx41 cx41] w40 fun v42 w43 => ∃ (x44 : Option Addr), v42 = .pointer x44 ∧
  ∃ X45 : Nat → Prop,
  ptAt x44 fun b46 o47 =>
  ¬ X45 b46 ∧
  ∃ (ax48 : Option Addr) (nx48 cx48 : Nat) (ax49 : Option Addr) (nx49 cx49 : Nat) (ax50 : Option Addr) (nx50 cx50 : Nat) (ax51 : Option Addr) (nx51 cx51 : Nat), Row w43.drew b46 o47 [.slice ax48 nx48 cx48, .slice ax49 nx49 cx49, .slice ax50 nx50 cx50, .slice ax51 nx51 cx51] ∧
  ptAt x44 fun b52 o53 =>
  ¬ X45 b52 ∧
  ∃ (ax54 : Option Addr) (nx54 cx54 : Nat), cel w43.drew b52 (o53 + 4) = some (.slice ax54 nx54 cx54) ∧
  StP b7 0 [.slice ax48 nx48 cx48, .slice ax49 nx49 cx49, .slice ax50 nx50 cx50, .slice ax51 nx51 cx51] w43.drew fun w55 =>
  ExtX X45 w43.drew w55 ∧
  ∃ (ax56 : Option Addr) (nx56 cx56 : Nat) (ax57 : Option Addr) (nx57 cx57 : Nat) (ax58 : Option Addr) (nx58 cx58 : Nat) (ax59 : Option Addr) (nx59 cx59 : Nat), Row w55 b7 0 [.slice ax56 nx56 cx56, .slice ax57 nx57 cx57, .slice ax58 nx58 cx58, .slice ax59 nx59 cx59] ∧
  R (.tuple ⟨[.agg ⟨[.slice ax56 nx56 cx56, .slice ax57 nx57 cx57, .slice ax58 nx58 cx58, .slice ax59 nx59 cx59]⟩, .slice ax54 nx54 cx54, .int .i64 0]⟩) w55) → K22 w23) →
  ∀ K60 : World → Prop, (∀ w61, (
  StP b7 0 [.slice none 0 0, .slice none 0 0, .slice none 0 0, .slice none 0 0] w61 fun w62 =>
  ∃ (ax63 : Option Addr) (nx63 cx63 : Nat) (ax64 : Option Addr) (nx64 cx64 : Nat) (ax65 : Option Addr) (nx65 cx65 : Nat) (ax66 : Option Addr) (nx66 cx66 : Nat), Row w62 b7 0 [.slice ax63 nx63 cx63, .slice ax64 nx64 cx64, .slice ax65 nx65 cx65, .slice ax66 nx66 cx66] ∧
  R (.tuple ⟨[.agg ⟨[.slice ax63 nx63 cx63, .slice ax64 nx64 cx64, .slice ax65 nx65 cx65, .slice ax66 nx66 cx66]⟩, .slice none 0 0, .int .i64 40]⟩) w62) → K60 w61) →
  sp (!decide ((x18 : Int) = 0))
  (K60 w21)
  (sp (decide ((fn4 : Int) < 0))
  (K60 w21)
  (∃ (ax67 : Option Addr) (nx67 cx67 : Nat), cel w21 b5 1 = some (.slice ax67 nx67 cx67) ∧
  sp (decide (((nx67 : Nat) : Int) ≤ fn4))
  (K60 w21)
  (K22 w21)))
def T10 : List Sh := [.v (.agg [.sl, .sl, (.int .i64)]), .v (.one (.int .i64)), .v (.one .ptr), .v (.one .any), .t [(.agg [.sl, .sl, .sl, .sl])], .v (.one .sl), .v (.one (.int .i64)), .v (.one .ptr), .v (.one (.int .i64)), .v (.one .ptr), .t [(.agg [.sl, .sl, .sl, .sl]), (.one (.int .i64))], .v (.agg [.sl, .sl, (.int .i64)]), .t [(.agg [.sl, .sl, .sl, .sl]), (.one (.int .i64))], .v (.agg [.sl, .sl, .sl, .sl]), .v (.one (.int .i64)), .v (.one (.int .i64)), .v (.one .bool), .v (.one .bool), .v (.one (.int .i64)), .v (.one .bool), .v (.one .bool), .v (.one .bool), .v (.one (.int .i64)), .v (.one .ptr), .v (.one .sl), .v (.one (.int .i64)), .v (.one .bool), .v (.one .bool), .v (.agg [.sl, .sl, .sl, .sl]), .v (.agg [.sl, .sl, (.int .i64)]), .v (.one (.int .i64)), .v (.agg [.sl, .sl, .sl, .sl]), .v (.agg [.sl, .sl, (.int .i64)]), .v (.agg [.sl, .sl, .sl, .sl]), .v (.one .sl), .v (.one .ptr), .v (.one .ptr), .v (.one .ptr), .v (.one .ptr), .v (.agg [.sl, .sl, .sl, .sl]), .v (.one .ptr), .v (.one .ptr), .v (.one .ptr), .v (.one .sl)]
def A10 : Ann := (.seq none .z (.seq none .z (.seq (some []) (.ifs (some []) none (.seq none .z .z) .z) (.seq none (.drt true [1, 0, 1, 1, 1, 2, 3, 0] (.op 0 (.op 1 (.op 2 (.op 3 (.op 4 (.op 5 (.op 6 (.op 7 .nil))))))))) (.seq none (.drt true [0, 0, 0, 1, 0, 0, 0, 1, 2, 0, 0] (.op 0 (.op 1 (.op 2 (.op 3 (.op 4 (.op 5 (.op 6 (.op 7 (.op 8 (.op 9 (.op 10 .nil)))))))))))) .z)))))
theorem F10_eq (ap1 : Option Addr) (np1 cp1 : Nat) (ap2 : Option Addr) (np2 cp2 : Nat) (p3 : Int) (fn4 : Int) (w : World) (R : Value → World → Prop) : F10 ap1 np1 cp1 ap2 np2 cp2 p3 fn4 w R = denF Go.Proofs.Try.prog T10 Go.Proofs.Try.f10 A10 [.agg ⟨[.slice ap1 np1 cp1, .slice ap2 np2 cp2, .int .i64 p3]⟩, .int .i64 fn4] w R := by kernel_rfl
theorem F10_ok (ap1 : Option Addr) (np1 cp1 : Nat) (ap2 : Option Addr) (np2 cp2 : Nat) (p3 : Int) (fn4 : Int) {w : World} {R : Value → World → Prop} (h : F10 ap1 np1 cp1 ap2 np2 cp2 p3 fn4 w R) : CallP Go.Proofs.Try.prog 10 [.agg ⟨[.slice ap1 np1 cp1, .slice ap2 np2 cp2, .int .i64 p3]⟩, .int .i64 fn4] w R :=
  calls_den (fun _ => drawn (by kernel_rfl)) Go.Proofs.Try.func10 (Nat.le_of_ble_eq_true (by kernel_rfl)) ((F10_eq ap1 np1 cp1 ap2 np2 cp2 p3 fn4 w R).mp h)
end Go.Pl.Try

/- The hazards of a function as a net: walked. -/
namespace Go.Pl.Try
open M
set_option linter.unusedVariables false
theorem cutV_no {w : World} {p : Prg} : CutV w none 0 p.funcs.length p.noCut := by
  refine ⟨by simp [Prg.noCut], fun f hf => ⟨fun h => by omega, fun _ k => ?_⟩⟩
  unfold cutAt Prg.noCut
  rw [List.getD_eq_getElem?_getD, List.getElem?_replicate, if_pos hf]; rfl
structure NetPost (w : World) (p : Prg) (fn : Int) (S1 : TS) (u : Value) (w' : World) : Prop where
  ext : Ext w w'
  bad : ¬ (p.check = true ∧ 0 ≤ fn ∧ fn < (p.funcs.length : Nat)) → u = .tuple ⟨[.agg ⟨[.slice none 0 0, .slice none 0 0, .slice none 0 0, .slice none 0 0]⟩, .slice none 0 0, .int .i64 40]⟩
  good : p.check = true → 0 ≤ fn → fn < (p.funcs.length : Nat) → ∃ us a n c, u = .tuple ⟨[.agg ⟨us⟩, .slice a n c, .int .i64 0]⟩ ∧ RNet w' us (p.hz S1 fn.toNat).net ∧ RdI w' a n (p.hz S1 fn.toNat).vals
theorem net_w {w : World} {p : Prg} {vs : List Value} (h : RProg w vs p) (hl : p.Lim) (fn : Int) {S1 : TS} (hgo : p.check = true → ∃ k, TS.go p p.noCut p.writes k p.start = some S1) :
    CallP Pg 10 [.agg ⟨vs⟩, .int .i64 fn] w (NetPost w p fn S1) := by
  have hP := h
  obtain ⟨aa, na, ca, af, nf, cf, rfl, harr, hfun⟩ := h
  have hfl := hfun.len
  have hfl' := hl.funcs
  rw [hfl] at hfl'
  simp only [lim] at hfl'
  refine F10_ok _ _ _ _ _ _ _ _ ?_
  unfold F10
  refine alp (Hp.refl w) fun b5 w6 h6 => alp h6 fun b7 w8 h8 => ⟨_, _, _, _, _, _, _, h8.row 1 rfl, ?_⟩
  refine (taintOf_w (hP.ext h8.ext) hl (cc := 0) cutV_no (fin := S1) hgo).mono ?_
  rintro v w13 ⟨hx13, hyes, hnot⟩
  have h13 := h8.step hx13
  have bad : ∀ {w1 : World} {L : List (Nat × Obj)} (i : Nat), Hp w w1 L → L[i]? = some (b7, Cl 62 [.slice none 0 0, .slice none 0 0, .slice none 0 0, .slice none 0 0]) → ¬ (p.check = true ∧ 0 ≤ fn ∧ fn < (p.funcs.length : Nat)) →
      StP b7 0 [.slice none 0 0, .slice none 0 0, .slice none 0 0, .slice none 0 0] w1 fun w62 =>
  ∃ (ax63 : Option Addr) (nx63 cx63 : Nat) (ax64 : Option Addr) (nx64 cx64 : Nat) (ax65 : Option Addr) (nx65 cx65 : Nat) (ax66 : Option Addr) (nx66 cx66 : Nat), Row w62 b7 0 [.slice ax63 nx63 cx63, .slice ax64 nx64 cx64, .slice ax65 nx65 cx65, .slice ax66 nx66 cx66] ∧
  NetPost w p fn S1 (.tuple ⟨[.agg ⟨[.slice ax63 nx63 cx63, .slice ax64 nx64 cx64, .slice ax65 nx65 cx65, .slice ax66 nx66 cx66]⟩, .slice none 0 0, .int .i64 40]⟩) w62 := by
    intro w1 L i h1 hi hno
    refine stp h1 i hi (by simp) rfl fun w2 h2 => ⟨_, _, _, _, _, _, _, _, _, _, _, _, h2.row i (by rw [List.getElem?_set_self (List.getElem?_eq_some_iff.1 hi).1]; rfl), ⟨h2.ext, fun _ => rfl, fun a b c => absurd ⟨a, b, c⟩ hno⟩⟩
  rcases Bool.eq_false_or_eq_true p.check with hck | hck
  rotate_left
  · obtain rfl := hnot hck
    refine ⟨_, _, _, _, _, _, _, _, _, _, _, _, _, rfl, ?_⟩
    refine alp h13 fun b19 w20 h20 => ?_
    refine stp h20 0 rfl (by simp) rfl fun w21 h21 => ?_
    intro K22 hK22 K60 hK60
    exact sp_true rfl (hK60 _ (bad 1 h21 rfl (by simp [hck])))
  obtain ⟨av, cv, a2, n2, c2, a3, n3, c3, a4, n4, c4, rfl, hlab⟩ := hyes hck
  have hsane := sane_of hl hck
  refine ⟨_, _, _, _, _, _, _, _, _, _, _, _, _, rfl, ?_⟩
  refine alp (Hp.refl w13) fun b19 w20 h20 => ?_
  refine stp h20 0 rfl (by simp) rfl fun w21 h21 => ?_
  have hlab21 := hlab.ext h21.ext
  have h21 := h13.call h21
  intro K22 hK22 K60 hK60
  refine sp_false rfl ?_
  refine sp_dec (fun hneg => hK60 _ (bad 1 h21 rfl (by omega))) (fun hneg => ⟨_, _, _, h21.cl 2 rfl rfl, sp_dec (fun hge => hK60 _ (bad 1 h21 rfl (by omega))) (fun hge => hK22 _ ?_)⟩)
  obtain ⟨k, rfl⟩ : ∃ k : Nat, fn = k := ⟨fn.toNat, by omega⟩
  obtain ⟨f, hf⟩ := at_some (l := p.funcs) (j := k) (by omega)
  have hd := h21.drew
  refine ⟨fun _ => False, fun h => h, _, _, _, _, _, _, _, hd.row 2 rfl, fun h => h, _, _, _, _, _, _, _, _, _, _, _, _, hd.row 0 rfl, fun h => h, _, _, _, _, _, _, _, hd.row 2 rfl, fun h => h, _, _, _, _, _, _, _, _, _, _, _, _, hd.row 0 rfl, ?_⟩
  refine (sinks_w (hP.ext hd.ext) hl (hlab21.ext (ext_drew _))).mono ?_
  rintro _ w40 ⟨as_, cs, rs, rfl, hss, h40'⟩
  have h40 := hd.call h40'
  have hlab40 := hlab21.ext ((ext_drew _).trans h40'.ext)
  refine ⟨_, _, _, rfl, Ext.x _ h40'.ext, ?_⟩
  obtain ⟨sks, hsks⟩ : ∃ l, l = p.sinks S1 := ⟨_, rfl⟩
  have hsl := Prg.sinks_len S1 hl
  rw [← hsks] at hss h40 hsl ⊢
  clear h40'
  have hsk : RdS 5 RSnk w40 as_ sks.length sks := Sls.rd hss [] h40 rfl fun i x hx => snk_at hx
  obtain ⟨z, hz⟩ : ∃ z, z = p.hz S1 k := ⟨_, rfl⟩
  have hzf : z = hzFn f (S1.get k) p.writes k sks := by rw [hz, Prg.hz, hf, hsks]
  refine (graph_w (hP.ext h40.ext) hsane hf hlab40 hsk hsl).mono ?_
  rintro _ w43 ⟨m, rfl, h43', hokm⟩
  rw [← hzf] at h43' hokm
  have h43 := (h40.call h43').drew
  refine ⟨_, rfl, ?_⟩
  have h43z : Hp w w43.drew ([] ++ HzL m z) := h43.sub (List.sublist_append_left _ _)
  have hbh : ¬ Xf w (HzL m z) m.bh := Xf.mem (p := (m.bh, Cl 98 m.cells)) (by simp [HzL])
  refine ⟨Xf w (HzL m z), ptAt_of rfl ⟨hbh, _, _, _, _, _, _, _, _, _, _, _, _, HzL.row4 h43z, ptAt_of rfl ⟨hbh, _, _, _, HzL.cell h43z (i := 4) rfl, ?_⟩⟩⟩
  refine stp h43 ((HzL m z ++ rs.L 100 (sks.flatMap snkCells)).length + 1) (b := b7) (e := 62) (old := [.slice none 0 0, .slice none 0 0, .slice none 0 0, .slice none 0 0]) (by rw [← List.append_assoc, List.getElem?_append_right (by omega), Nat.add_sub_cancel_left]; rfl) (by simp) rfl fun w55 h55 => ?_
  rw [← List.append_assoc, List.set_append_right _ _ (by omega), Nat.add_sub_cancel_left] at h55
  refine ⟨h43.xf h55 (fun q hq => List.mem_append_left _ hq) (fun q hq => List.mem_append_left _ (List.mem_append_left _ hq)), ?_⟩
  have h55' : Hp w w55 (HzL m z) := h55.sub (by rw [List.append_assoc]; exact List.sublist_append_left _ _)
  obtain ⟨hnet, hvals⟩ := HzL.net (F := []) h55' hokm
  refine ⟨_, _, _, _, _, _, _, _, _, _, _, _, h55.row ((HzL m z ++ rs.L 100 (sks.flatMap snkCells)).length + 1) (by rw [List.getElem?_append_right (by omega), Nat.add_sub_cancel_left]; rfl), ?_⟩
  exact ⟨h55.ext, fun h => absurd ⟨hck, by omega, by omega⟩ h, fun _ _ _ => ⟨_, _, _, _, rfl, by rw [Int.toNat_natCast, ← hz]; exact hnet, by rw [Int.toNat_natCast, ← hz]; exact hvals⟩⟩
end Go.Pl.Try

/- What 'palings/palingslaw14.HardenNets$1' does, read off its translation by gen.py. -/
namespace Go.Pl.Try
set_option linter.unusedVariables false
set_option maxRecDepth 100000
def F18 (a1 : Int) (b2 : Int) (b3 : Nat) (o4 : Nat) (b5 : Nat) (o6 : Nat) (w : World) (R : Value → World → Prop) : Prop :=
  ∃ (x7 : Option Nat), cel w b3 o4 = some (.map x7) ∧
  ∃ (x8 : Int) (x9 : Bool), Sem.run Pg (Instr.lookup 77 (.map x7) (.int .i64 a1) true) w = .ok (.tuple ⟨[.int .i64 x8, .bool x9]⟩) w ∧
  ∃ (x10 : Option Nat), cel w b3 o4 = some (.map x10) ∧
  ∃ (x11 : Int) (x12 : Bool), Sem.run Pg (Instr.lookup 77 (.map x10) (.int .i64 b2) true) w = .ok (.tuple ⟨[.int .i64 x11, .bool x12]⟩) w ∧
  sp x9
  (sp x12
  (∃ (x13 : Option Nat), cel w b5 o6 = some (.map x13) ∧
  ∃ w14 : World, Sem.run Pg (Instr.mapUpdate 82 (.map x13) (.agg ⟨[.int .i64 x8, .int .i64 x11]⟩) (.bool true)) w = .ok () w14 ∧
  R (.tuple ⟨[]⟩) w14)
  (R (.tuple ⟨[]⟩) w))
  (R (.tuple ⟨[]⟩) w)
def T18 : List Sh := [.v (.one (.int .i64)), .v (.one (.int .i64)), .v (.one .ptr), .v (.one .ptr), .v (.one .any), .v (.one .any), .v (.one (.int .i64)), .v (.one .bool), .v (.one (.int .i64)), .v (.one .bool), .t [(.one (.int .i64)), (.one .bool)], .v (.one .map), .v (.one (.int .i64)), .t [(.one (.int .i64)), (.one .bool)], .v (.one (.int .i64)), .v (.one .bool), .t [(.one (.int .i64)), (.one .bool)], .v (.one .map), .v (.one (.int .i64)), .t [(.one (.int .i64)), (.one .bool)], .v (.one (.int .i64)), .v (.one .bool), .v (.one .bool), .v (.one .bool), .v (.one .bool), .v (.one .bool), .v (.one .map), .v (.one (.int .i64)), .v (.one (.int .i64)), .v (.agg [(.int .i64), (.int .i64)])]
def A18 : Ann := (.seq none .z (.seq none .z (.ifs none none .z .z)))
theorem F18_eq (a1 : Int) (b2 : Int) (b3 : Nat) (o4 : Nat) (b5 : Nat) (o6 : Nat) (w : World) (R : Value → World → Prop) : F18 a1 b2 b3 o4 b5 o6 w R = denF Go.Proofs.Try.prog T18 Go.Proofs.Try.f18 A18 [.int .i64 a1, .int .i64 b2, .pointer (some ⟨b3, o4, none⟩), .pointer (some ⟨b5, o6, none⟩)] w R := by kernel_rfl
theorem F18_ok (a1 : Int) (b2 : Int) (b3 : Nat) (o4 : Nat) (b5 : Nat) (o6 : Nat) {w : World} {R : Value → World → Prop} (h : F18 a1 b2 b3 o4 b5 o6 w R) : CallP Go.Proofs.Try.prog 18 [.int .i64 a1, .int .i64 b2, .pointer (some ⟨b3, o4, none⟩), .pointer (some ⟨b5, o6, none⟩)] w R :=
  calls_den (fun _ => drawn (by kernel_rfl)) Go.Proofs.Try.func18 (Nat.le_of_ble_eq_true (by kernel_rfl)) ((F18_eq a1 b2 b3 o4 b5 o6 w R).mp h)
end Go.Pl.Try

/- 'note' within 'HardenNets': walked. -/
namespace Go.Pl.Try
open M
set_option linter.unusedVariables false
theorem mpNt : mpT Go.Proofs.Try.prog 77 3 = true := by kernel_rfl
theorem zNt : zeroOf Go.Proofs.Try.prog 3 = some (.int .i64 0) := by kernel_rfl
abbrev atF (at_ : Int → Option Int) : Int → Option Value := fun k => (at_ k).map (Value.int .i64)
theorem set_same {α : Type} : ∀ {l : List α} {i : Nat} {x : α}, l[i]? = some x → l.set i x = l
  | [], i, x, h => by simp at h
  | a :: l, 0, x, h => by simp at h; simp [h]
  | a :: l, i + 1, x, h => by simp at h; simp [set_same h]
theorem note_w {w0 w : World} {L : List (Nat × Obj)} {bA bB ba bw tA tB : Nat} {oa ow : Obj} {at_ : Int → Option Int} {ks : List (Int × Int)} (h : Hp w0 w L) (i : Nat) (hi : L[i]? = some (bw, ow)) (hA : (bA, Cl tA [.map (some ba)]) ∈ L) (hB : (bB, Cl tB [.map (some bw)]) ∈ L) (hM : (ba, oa) ∈ L)
    (hat : MapO (atF at_) oa) (hks : MpP ks ow) (hok : ∀ k x, at_ k = some x → -9223372036854775808 ≤ x ∧ x ≤ 9223372036854775807) (a b : Int) :
    CallV Pg (.func (.func 18) ⟨[]⟩ ⟨[.pointer (some ⟨bA, 0, none⟩), .pointer (some ⟨bB, 0, none⟩)]⟩) [.int .i64 a, .int .i64 b] w fun v w' => v = .tuple ⟨[]⟩ ∧ ∃ ow', Hp w0 w' (L.set i (bw, ow')) ∧ MpP (noteW at_ ks a b) ow' := by
  have hcA : cel w bA 0 = some (.map (some ba)) := cel_of (h.own _ hA).2 rfl
  have hcB : cel w bB 0 = some (.map (some bw)) := cel_of (h.own _ hB).2 rfl
  have hR : RMap w (some ba) (atF at_) := ⟨oa, (h.own _ hM).2, hat⟩
  have lk : ∀ k : Int, Sem.run Pg (Instr.lookup 77 (.map (some ba)) (.int .i64 k) true) w = .ok (.tuple ⟨[.int .i64 ((at_ k).getD 0), .bool (at_ k).isSome]⟩) w := by
    intro k
    have := look_map2 mpNt zNt hR k
    refine this.trans ?_
    unfold atF
    cases at_ k <;> rfl
  have hsame : Hp w0 w (L.set i (bw, ow)) := by rw [set_same hi]; exact h
  refine ⟨by kernel_rfl, F18_ok a b bA 0 bB 0 ?_⟩
  refine ⟨_, hcA, _, _, lk a, _, hcA, _, _, lk b, ?_⟩
  cases ha : at_ a with
  | none => exact sp_false rfl ⟨rfl, ow, hsame, by unfold noteW; rw [ha]; exact hks⟩
  | some x =>
    refine sp_true rfl ?_
    cases hb : at_ b with
    | none => exact sp_false rfl ⟨rfl, ow, hsame, by unfold noteW; rw [ha, hb]; exact hks⟩
    | some y =>
      refine sp_true rfl ⟨_, hcB, ?_⟩
      obtain ⟨w', o', hr, hm, h'⟩ := pupd_run h i hi hks (p := (x, y)) ⟨hok _ _ ha, hok _ _ hb⟩
      exact ⟨w', hr, rfl, o', h', by unfold noteW; rw [ha, hb]; exact hm⟩
end Go.Pl.Try

/- What 'palings/palingslaw07.Few' does, read off its translation by gen.py. -/
namespace Go.Pl.Try
set_option linter.unusedVariables false
set_option maxRecDepth 100000
def F9 (ax1 : Option Addr) (nx1 cx1 : Nat) (ax2 : Option Addr) (nx2 cx2 : Nat) (x3 : Int) (w : World) (R : Value → World → Prop) : Prop :=
  AlP 32 [.slice ax1 nx1 cx1, .slice ax2 nx2 cx2, .int .i64 x3] w fun b4 w5 =>
  ∀ K6 : World → Prop, (∀ w7, (
  ∃ (ax8 : Option Addr) (nx8 cx8 : Nat), cel w7 b4 1 = some (.slice ax8 nx8 cx8) ∧
  ∃ J9 : Int → World → Nat → Prop, (∃ m12, J9 0 w7 m12) ∧
  ∀ (x10 : Int), ∀ w11 m12, J9 x10 w11 m12 →
  sp (decide ((x10 : Int) < (nx8 : Nat)))
  (0 ≤ (x10 : Int) ∧ (x10 : Int) < (nx8 : Nat) ∧
  ptAt ax8 fun b14 o15 =>
  ∃ (x16 : ByteArray) (ax17 : Option Addr) (nx17 cx17 : Nat), Row w11 b14 (o15 + x10.toNat * 2) [.string x16, .slice ax17 nx17 cx17] ∧
  AlP 29 [.string ⟨#[]⟩, .slice none 0 0] w11 fun b18 w19 =>
  StP b18 0 [.string x16, .slice ax17 nx17 cx17] w19 fun w20 =>
  ∀ K21 : World → Prop, (∀ w22, (
  ∃ (ax23 : Option Addr) (nx23 cx23 : Nat), cel w22 b18 1 = some (.slice ax23 nx23 cx23) ∧
  ∃ J24 : Int → World → Nat → Prop, (∃ m27, J24 0 w22 m27) ∧
  ∀ (x25 : Int), ∀ w26 m27, J24 x25 w26 m27 →
  sp (decide ((x25 : Int) < (nx23 : Nat)))
  (0 ≤ (x25 : Int) ∧ (x25 : Int) < (nx23 : Nat) ∧
  ptAt ax23 fun b29 o30 =>
  ∃ (ax31 : Option Addr) (nx31 cx31 : Nat) (ax32 : Option Addr) (nx32 cx32 : Nat) (x33 : Int) (x34 : Int) (ax35 : Option Addr) (nx35 cx35 : Nat) (x36 : Int), Row w26 b29 (o30 + x25.toNat * 6) [.slice ax31 nx31 cx31, .slice ax32 nx32 cx32, .int .i64 x33, .int .i64 x34, .slice ax35 nx35 cx35, .int .i64 x36] ∧
  AlP 47 [.slice none 0 0, .slice none 0 0, .int .i64 0, .int .i64 0, .slice none 0 0, .int .i64 0] w26 fun b37 w38 =>
  StP b37 0 [.slice ax31 nx31 cx31, .slice ax32 nx32 cx32, .int .i64 x33, .int .i64 x34, .slice ax35 nx35 cx35, .int .i64 x36] w38 fun w39 =>
  ∀ K40 : World → Prop, (∀ w41, (
  ∃ (ax42 : Option Addr) (nx42 cx42 : Nat), cel w41 b37 1 = some (.slice ax42 nx42 cx42) ∧
  ∃ J43 : Int → World → Nat → Prop, (∃ m46, J43 0 w41 m46) ∧
  ∀ (x44 : Int), ∀ w45 m46, J43 x44 w45 m46 →
  sp (decide ((x44 : Int) < (nx42 : Nat)))
  (0 ≤ (x44 : Int) ∧ (x44 : Int) < (nx42 : Nat) ∧
  ptAt ax42 fun b48 o49 =>
  ∃ (x50 : Int) (x51 : Int) (ax52 : Option Addr) (nx52 cx52 : Nat) (x53 : Int) (x54 : Int) (x55 : Int) (x56 : Int), Row w45 b48 (o49 + x44.toNat * 7) [.int .i64 x50, .int .i64 x51, .slice ax52 nx52 cx52, .int .i64 x53, .int .i64 x54, .int .i64 x55, .int .i64 x56] ∧
  AlP 37 [.int .i64 0, .int .i64 0, .slice none 0 0, .int .i64 0, .int .i64 0, .int .i64 0, .int .i64 0] w45 fun b57 w58 =>
  StP b57 0 [.int .i64 x50, .int .i64 x51, .slice ax52 nx52 cx52, .int .i64 x53, .int .i64 x54, .int .i64 x55, .int .i64 x56] w58 fun w59 =>
  ∃ (ax60 : Option Addr) (nx60 cx60 : Nat), cel w59 b57 2 = some (.slice ax60 nx60 cx60) ∧
  sp (decide ((20 : Int) < (nx60 : Nat)))
  (R (.bool false) w59)
  (∃ m47, m47 < m46 ∧ J43 (IntKind.wrap .i64 (x44 + 1)) w59 m47))
  (∃ (ax61 : Option Addr) (nx61 cx61 : Nat), cel w45 b37 4 = some (.slice ax61 nx61 cx61) ∧
  ∃ J62 : Int → World → Nat → Prop, (∃ m65, J62 0 w45 m65) ∧
  ∀ (x63 : Int), ∀ w64 m65, J62 x63 w64 m65 →
  sp (decide ((x63 : Int) < (nx61 : Nat)))
  (0 ≤ (x63 : Int) ∧ (x63 : Int) < (nx61 : Nat) ∧
  ptAt ax61 fun b67 o68 =>
  ∃ (x69 : Int) (ax70 : Option Addr) (nx70 cx70 : Nat), Row w64 b67 (o68 + x63.toNat * 2) [.int .i64 x69, .slice ax70 nx70 cx70] ∧
  AlP 41 [.int .i64 0, .slice none 0 0] w64 fun b71 w72 =>
  StP b71 0 [.int .i64 x69, .slice ax70 nx70 cx70] w72 fun w73 =>
  ∃ (ax74 : Option Addr) (nx74 cx74 : Nat), cel w73 b71 1 = some (.slice ax74 nx74 cx74) ∧
  sp (decide ((20 : Int) < (nx74 : Nat)))
  (R (.bool false) w73)
  (∃ m66, m66 < m65 ∧ J62 (IntKind.wrap .i64 (x63 + 1)) w73 m66))
  (∃ m28, m28 < m27 ∧ J24 (IntKind.wrap .i64 (x25 + 1)) w64 m28))) → K40 w41) →
  ∀ K75 : World → Prop, (∀ w76, (
  R (.bool false) w76) → K75 w76) →
  ∃ (ax77 : Option Addr) (nx77 cx77 : Nat), cel w39 b37 0 = some (.slice ax77 nx77 cx77) ∧
  sp (decide ((20 : Int) < (nx77 : Nat)))
  (K75 w39)
  (∃ (ax78 : Option Addr) (nx78 cx78 : Nat), cel w39 b37 1 = some (.slice ax78 nx78 cx78) ∧
  sp (decide ((40 : Int) < (nx78 : Nat)))
  (K75 w39)
  (∃ (ax79 : Option Addr) (nx79 cx79 : Nat), cel w39 b37 4 = some (.slice ax79 nx79 cx79) ∧
  sp (decide ((5 : Int) < (nx79 : Nat)))
  (K75 w39)
  (K40 w39))))
  (∃ m13, m13 < m12 ∧ J9 (IntKind.wrap .i64 (x10 + 1)) w26 m13)) → K21 w22) →
  ∀ K80 : World → Prop, (∀ w81, (
  R (.bool false) w81) → K80 w81) →
  ∃ (ax82 : Option Addr) (nx82 cx82 : Nat), cel w20 b18 1 = some (.slice ax82 nx82 cx82) ∧
  sp (decide ((30 : Int) < (nx82 : Nat)))
  (K80 w20)
  (∃ (x83 : ByteArray), cel w20 b18 0 = some (.string x83) ∧
  sp (decide ((40 : Int) < (x83.size : Nat)))
  (K80 w20)
  (K21 w20)))
  (R (.bool true) w11)) → K6 w7) →
  ∀ K84 : World → Prop, (∀ w85, (
  R (.bool false) w85) → K84 w85) →
  ∃ (ax86 : Option Addr) (nx86 cx86 : Nat), cel w5 b4 0 = some (.slice ax86 nx86 cx86) ∧
  sp (decide ((10 : Int) < (nx86 : Nat)))
  (K84 w5)
  (∃ (ax87 : Option Addr) (nx87 cx87 : Nat), cel w5 b4 1 = some (.slice ax87 nx87 cx87) ∧
  sp (decide ((5 : Int) < (nx87 : Nat)))
  (K84 w5)
  (K6 w5))
def T9 : List Sh := [.v (.agg [.sl, .sl, (.int .i64)]), .v (.one .ptr), .v (.one .bool), .v (.one .any), .v (.one .ptr), .v (.one .any), .v (.one .ptr), .v (.one .any), .v (.one .ptr), .v (.one .any), .v (.one .ptr), .v (.one .ptr), .v (.one .sl), .v (.one (.int .i64)), .v (.one .bool), .v (.one .bool), .v (.one .ptr), .v (.one .sl), .v (.one (.int .i64)), .v (.one .bool), .v (.one .bool), .v (.one .ptr), .v (.one .sl), .v (.one (.int .i64)), .v (.one (.int .i64)), .v (.one .bool), .v (.one .ptr), .v (.agg [.str, .sl]), .v (.one .ptr), .v (.one .sl), .v (.one (.int .i64)), .v (.one .bool), .v (.one .bool), .v (.one .ptr), .v (.one .str), .v (.one (.int .i64)), .v (.one .bool), .v (.one .bool), .v (.one .ptr), .v (.one .sl), .v (.one (.int .i64)), .v (.one (.int .i64)), .v (.one .bool), .v (.one .ptr), .v (.agg [.sl, .sl, (.int .i64), (.int .i64), .sl, (.int .i64)]), .v (.one .ptr), .v (.one .sl), .v (.one (.int .i64)), .v (.one .bool), .v (.one .bool), .v (.one .ptr), .v (.one .sl), .v (.one (.int .i64)), .v (.one .bool), .v (.one .bool), .v (.one .bool), .v (.one .ptr), .v (.one .ptr), .v (.one .sl), .v (.one (.int .i64)), .v (.one .bool), .v (.one .bool), .v (.one .ptr), .v (.one .sl), .v (.one (.int .i64)), .v (.one (.int .i64)), .v (.one .bool), .v (.one .ptr), .v (.agg [(.int .i64), (.int .i64), .sl, (.int .i64), (.int .i64), (.int .i64), (.int .i64)]), .v (.one .ptr), .v (.one .sl), .v (.one (.int .i64)), .v (.one .bool), .v (.one (.int .i64)), .v (.one .ptr), .v (.one .ptr), .v (.one .sl), .v (.one (.int .i64)), .v (.one (.int .i64)), .v (.one .bool), .v (.one .ptr), .v (.agg [(.int .i64), .sl]), .v (.one .ptr), .v (.one .sl), .v (.one (.int .i64)), .v (.one .bool), .v (.one (.int .i64)), .v (.one (.int .i64)), .v (.one (.int .i64))]
def A9 : Ann := (.seq none .z (.seq (some []) (.ifs (some []) none (.seq none .z .z) .z) (.seq none (.seq none .z (.block none (.loop [24] (.seq none .z (.seq none (.cond .z .z) (.seq none (.block none (.seq none .z (.seq (some []) (.ifs (some []) none (.seq none .z .z) .z) (.seq none .z (.block none (.loop [41] (.seq none .z (.seq none (.cond .z .z) (.seq none (.block none (.seq none .z (.seq (some []) (.ifs (some []) none (.seq none .z .z) .z) (.seq none (.seq none .z (.block none (.loop [65] (.seq none .z (.seq none (.cond .z .z) (.seq none (.block none (.seq none .z (.seq none .z (.cond (.seq none .z .z) .z)))) .z)))))) (.seq none .z (.block none (.loop [78] (.seq none .z (.seq none (.cond .z .z) (.seq none (.block none (.seq none .z (.seq none .z (.cond (.seq none .z .z) .z)))) .z)))))))))) .z))))))))) .z)))))) (.seq none .z .z))))
theorem F9_eq (ax1 : Option Addr) (nx1 cx1 : Nat) (ax2 : Option Addr) (nx2 cx2 : Nat) (x3 : Int) (w : World) (R : Value → World → Prop) : F9 ax1 nx1 cx1 ax2 nx2 cx2 x3 w R = denF Go.Proofs.Try.prog T9 Go.Proofs.Try.f9 A9 [.agg ⟨[.slice ax1 nx1 cx1, .slice ax2 nx2 cx2, .int .i64 x3]⟩] w R := by kernel_rfl
theorem F9_ok (ax1 : Option Addr) (nx1 cx1 : Nat) (ax2 : Option Addr) (nx2 cx2 : Nat) (x3 : Int) {w : World} {R : Value → World → Prop} (h : F9 ax1 nx1 cx1 ax2 nx2 cx2 x3 w R) : CallP Go.Proofs.Try.prog 9 [.agg ⟨[.slice ax1 nx1 cx1, .slice ax2 nx2 cx2, .int .i64 x3]⟩] w R :=
  calls_den (fun _ => drawn (by kernel_rfl)) Go.Proofs.Try.func9 (Nat.le_of_ble_eq_true (by kernel_rfl)) ((F9_eq ax1 nx1 cx1 ax2 nx2 cx2 x3 w R).mp h)
end Go.Pl.Try

/- A program of few parts: what is asked, and 'Few', walked. -/
namespace Go.Pl.M
structure Blk.Few (b : Blk) : Prop where
  params : b.params.length ≤ 20
  ins : b.ins.length ≤ 40
  ways : b.fin.ways.length ≤ 5
  iargs : ∀ i ∈ b.ins, i.args.length ≤ 20
  wargs : ∀ x ∈ b.fin.ways, x.args.length ≤ 20
structure Fnc.Few (f : Fnc) : Prop where
  blocks : f.blocks.length ≤ 30
  each : ∀ b ∈ f.blocks, b.Few
structure Prg.Few (p : Prg) : Prop where
  arrs : p.arrs.length ≤ 10
  funcs : p.funcs.length ≤ 5
  each : ∀ f ∈ p.funcs, f.Few
theorem Prg.Few.lim {p : Prg} (h : p.Few) : p.Lim := by
  refine ⟨?_, ?_, fun f hf => ⟨?_, fun b hb => ⟨?_, ?_, ?_, fun i hi => ?_, fun x hx => ?_⟩⟩⟩ <;> simp only [M.lim]
  · have := h.arrs; omega
  · have := h.funcs; omega
  · have := (h.each f hf).blocks; omega
  · have := ((h.each f hf).each b hb).params; omega
  · have := ((h.each f hf).each b hb).ins; omega
  · have := ((h.each f hf).each b hb).ways; omega
  · have := ((h.each f hf).each b hb).iargs i hi; omega
  · have := ((h.each f hf).each b hb).wargs x hx; omega
end Go.Pl.M
namespace Go.Pl.Try
open M
set_option linter.unusedVariables false
theorem take_mem {α : Type} {l : List α} {j : Nat} {x y : α} (h : l[j]? = some x) (hy : y ∈ l.take (j + 1)) : y ∈ l.take j ∨ y = x := by
  rw [List.take_add_one, h] at hy
  simpa using hy
theorem take_all {α : Type} {l : List α} {j : Nat} {Q : α → Prop} (h : ∀ y ∈ l.take j, Q y) (hj : l.length ≤ j) : ∀ y ∈ l, Q y := by
  rw [List.take_of_length_le hj] at h
  exact h
theorem few_w {w : World} {p : Prg} {vs : List Value} (h : RProg w vs p) :
    CallP Pg 9 [.agg ⟨vs⟩] w fun v w' => ∃ q, v = .bool q ∧ Ext w w' ∧ (q = true → p.Few) := by
  obtain ⟨aa, na, ca, af, nf, cf, rfl, harr, hfun⟩ := h
  have harl := harr.len
  have hfl := hfun.len
  have hfle := hfun.le
  refine F9_ok _ _ _ _ _ _ _ ?_
  unfold F9
  refine alp (Hp.refl w) fun b4 w5 h5 => ?_
  have no : ∀ w' : World, Ext w w' → ∃ q, Value.bool false = .bool q ∧ Ext w w' ∧ (q = true → p.Few) := fun w' hx => ⟨false, rfl, hx, fun e => by cases e⟩
  intro K6 hK6 K84 hK84
  refine ⟨_, _, _, h5.cl 0 rfl rfl, sp_dec (fun _ => hK84 _ (no _ h5.ext)) (fun hna => ⟨_, _, _, h5.cl 0 rfl rfl, sp_dec (fun _ => hK84 _ (no _ h5.ext)) (fun hnf => hK6 _ ⟨_, _, _, h5.cl 0 rfl rfl, ?_⟩)⟩)⟩
  refine ⟨fun i w' c => ∃ (j : Nat), i = j ∧ j ≤ nf ∧ c = nf - j ∧ Ext w w' ∧ ∀ f ∈ p.funcs.take j, f.Few, ⟨nf, 0, rfl, by omega, by omega, h5.ext, by simp⟩, ?_⟩
  rintro i w11 c ⟨j, rfl, hj, rfl, hx11, hfew⟩
  refine sp_dec (fun hlt => ?_) (fun hge => ⟨true, rfl, hx11, fun _ => ⟨by omega, by omega, take_all hfew (by omega)⟩⟩)
  obtain ⟨f, hf⟩ := at_some (l := p.funcs) (j := j) (by omega)
  obtain ⟨bb, ob, vs, ha, hrow, hvl, ab, nb, cb, rfl, hbs⟩ := hfun.at_ _ _ hf
  have hbl := hbs.len
  have hble := hbs.le
  refine ⟨by omega, by omega, ptAt_of ha ⟨_, _, _, _, hx11.row hrow, ?_⟩⟩
  refine alp (Hp.refl w11) fun b18 w19 h19 => ?_
  refine stp h19 0 rfl (by simp) rfl fun w20 h20 => ?_
  have hx20 := hx11.trans h20.ext
  intro K21 hK21 K80 hK80
  refine ⟨_, _, _, h20.cl 0 rfl rfl, sp_dec (fun _ => hK80 _ (no _ hx20)) (fun hnb => ⟨_, h20.cl 0 rfl rfl, sp_dec (fun _ => hK80 _ (no _ hx20)) (fun hnm => hK21 _ ⟨_, _, _, h20.cl 0 rfl rfl, ?_⟩)⟩)⟩
  refine ⟨fun i w' c => ∃ (q : Nat), i = q ∧ q ≤ nb ∧ c = nb - q ∧ Ext w w' ∧ ∀ b ∈ f.blocks.take q, b.Few, ⟨nb, 0, rfl, by omega, by omega, hx20, by simp⟩, ?_⟩
  rintro i w26 c ⟨q, rfl, hq, rfl, hx26, hbfew⟩
  refine sp_dec (fun hlt2 => ?_) (fun hge2 => ?_)
  · obtain ⟨b, hb⟩ := at_some (l := f.blocks) (j := q) (by omega)
    obtain ⟨bt, ot, ap, np, cp, ai, ni, ci, ae, ne, ce, hat, hrowt, hp, hi, he⟩ := blkOf hbs hb
    have hpl := hp.len
    have hil := hi.len
    have hel := he.len
    have hile := hi.le
    have hele := he.le
    refine ⟨by omega, by omega, ptAt_of hat ⟨_, _, _, _, _, _, _, _, _, _, _, _, hx26.row hrowt, ?_⟩⟩
    refine alp (Hp.refl w26) fun b37 w38 h38 => ?_
    refine stp h38 0 rfl (by simp) rfl fun w39 h39 => ?_
    have hx39 := hx26.trans h39.ext
    intro K40 hK40 K75 hK75
    refine ⟨_, _, _, h39.cl 0 rfl rfl, sp_dec (fun _ => hK75 _ (no _ hx39)) (fun hnp => ⟨_, _, _, h39.cl 0 rfl rfl, sp_dec (fun _ => hK75 _ (no _ hx39)) (fun hni => ⟨_, _, _, h39.cl 0 rfl rfl, sp_dec (fun _ => hK75 _ (no _ hx39)) (fun hne => hK40 _ ⟨_, _, _, h39.cl 0 rfl rfl, ?_⟩)⟩)⟩)⟩
    refine ⟨fun i w' c => ∃ (s : Nat), i = s ∧ s ≤ ni ∧ c = ni - s ∧ Hp w26 w' [_] ∧ ∀ x ∈ b.ins.take s, x.args.length ≤ 20, ⟨ni, 0, rfl, by omega, by omega, h39, by simp⟩, ?_⟩
    rintro i w45 c ⟨s, rfl, hs, rfl, h45, hifew⟩
    refine sp_dec (fun hlt3 => ?_) (fun hge3 => ?_)
    · obtain ⟨x, hz⟩ := at_some (l := b.ins) (j := s) (by omega)
      obtain ⟨bi, oi, vs, hai, hrowi, hvli, aa', na', ca', rfl, hargs⟩ := hi.at_ _ _ hz
      have hal := hargs.len
      refine ⟨by omega, by omega, ptAt_of hai ⟨_, _, _, _, _, _, _, _, _, (hx26.trans h45.ext).row hrowi, ?_⟩⟩
      refine alp h45 fun b57 w58 h58 => ?_
      refine stp h58 0 rfl (by simp) rfl fun w59 h59 => ?_
      refine ⟨_, _, _, h59.cl 0 rfl rfl, sp_dec (fun _ => no _ (hx26.trans h59.ext)) (fun hna' => ?_)⟩
      refine ⟨ni - (s + 1), by omega, s + 1, wrap_succ (by omega), by omega, rfl, h59.drop 1, fun y hy => ?_⟩
      rcases take_mem hz hy with h | rfl
      · exact hifew y h
      · omega
    · refine ⟨_, _, _, h45.cl 0 rfl rfl, ?_⟩
      refine ⟨fun i w' c => ∃ (s : Nat), i = s ∧ s ≤ ne ∧ c = ne - s ∧ Hp w26 w' [] ∧ ∀ x ∈ b.fin.ways.take s, x.args.length ≤ 20, ⟨ne, 0, rfl, by omega, by omega, h45.drop 1, by simp⟩, ?_⟩
      rintro i w64 c ⟨s2, rfl, hs2, rfl, h64, hwfew⟩
      refine sp_dec (fun hlt4 => ?_) (fun hge4 => ?_)
      · obtain ⟨x, hz⟩ := at_some (l := b.fin.ways) (j := s2) (by omega)
        obtain ⟨bi, oi, vs, hai, hrowi, hvli, aa', na', ca', rfl, hargs⟩ := he.at_ _ _ hz
        have hal := hargs.len
        refine ⟨by omega, by omega, ptAt_of hai ⟨_, _, _, _, (hx26.trans h64.ext).row hrowi, ?_⟩⟩
        refine alp h64 fun b71 w72 h72 => ?_
        refine stp h72 0 rfl (by simp) rfl fun w73 h73 => ?_
        refine ⟨_, _, _, h73.cl 0 rfl rfl, sp_dec (fun _ => no _ (hx26.trans h73.ext)) (fun hna' => ?_)⟩
        refine ⟨ne - (s2 + 1), by omega, s2 + 1, wrap_succ (by omega), by omega, rfl, h73.drop 1, fun y hy => ?_⟩
        rcases take_mem hz hy with h | rfl
        · exact hwfew y h
        · omega
      · refine ⟨nb - (q + 1), by omega, q + 1, wrap_succ (by omega), by omega, rfl, hx26.trans h64.ext, fun y hy => ?_⟩
        rcases take_mem hb hy with h | rfl
        · exact hbfew y h
        · exact ⟨by omega, by omega, by omega, take_all hifew (by omega), take_all hwfew (by omega)⟩
  · refine ⟨nf - (j + 1), by omega, j + 1, wrap_succ (by omega), by omega, rfl, hx26, fun y hy => ?_⟩
    rcases take_mem hf hy with h | rfl
    · exact hfew y h
    · exact ⟨by omega, take_all hbfew (by omega)⟩
end Go.Pl.Try

/- What 'palings/palingslaw14.head' does, read off its translation by gen.py. -/
namespace Go.Pl.Try
set_option linter.unusedVariables false
set_option maxRecDepth 100000
def F6  (w : World) (R : Value → World → Prop) : Prop :=
  AlP 25 [.string ⟨#[105]⟩, .int .i64 1, .int .i64 0, .string ⟨#[104]⟩, .int .i64 1, .int .i64 4] w fun b1 w2 =>
  AlP 3 [.int .i64 1] w2 fun b3 w4 =>
  AlP 3 [.int .i64 2] w4 fun b5 w6 =>
  AlP 37 [.int .i64 3, .int .i64 1, .slice none 0 0, .int .i64 0, .int .i64 0, .int .i64 0, .int .i64 0, .int .i64 5, .int .i64 2, .slice (some ⟨b3, 0, none⟩) 1 1, .int .i64 0, .int .i64 0, .int .i64 1, .int .i64 0, .int .i64 5, .int .i64 3, .slice (some ⟨b5, 0, none⟩) 1 1, .int .i64 0, .int .i64 0, .int .i64 1, .int .i64 0] w6 fun b7 w8 =>
  AlP 47 [.slice none 0 0, .slice (some ⟨b7, 0, none⟩) 3 3, .int .i64 3, .int .i64 3, .slice none 0 0, .int .i64 0] w8 fun b9 w10 =>
  AlP 29 [.string ⟨#[]⟩, .slice (some ⟨b9, 0, none⟩) 1 1] w10 fun b11 w12 =>
  AlP 32 [.slice none 0 0, .slice none 0 0, .int .i64 0] w12 fun b13 w14 =>
  StP b13 0 [.slice (some ⟨b1, 0, none⟩) 2 2, .slice (some ⟨b11, 0, none⟩) 1 1, .int .i64 0] w14 fun w15 =>
  ∃ (ax16 : Option Addr) (nx16 cx16 : Nat) (ax17 : Option Addr) (nx17 cx17 : Nat) (x18 : Int), Row w15 b13 0 [.slice ax16 nx16 cx16, .slice ax17 nx17 cx17, .int .i64 x18] ∧
  CallP Pg 7 [.agg ⟨[.slice ax16 nx16 cx16, .slice ax17 nx17 cx17, .int .i64 x18]⟩] w15 fun v19 w20 => ∃ (ax21 : Option Addr) (nx21 cx21 : Nat) (ax22 : Option Addr) (nx22 cx22 : Nat) (x23 : Int) (x24 : Int), v19 = .tuple ⟨[.agg ⟨[.slice ax21 nx21 cx21, .slice ax22 nx22 cx22, .int .i64 x23]⟩, .int .i64 x24]⟩ ∧
  AlP 51 [.slice none 0 0, .slice none 0 0, .int .i64 0] w20 fun b25 w26 =>
  StP b25 0 [.slice ax21 nx21 cx21, .slice ax22 nx22 cx22, .int .i64 x23] w26 fun w27 =>
  sp (decide ((x24 : Int) = 0))
  (∃ (ax28 : Option Addr) (nx28 cx28 : Nat), cel w27 b25 0 = some (.slice ax28 nx28 cx28) ∧
  sp (decide (((nx28 : Nat) : Int) = 1))
  (∃ (ax29 : Option Addr) (nx29 cx29 : Nat) (ax30 : Option Addr) (nx30 cx30 : Nat) (x31 : Int), Row w27 b25 0 [.slice ax29 nx29 cx29, .slice ax30 nx30 cx30, .int .i64 x31] ∧
  CallP Pg 21 [.agg ⟨[.slice ax29 nx29 cx29, .slice ax30 nx30 cx30, .int .i64 x31]⟩, .int .i64 0] w27 fun v32 w33 => ∃ (ax34 : Option Addr) (nx34 cx34 : Nat), v32 = .slice ax34 nx34 cx34 ∧
  sp (decide (((nx34 : Nat) : Int) = 1))
  (∃ (ax35 : Option Addr) (nx35 cx35 : Nat) (ax36 : Option Addr) (nx36 cx36 : Nat) (x37 : Int), Row w33 b25 0 [.slice ax35 nx35 cx35, .slice ax36 nx36 cx36, .int .i64 x37] ∧
  CallP Pg 21 [.agg ⟨[.slice ax35 nx35 cx35, .slice ax36 nx36 cx36, .int .i64 x37]⟩, .int .i64 0] w33 fun v38 w39 => ∃ (ax40 : Option Addr) (nx40 cx40 : Nat), v38 = .slice ax40 nx40 cx40 ∧
  0 ≤ (0 : Int) ∧ (0 : Int) < (nx40 : Nat) ∧
  ptAt ax40 fun b41 o42 =>
  ∃ (x43 : Int), cel w39 b41 o42 = some (.int .i64 x43) ∧
  sp (decide ((x43 : Int) = 2))
  (∃ (ax44 : Option Addr) (nx44 cx44 : Nat), cel w39 b25 1 = some (.slice ax44 nx44 cx44) ∧
  sp (decide (((nx44 : Nat) : Int) = 0))
  (∃ (ax45 : Option Addr) (nx45 cx45 : Nat) (ax46 : Option Addr) (nx46 cx46 : Nat) (x47 : Int), Row w39 b25 0 [.slice ax45 nx45 cx45, .slice ax46 nx46 cx46, .int .i64 x47] ∧
  CallP Pg 8 [.agg ⟨[.slice ax45 nx45 cx45, .slice ax46 nx46 cx46, .int .i64 x47]⟩] w39 fun v48 w49 => ∃ (x50 : Int), v48 = .int .i64 x50 ∧
  R (.bool (decide ((x50 : Int) = 1))) w49)
  (R (.bool false) w39))
  (R (.bool false) w39))
  (R (.bool false) w33))
  (R (.bool false) w27))
  (R (.bool false) w27)
def T6 : List Sh := [.v (.one .bool), .v (.one .ptr), .v (.one .ptr), .v (.one (.int .i64)), .v (.agg [.str, (.int .i64), (.int .i64)]), .v (.agg [.str, (.int .i64), (.int .i64)]), .v (.one .sl), .v (.agg [(.int .i64), (.int .i64), .sl, (.int .i64), (.int .i64), (.int .i64), (.int .i64)]), .v (.one .sl), .v (.agg [(.int .i64), (.int .i64), .sl, (.int .i64), (.int .i64), (.int .i64), (.int .i64)]), .v (.one .sl), .v (.agg [(.int .i64), (.int .i64), .sl, (.int .i64), (.int .i64), (.int .i64), (.int .i64)]), .v (.one .sl), .v (.agg [(.int .i64), (.int .i64), .sl, (.int .i64)]), .v (.agg [.sl, .sl, (.int .i64), (.int .i64), .sl, (.int .i64)]), .v (.one .sl), .v (.agg [.str, .sl]), .v (.one .sl), .v (.agg [.sl, .sl, (.int .i64)]), .t [(.agg [.sl, .sl, (.int .i64)]), (.one (.int .i64))], .v (.agg [.sl, .sl, (.int .i64)]), .t [(.agg [.sl, .sl, (.int .i64)]), (.one (.int .i64))], .v (.agg [.sl, .sl, (.int .i64)]), .v (.one (.int .i64)), .v (.one (.int .i64)), .v (.one .bool), .v (.one .bool), .v (.one .ptr), .v (.one .sl), .v (.one (.int .i64)), .v (.one .bool), .v (.one .bool), .v (.one .bool), .v (.agg [.sl, .sl, (.int .i64)]), .v (.one .sl), .v (.one (.int .i64)), .v (.one .bool), .v (.one .bool), .v (.one .bool), .v (.agg [.sl, .sl, (.int .i64)]), .v (.one .sl), .v (.one .ptr), .v (.one (.int .i64)), .v (.one .bool), .v (.one .bool), .v (.one .bool), .v (.one .ptr), .v (.one .sl), .v (.one (.int .i64)), .v (.one .bool), .v (.one .bool), .v (.one .bool), .v (.agg [.sl, .sl, (.int .i64)]), .v (.one (.int .i64)), .v (.one .bool), .v (.one .bool)]
def A6 : Ann := (.seq none .z (.seq none .z (.seq none .z (.seq none .z .z))))
theorem F6_eq  (w : World) (R : Value → World → Prop) : F6  w R = denF Go.Proofs.Try.prog T6 Go.Proofs.Try.f6 A6 [] w R := by kernel_rfl
theorem F6_ok  {w : World} {R : Value → World → Prop} (h : F6  w R) : CallP Go.Proofs.Try.prog 6 [] w R :=
  calls_den (fun _ => drawn (by kernel_rfl)) Go.Proofs.Try.func6 (Nat.le_of_ble_eq_true (by kernel_rfl)) ((F6_eq  w R).mp h)
end Go.Pl.Try

/- The law's example: walked. -/
namespace Go.Pl
open M
set_option linter.unusedVariables false
theorem rds_block {α : Type} {size : Nat} {R : World → List Value → α → Prop} {w : World} {b : Nat} {e : TypeId} {fr : Nat × Nat} {vs : List Value} {xs : List α} (h : w.heap[b]? = some (.cells ⟨vs⟩ e fr)) (hl : vs.length = xs.length * size) (hm : xs.length ≤ maxLen)
    (hR : ∀ i x, xs[i]? = some x → R w ((vs.drop (i * size)).take size) x) : RdS size R w (some ⟨b, 0, none⟩) xs.length xs := by
  refine ⟨rfl, hm, fun i x hi => ?_⟩
  have hin := (List.getElem?_eq_some_iff.1 hi).1
  have hfit : i * size + size ≤ vs.length := by
    rw [hl]
    have : (i + 1) * size ≤ xs.length * size := Nat.mul_le_mul_right _ hin
    rw [Nat.add_mul, Nat.one_mul] at this
    exact this
  refine ⟨b, 0, _, rfl, fun j v hj => ?_, ?_, hR i x hi⟩
  · rw [List.getElem?_take] at hj
    split at hj
    · rw [List.getElem?_drop] at hj
      exact cel_of h (by rw [show 0 + i * size + j = i * size + j by omega]; exact hj)
    · cases hj
  · rw [List.length_take, List.length_drop]; omega
end Go.Pl
namespace Go.Pl.Try
open M
set_option linter.unusedVariables false
theorem leastRun_of {n : Net} {k : Nat} {fin : Fl} (h : runChk n.all k n.mk' = some fin) : LeastRun n fin := by
  refine ⟨fun f => ∃ k, (runChk n.all k f).isSome, k, ⟨k, by rw [h]; rfl⟩, runChk_go h, ?_⟩
  rintro f ⟨k, hk⟩
  cases k with
  | zero => cases hk
  | succ k =>
    rw [runChk] at hk
    split at hk
    · rename_i hc
      simp only [Bool.and_eq_true, decide_eq_true_eq] at hc
      refine ⟨Fl.ready_of hc.1, hc.2, fun hf => ⟨k, ?_⟩⟩
      rw [if_pos hf] at hk
      exact hk
    · cases hk
theorem ofRun_of {p : Prg} {g : Nat} {cs : List (List Int)} {gs : List Plc} {wt : Int} (h : p.ofChk g = some (cs, gs, wt)) :
    p.Lim ∧ p.check = true ∧ ∃ S1 fl S2, OfRun p S1 fl S2 ∧ (∀ k, k < p.funcs.length → p.cutKeys S1 fl k = cs.getD k []) ∧ places (p.sinks S2) = gs ∧ sumTo (p.cutWt S1 fl) p.funcs.length = wt := by
  unfold Prg.ofChk at h
  split at h
  · rename_i hc
    simp only [Bool.and_eq_true] at hc
    split at h
    · cases h
    · rename_i S1 hS1
      split at h
      · rename_i hall
        simp only [List.all_eq_true, List.mem_range] at hall
        split at h
        · cases h
        · rename_i S2 hS2
          simp only [Option.some.injEq, Prod.mk.injEq] at h
          obtain ⟨rfl, rfl, rfl⟩ := h
          have hnet : ∀ k, k < p.funcs.length → (p.hz S1 k).net.Fit ∧ LeastRun (p.hz S1 k).net (p.flOf S1 g k) := by
            intro k hk
            have h1 := hall k hk
            unfold Prg.flChk at h1
            split at h1
            · rename_i hf
              refine ⟨Net.fit_of hf, ?_⟩
              unfold Prg.flOf Prg.flChk
              rw [if_pos hf]
              cases hr : runChk (p.hz S1 k).net.all g (p.hz S1 k).net.mk' with
              | none => rw [hr] at h1; cases h1
              | some fin => exact leastRun_of hr
            · cases h1
          refine ⟨Prg.lim_of hc.1, hc.2, S1, p.flOf S1 g, S2, ⟨sane_of (Prg.lim_of hc.1) hc.2, ⟨g, hS1⟩, fun k hk => (hnet k hk).1, fun k hk => (hnet k hk).2, ⟨g, hS2⟩⟩, fun k hk => ?_, rfl, rfl⟩
          rw [List.getD_eq_getElem?_getD, List.getElem?_map, List.getElem?_range hk]
          rfl
      · cases h
  · cases h
theorem RCuts.congr {w : World} {a : Option Addr} {n : Nat} {c c' : Nat → List Int} (h : RCuts w a n c) (e : ∀ k, k < n → c k = c' k) : RCuts w a n c' := fun k hk => by rw [← e k hk]; exact h k hk
theorem of_chk_w {w : World} {p : Prg} {vs : List Value} (h : RProg w vs p) {g : Nat} {cs : List (List Int)} {gs : List Plc} {wt : Int} (hc : p.ofChk g = some (cs, gs, wt)) :
    CallP Pg 7 [.agg ⟨vs⟩] w fun u w' => ∃ us, u = .tuple ⟨[.agg ⟨us⟩, .int .i64 0]⟩ ∧ RPlan w' us p.funcs.length (fun k => cs.getD k []) gs wt ∧ Ext w w' := by
  obtain ⟨hl, hck, S1, fl, S2, hrun, h1, h2, h3⟩ := ofRun_of hc
  refine (hof_w h hl (fun _ => hrun)).mono ?_
  rintro u w' ⟨hx, -, hy⟩
  obtain ⟨us, rfl, ac, cc, ag, ng, cg, rfl, hcut, hg⟩ := hy hck
  exact ⟨_, rfl, ⟨ac, cc, ag, ng, cg, by rw [h3], hcut.congr h1, h2 ▸ hg⟩, hx⟩
def headP : Prg := ⟨[⟨⟨#[105]⟩, 1, 0⟩, ⟨⟨#[104]⟩, 1, 4⟩], [⟨⟨#[]⟩, [⟨[], [⟨3, 1, [], 0, 0, 0, 0⟩, ⟨5, 2, [1], 0, 0, 1, 0⟩, ⟨5, 3, [2], 0, 0, 1, 0⟩], ⟨3, 3, [], 0⟩⟩]⟩], 0⟩
theorem head_chk : headP.ofChk 20 = some ([[2]], [], 1) := by decide +kernel
theorem head_w (w : World) : CallP Pg 6 [] w fun v w' => v = .bool true ∧ Ext w w' := by
  refine F6_ok ?_
  unfold F6
  refine alp (Hp.refl w) fun b1 w2 h2 => alp h2 fun b3 w4 h4 => alp h4 fun b5 w6 h6 => alp h6 fun b7 w8 h8 => alp h8 fun b9 w10 h10 => alp h10 fun b11 w12 h12 => alp h12 fun b13 w14 h14 => ?_
  refine stp h14 0 rfl (by simp) rfl fun w15 h15 => ⟨_, _, _, _, _, _, _, h15.row 0 rfl, ?_⟩
  have i1 : RdI w15 (some ⟨b3, 0, none⟩) 1 [1] := rds_block (xs := [1]) (h15.at 5 rfl) rfl (by simp only [List.length_cons, List.length_nil, maxLen]; omega) (fun i x hi => by
    match i, hi with
    | 0, hi => cases hi; rfl
    | i + 1, hi => simp at hi)
  have i2 : RdI w15 (some ⟨b5, 0, none⟩) 1 [2] := rds_block (xs := [2]) (h15.at 4 rfl) rfl (by simp only [List.length_cons, List.length_nil, maxLen]; omega) (fun i x hi => by
    match i, hi with
    | 0, hi => cases hi; rfl
    | i + 1, hi => simp at hi)
  have hP : RProg w15 [.slice (some ⟨b1, 0, none⟩) 2 2, .slice (some ⟨b11, 0, none⟩) 1 1, .int .i64 0] headP := by
    refine ⟨_, _, _, _, _, _, rfl, rds_block (xs := headP.arrs) (h15.at 6 rfl) rfl (by simp only [headP, List.length_cons, List.length_nil, maxLen]; omega) ?_, rds_block (xs := headP.funcs) (h15.at 1 rfl) rfl (by simp only [headP, List.length_cons, List.length_nil, maxLen]; omega) ?_⟩
    · intro i x hi
      match i, hi with
      | 0, hi => cases hi; rfl
      | 1, hi => cases hi; rfl
      | i + 2, hi => simp [headP] at hi
    · intro i x hi
      match i, hi with
      | 0, hi =>
        cases hi
        refine ⟨_, _, _, rfl, rds_block (xs := [_]) (h15.at 2 rfl) rfl (by simp only [List.length_cons, List.length_nil, maxLen]; omega) ?_⟩
        intro i x hi
        match i, hi with
        | 0, hi =>
          cases hi
          refine ⟨_, _, _, _, _, _, _, _, _, rfl, RdS.nil _ _ _ _, rds_block (xs := [_, _, _]) (h15.at 3 rfl) rfl (by simp only [List.length_cons, List.length_nil, maxLen]; omega) ?_, RdS.nil _ _ _ _⟩
          intro i x hi
          match i, hi with
          | 0, hi => cases hi; exact ⟨_, _, _, rfl, RdS.nil _ _ _ _, Nat.le_refl _⟩
          | 1, hi => cases hi; exact ⟨_, _, _, rfl, i1, Nat.le_refl _⟩
          | 2, hi => cases hi; exact ⟨_, _, _, rfl, i2, Nat.le_refl _⟩
          | i + 3, hi => simp at hi
        | i + 1, hi => simp at hi
      | i + 1, hi => simp [headP] at hi
  refine (of_chk_w hP head_chk).mono ?_
  rintro _ w20 ⟨us, rfl, hpl, hx20⟩
  obtain ⟨ac, cc, ag, ng, cg, rfl, hcut, hg⟩ := hpl
  have hgn : ng = 0 := hg.len.symm
  subst hgn
  refine ⟨_, _, _, _, _, _, _, _, rfl, ?_⟩
  refine alp (Hp.refl w20) fun b25 w26 h26 => ?_
  refine stp h26 0 rfl (by simp) rfl fun w27 h27 => sp_true rfl ⟨_, _, _, h27.cl 0 rfl rfl, sp_true rfl ?_⟩
  have hp27 : RPlan w27 [.slice ac 1 cc, .slice ag 0 cg, .int .i64 1] 1 (fun k => ([[2]] : List (List Int)).getD k []) [] 1 := ⟨ac, cc, ag, 0, cg, rfl, RCuts.ext hcut h27.ext, RdPlc.ext hg h27.ext⟩
  refine ⟨_, _, _, _, _, _, _, h27.row 0 rfl, ?_⟩
  refine (values_w hp27 (k := 0) (by omega) (by decide) (by decide)).mono ?_
  rintro _ w33 ⟨a34, c34, l34, rfl, hp34, -, hr34, hx33⟩
  have hl34 : l34 = [2] := List.perm_singleton.1 hp34
  subst hl34
  refine ⟨_, _, _, rfl, sp_true rfl ?_⟩
  have h33 := h27.step hx33
  have hp33 : RPlan w33 [.slice ac 1 cc, .slice ag 0 cg, .int .i64 1] 1 (fun k => ([[2]] : List (List Int)).getD k []) [] 1 := ⟨ac, cc, ag, 0, cg, rfl, RCuts.ext hcut h33.ext, RdPlc.ext hg h33.ext⟩
  refine ⟨_, _, _, _, _, _, _, h33.row 0 rfl, ?_⟩
  refine (values_w hp33 (k := 0) (by omega) (by decide) (by decide)).mono ?_
  rintro _ w39 ⟨a40, c40, l40, rfl, hp40, -, hr40, hx39⟩
  have hl40 : l40 = [2] := List.perm_singleton.1 hp40
  subst hl40
  have h39 := h33.step hx39
  obtain ⟨b41, o41, ha41, hc41⟩ := RdI.at hr40 (i := 0) rfl
  refine ⟨_, _, _, rfl, by omega, by simp, ptAt_of ha41 ⟨2, by simpa using hc41, sp_true rfl ⟨_, _, _, h39.cl 0 rfl rfl, sp_true rfl ?_⟩⟩⟩
  have hp39 : RPlan w39 [.slice ac 1 cc, .slice ag 0 cg, .int .i64 1] 1 (fun k => ([[2]] : List (List Int)).getD k []) [] 1 := ⟨ac, cc, ag, 0, cg, rfl, RCuts.ext hcut h39.ext, RdPlc.ext hg h39.ext⟩
  refine ⟨_, _, _, _, _, _, _, h39.row 0 rfl, ?_⟩
  refine (fences_w hp39 (by omega) (fun k hk => by
    have : k = 0 := by omega
    subst this; decide) (by decide)).mono ?_
  rintro _ w49 ⟨rfl, hx49⟩
  exact ⟨_, rfl, rfl, h15.ext.trans (hx20.trans (h39.ext.trans hx49))⟩
end Go.Pl.Try
