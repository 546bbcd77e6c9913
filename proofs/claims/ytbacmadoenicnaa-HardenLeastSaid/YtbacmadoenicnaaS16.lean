/- Joined texts of the proof, part 16: WVals, WSane, F10, WNet, F18, WNote, F6, WHead, F4. -/
import Derived.Test.YtbacmadoenicnaaS15
set_option maxRecDepth 2000
set_option linter.unusedVariables false
set_option linter.unusedSimpArgs false
set_option linter.unusedSectionVars false
/- The values behind which fences stand, in order: walked, by the kit's contracts of maps.Keys and slices.Sorted. -/
namespace Go.Pl
set_option linter.unusedVariables false
theorem insert_perm {H : Type} (x : Lit × DataW H) : ∀ l : List (Lit × DataW H), (DataW.insert x l).Perm (x :: l)
  | [] => List.Perm.refl _
  | y :: r => by
    unfold DataW.insert
    split
    · exact List.Perm.refl _
    · exact ((insert_perm x r).cons y).trans (List.Perm.swap x y r)
theorem foldr_insert_perm {H : Type} : ∀ l : List (Lit × DataW H), (l.foldr DataW.insert []).Perm l
  | [] => List.Perm.refl _
  | x :: l => (insert_perm x _).trans ((foldr_insert_perm l).cons x)
theorem ext_below {w w' : World} (h : Go.RowKit.Below w.heap.size w w') : Ext w w' := ⟨h.size, h.block, h.os, h.output⟩
end Go.Pl
namespace Go.Pl.Try
open M Go.Proofs Go.RowKit Go.Maps Go.Sort Go.Shelf
set_option linter.unusedVariables false
theorem sorts_first (m : Nat) : AnyZI.SortsIn Go.Proofs.Try.prog Go.Proofs.Try.sortedA_ren Fence.wide m :=
  ⟨fun blk off cap ss W hH hblk hsz => callsIn_wide.2 (AnyM.slices_Sort_int Go.Proofs.Try.sortA blk off cap ss W hH hblk hsz),
   fun p cap W => callsIn_wide.2 (AnyM.slices_Sort_int_none Go.Proofs.Try.sortA p cap W)⟩
theorem uBool : Pg.underlying 4 = some .bool := by kernel_rfl
theorem owns_trues {w : World} {mb : Nat} {ob : Obj} {ks : List Int} (hob : w.heap[mb]? = some ob) (hmp : MpO (trues ks) ob) (hwf : ∀ k ∈ ks, (Lit.int .i64 k).wf = true) (hl : ks.length ≤ 4294967296) :
    ∃ D : DataW Unit, w.ownsMap Go.Proofs.Try.prog 3 (plainElem Go.Proofs.Try.prog 4) mb ks.length D ∧ (intKeys D).Perm ks := by
  obtain ⟨es, clock, rfl, he, hnd, hbn, hcl⟩ := hmp
  have hlen : es.toList.length = ks.length := by simpa [trues] using congrArg List.length he
  have hent : ∀ x ∈ es.toList, ∃ k ∈ ks, x.key = .int .i64 k ∧ x.val = .bool true := by
    intro x hx
    have : ((x.key, x.val) : Value × Value) ∈ (trues ks).map fun p => (Value.int .i64 p.1, p.2) := by rw [← he]; exact List.mem_map.2 ⟨x, hx, rfl⟩
    obtain ⟨q, hq, hqe⟩ := List.mem_map.1 this
    obtain ⟨k, hk, rfl⟩ := List.mem_map.1 hq
    simp only [Prod.mk.injEq] at hqe
    exact ⟨k, hk, hqe.1.symm, hqe.2.symm⟩
  have hrd : ∀ x ∈ es.toList, ∃ k ∈ ks, x.key = .int .i64 k ∧ Go.WideElems.rd Go.Proofs.Try.prog 3 (plainElem (H := Unit) Go.Proofs.Try.prog 4) x = some (.int .i64 k, .lit (.bool true)) := by
    intro x hx
    obtain ⟨k, hk, hkey, hval⟩ := hent x hx
    refine ⟨k, hk, hkey, ?_⟩
    have h1 : keyOf Go.Proofs.Try.prog 3 x.key = some (.int .i64 k) := by rw [hkey]; exact Maps.keyOf_int_mk uInt (hwf k hk)
    have h2 : plainElem (H := Unit) Go.Proofs.Try.prog 4 x.val = some (.lit (.bool true), []) := by
      rw [hval]; exact plainElem_bool uBool true
    simp [Go.WideElems.rd, h1, h2]
  have hkeys : es.toList.map (·.key) = ks.map (Value.int .i64) := by
    have := congrArg (List.map Prod.fst) he
    simpa [trues, Function.comp_def] using this
  have hksn : ks.Nodup := by simpa [trues, Function.comp_def] using hnd
  refine ⟨_, ⟨es, clock, hob, ⟨by rw [← Array.length_toList, hlen]; simp only [maxLen]; omega, ⟨hcl, hbn, ?_⟩, fun x hx => ?_⟩, by rw [← Array.length_toList, hlen]; exact Nat.le_refl _, rfl⟩, ?_⟩
  · show (es.toList.map (·.key)).Nodup
    rw [hkeys]
    exact List.pairwise_map.2 (hksn.imp fun {a b} hne e => hne (by cases e; rfl))
  · obtain ⟨k, _, _, h⟩ := hrd x hx
    exact ⟨_, h⟩
  · unfold intKeys
    have hp := (foldr_insert_perm (es.toList.map (Go.WideElems.rg Go.Proofs.Try.prog 3 (plainElem (H := Unit) Go.Proofs.Try.prog 4)))).map fun p => Go.intOf p.1
    refine hp.trans ?_
    rw [List.map_map]
    have : es.toList.map ((fun p => Go.intOf p.1) ∘ Go.WideElems.rg Go.Proofs.Try.prog 3 (plainElem (H := Unit) Go.Proofs.Try.prog 4)) = ks := by
      have h2 : es.toList.map ((fun p => Go.intOf p.1) ∘ Go.WideElems.rg Go.Proofs.Try.prog 3 (plainElem (H := Unit) Go.Proofs.Try.prog 4)) = (es.toList.map (·.key)).map fun v => match v with | .int _ a => a | _ => 0 := by
        rw [List.map_map]
        refine List.map_congr_left fun x hx => ?_
        obtain ⟨k, _, hkey, h⟩ := hrd x hx
        simp only [Function.comp]
        rw [Go.WideElems.rg_of h, hkey]
        rfl
      rw [h2, hkeys, List.map_map]
      simp [Function.comp_def]
    rw [this]
theorem sorted_keys {w : World} {mb : Nat} {ob : Obj} {ks : List Int} (hob : w.heap[mb]? = some ob) (hmp : MpO (trues ks) ob) (hwf : ∀ k ∈ ks, (Lit.int .i64 k).wf = true) (hl : ks.length ≤ 4294967296) :
    CallP Pg 44 [.map (some mb)] w fun v w' => Ext w w' ∧ CallP Pg 43 [v] w' fun u w2 => ∃ a c l, u = .slice a l.length c ∧ l.Perm ks ∧ l.Pairwise (· ≤ ·) ∧ RdI w2 a l.length l ∧ Ext w' w2 := by
  obtain ⟨D, hown, hperm⟩ := owns_trues hob hmp hwf hl
  have hsz := hown.size_le
  have hbl := (Array.getElem?_eq_some_iff.1 hob).1
  have hseq : SeqGives Fence.wide 2 Go.Proofs.Try.prog 75 #[.pointer (some ⟨w.heap.size, 0, none⟩)] encZ (fun ss => ss.Perm (intKeys D)) (Maps.size D) (w.alloc (.cells #[.map (some mb)] 56)) :=
    AnyZI.keys_gives (ρ := Go.Proofs.Try.keysA_ren) { Go.Proofs.Try.keysA with } Fence.wide _ trivial rfl (by omega) w.heap.size mb ks.length D _ (by simp) (by simp) (by
      obtain ⟨es, clock, hb, Ft, hs, hD⟩ := hown
      exact ⟨es, clock, (Below.heap_alloc _ _ mb hbl).trans hb, Ft, hs, hD⟩)
  have cK : CallsIn Fence.wide 5 Go.Proofs.Try.prog 44 #[.map (some mb)] w fun e w' => e = .returned (.func (.func 75) #[] #[.pointer (some ⟨w.heap.size, 0, none⟩)]) ∧ w' = w.alloc (.cells #[.map (some mb)] 56) := AnyZI.keys_in Go.Proofs.Try.keysA Fence.wide 5 trivial rfl (some mb) w
  have cS := AnyZI.sorted_in Go.Proofs.Try.sortedA Fence.wide 5 trivial trivial trivial trivial rfl (by omega) (sorts_first _) (enters_of Go.Proofs.Try.func74 (by kernel_rfl) rfl) 75 #[.pointer (some ⟨w.heap.size, 0, none⟩)] trivial (enters_of Go.Proofs.Try.func75 (by kernel_rfl) rfl) _ _ (by simp only [maxLen]; omega) (by omega) _ hseq
  change CallsIn _ _ Go.Proofs.Try.prog 43 _ _ _ at cS
  refine Calls.mono (callsIn_wide.1 cK) ?_
  rintro e w' ⟨rfl, rfl⟩
  refine ⟨_, rfl, ext_alloc _ _, Calls.mono (callsIn_wide.1 cS) ?_⟩
  rintro e w2 ⟨v, ss, rfl, hss, hrow, hnil, hb⟩
  refine ⟨v, rfl, ?_⟩
  have hps := (List.mergeSort_perm ss (fun x y => decide (x ≤ y))).trans (hss.trans hperm)
  have hsorted : (ss.mergeSort (fun x y => decide (x ≤ y))).Pairwise (· ≤ ·) := by
    have := List.pairwise_mergeSort (le := fun (x y : Int) => decide (x ≤ y)) (fun a b c h1 h2 => by simp only [decide_eq_true_eq] at *; exact Int.le_trans h1 h2) (fun a b => by simp only [Bool.or_eq_true, decide_eq_true_eq]; exact Int.le_total a b) ss
    exact this.imp fun h => by simpa using h
  obtain ⟨l, hl2⟩ : ∃ l, l = ss.mergeSort (fun x y => decide (x ≤ y)) := ⟨_, rfl⟩
  have hll : ss.length = l.length := by rw [hl2]; simp
  rw [← hl2] at hps hsorted hrow
  rw [hll] at hrow
  have hext := ext_below hb
  obtain ⟨hlen, ⟨rfl, h0⟩ | ⟨g, cap, cur, rfl, hge, hcel, hnc, hcm, hcs, htk⟩⟩ := hrow
  · have : l = [] := List.eq_nil_of_length_eq_zero h0
    subst this
    exact ⟨none, 0, [], rfl, hps, hsorted, RdS.nil _ _ _ _, hext⟩
  · refine ⟨_, cap, l, rfl, hps, hsorted, ⟨rfl, Nat.le_trans hnc hcm, fun i x hi => ⟨g, 0, [.int .i64 x], rfl, fun k v hk => ?_, rfl, rfl⟩⟩, hext⟩
    cases k with
    | zero =>
      cases hk
      have hil := (List.getElem?_eq_some_iff.1 hi).1
      have h1 : (cur.toList.take (l.length * 1))[i]? = some (.int .i64 x) := by rw [htk]; simp [encZ, hi]
      rw [List.getElem?_take] at h1
      split at h1
      · refine cel_of (vs := cur.toList) (e := 3) (fr := (0, 0)) ?_ (by rw [show 0 + i * 1 + 0 = i by omega]; exact h1)
        exact hcel
      · cases h1
    | succ k => simp at hk
theorem values_w {w : World} {us : List Value} {nf : Nat} {cut : Nat → List Int} {gs : List Plc} {wt : Int} (h : RPlan w us nf cut gs wt) {k : Nat} (hk : k < nf) (hwf : ∀ x ∈ cut k, (Lit.int .i64 x).wf = true) (hl : (cut k).length ≤ 4294967296) :
    CallP Pg 21 [.agg ⟨us⟩, .int .i64 k] w fun u w' => ∃ a c l, u = .slice a l.length c ∧ l.Perm (cut k) ∧ l.Pairwise (· ≤ ·) ∧ RdI w' a l.length l ∧ Ext w w' := by
  obtain ⟨ac, cc, ag, ng, cg, rfl, hc, hg⟩ := h
  obtain ⟨b, o, mb, ob, ha, hcel, hob, hmp⟩ := hc k hk
  refine F21_ok _ _ _ _ _ _ _ _ ?_
  unfold F21
  refine alp (Hp.refl w) fun b5 w6 h6 => ?_
  intro K7 hK7 K19 hK19
  refine sp_dec (fun h0 => by omega) (fun _ => ⟨_, _, _, h6.cl 0 rfl rfl, sp_dec (fun h1 => by omega) (fun _ => hK7 _ ?_)⟩)
  refine ⟨_, _, _, h6.cl 0 rfl rfl, by omega, by omega, ptAt_of ha ⟨_, h6.ext.cel (by simpa using hcel), ?_⟩⟩
  refine (sorted_keys (by rw [h6.ext.blk mb (Array.getElem?_eq_some_iff.1 hob).1]; exact hob) hmp hwf hl).mono ?_
  rintro v w14 ⟨hx14, hs⟩
  refine ⟨_, rfl, hs.mono ?_⟩
  rintro u w17 ⟨a, c, l, rfl, hp, hs, hr, hx⟩
  exact ⟨_, _, _, rfl, a, c, l, rfl, hp, hs, hr, h6.ext.trans (hx14.trans hx)⟩
/-- How many fences there are. -/
def fenceSum (cut : Nat → List Int) : Nat → Nat
  | 0 => 0
  | k + 1 => fenceSum cut k + (cut k).length
theorem fenceSum_le {cut : Nat → List Int} {m : Nat} : ∀ {n : Nat}, (∀ k, k < n → (cut k).length ≤ m) → fenceSum cut n ≤ n * m
  | 0, _ => by simp [fenceSum]
  | n + 1, h => by
    have := fenceSum_le (cut := cut) (m := m) (n := n) fun k hk => h k (by omega)
    have := h n (by omega)
    rw [fenceSum, Nat.add_one_mul]; omega
theorem fences_w {w : World} {us : List Value} {nf : Nat} {cut : Nat → List Int} {gs : List Plc} {wt : Int} (h : RPlan w us nf cut gs wt) (hnf : nf ≤ 1024) (hl : ∀ k, k < nf → (cut k).length ≤ 1048576) (hgl : gs.length ≤ 4398046511104) :
    CallP Pg 8 [.agg ⟨us⟩] w fun u w' => u = .int .i64 ((gs.length + fenceSum cut nf : Nat) : Int) ∧ Ext w w' := by
  obtain ⟨ac, cc, ag, ng, cg, rfl, hc, hg⟩ := h
  have hgn := hg.len
  refine F8_ok _ _ _ _ _ _ _ ?_
  unfold F8
  refine alp (Hp.refl w) fun b4 w5 h5 => ⟨_, _, _, h5.cl 0 rfl rfl, _, _, _, h5.cl 0 rfl rfl, ?_⟩
  refine ⟨fun n i w' m => w' = w5 ∧ ∃ j : Nat, i = j ∧ j ≤ nf ∧ m = nf - j ∧ n = ((gs.length + fenceSum cut j : Nat) : Int), ⟨nf, rfl, 0, rfl, by omega, by omega, by simp [fenceSum, hgn]⟩, ?_⟩
  rintro n i w11 m ⟨rfl, j, rfl, hj, rfl, rfl⟩
  refine sp_dec (fun hlt => ?_) (fun hge => ?_)
  · obtain ⟨b, o, mb, ob, ha, hcel, hob, hmp⟩ := hc j (by omega)
    have hb1 := fenceSum_le (cut := cut) (n := j) fun k hk => hl k (by omega)
    have hb2 := hl j (by omega)
    have hb3 : j * 1048576 ≤ 1024 * 1048576 := Nat.mul_le_mul_right _ (by omega)
    have hlen := mlen_run (ty := 3) mpCut hmp (w := w11) (by rw [h5.ext.blk mb (Array.getElem?_eq_some_iff.1 hob).1]; exact hob)
    refine ⟨by omega, by omega, ptAt_of ha ⟨_, h5.ext.cel (by simpa using hcel), _, hlen, nf - (j + 1), by omega, rfl, j + 1, wrap_succ (by simp only [maxLen]; omega), by omega, rfl, ?_⟩⟩
    have htl : (trues (cut j)).length = (cut j).length := by simp [trues]
    rw [htl, wrap_in (by omega) (by omega), fenceSum]
    omega
  · have hjn : j = nf := by omega
    subst hjn
    exact ⟨rfl, h5.ext⟩
end Go.Pl.Try

/- Programs that are right have graphs that end. -/
namespace Go.Pl.Try
open M
set_option linter.unusedVariables false
theorem Fnc.gr_end (f : Fnc) (hl : f.Lim) : GEnd f.blocks.length f.gr := by
  obtain ⟨h1, h2, h3, h4, h5⟩ := f.gr_facts hl
  have hb := hl.blocks
  simp only [lim] at hb
  refine ⟨?_, fun xs hx => ?_, ⟨_, by have := f.gr.doms_go; rw [h1] at this; exact this⟩, fun top b _ _ _ => ?_⟩
  · have := grBlks_ok f.blocks.length f.blocks 0 (List.replicate f.blocks.length [], List.replicate f.blocks.length []) (by omega) (fun l hl => by rw [List.eq_of_mem_replicate hl]; simp)
    exact this
  · have := h5 xs hx
    simp only [lim] at this
    omega
  · have hg := f.gr.loop_go top b
    rw [h1] at hg
    refine ⟨_, ?_, hg⟩
    have hs : ∀ (ls : List (List Int)) (m : Nat), (∀ l ∈ ls, l.length ≤ m) → (ls.map List.length).sum ≤ ls.length * m := by
      intro ls m
      induction ls with
      | nil => intro _; simp
      | cons a ls ih =>
        intro h
        have h6 := h a (by simp)
        have h7 := ih fun l hl => h l (by simp [hl])
        simp only [List.map_cons, List.sum_cons, List.length_cons, Nat.add_one_mul]
        omega
    have h8 := hs f.gr.ins (lim * lim) h5
    have h9 : f.gr.ins.length * (lim * lim) ≤ 1024 * (lim * lim) := Nat.mul_le_mul_right _ (by omega)
    simp only [lim] at h8 h9
    omega
theorem sane_of {p : Prg} (hl : p.Lim) (hc : p.check = true) : Sane p := by
  refine ⟨hl, fun f hf b hb => ?_, fun f hf => Fnc.gr_end f (hl.each f hf)⟩
  obtain ⟨k, hk⟩ := List.mem_iff_getElem?.1 hf
  exact ((prog_facts hc hk).1 b hb).2.1
end Go.Pl.Try

/- What 'palings/harden.Net' does, read off its translation by gen.py. -/
namespace Go.Pl.Try
set_option linter.unusedVariables false
set_option maxRecDepth 100000
def F10 (ap1 : Option Addr) (np1 cp1 : Nat) (ap2 : Option Addr) (np2 cp2 : Nat) (p3 : Int) (fn4 : Int) (w : World) (R : Value → World → Prop) : Prop :=
  AlP 32 [.slice ap1 np1 cp1, .slice ap2 np2 cp2, .int .i64 p3] w fun b5 w6 =>
  AlP 62 [.slice none 0 0, .slice none 0 0, .slice none 0 0, .slice none 0 0] w6 fun b7 w8 =>
  ∃ (ax9 : Option Addr) (nx9 cx9 : Nat) (ax10 : Option Addr) (nx10 cx10 : Nat) (x11 : Int), Row w8 b5 0 [.slice ax9 nx9 cx9, .slice ax10 nx10 cx10, .int .i64 x11] ∧
  CallP Pg 12 [.agg ⟨[.slice ax9 nx9 cx9, .slice ax10 nx10 cx10, .int .i64 x11]⟩, .slice none 0 0] w8 fun v12 w13 => ∃ (ax14 : Option Addr) (nx14 cx14 : Nat) (ax15 : Option Addr) (nx15 cx15 : Nat) (ax16 : Option Addr) (nx16 cx16 : Nat) (ax17 : Option Addr) (nx17 cx17 : Nat) (x18 : Int), v12 = .tuple ⟨[.agg ⟨[.slice ax14 nx14 cx14, .slice ax15 nx15 cx15, .slice ax16 nx16 cx16, .slice ax17 nx17 cx17]⟩, .int .i64 x18]⟩ ∧
  AlP 69 [.slice none 0 0, .slice none 0 0, .slice none 0 0, .slice none 0 0] w13 fun b19 w20 =>
  StP b19 0 [.slice ax14 nx14 cx14, .slice ax15 nx15 cx15, .slice ax16 nx16 cx16, .slice ax17 nx17 cx17] w20 fun w21 =>
  ∀ K22 : World → Prop, (∀ w23, (
  ∃ X24 : Nat → Prop,
  ¬ X24 b5 ∧
  ∃ (ax25 : Option Addr) (nx25 cx25 : Nat) (ax26 : Option Addr) (nx26 cx26 : Nat) (x27 : Int), Row w23.drew b5 0 [.slice ax25 nx25 cx25, .slice ax26 nx26 cx26, .int .i64 x27] ∧
  ¬ X24 b19 ∧
  ∃ (ax28 : Option Addr) (nx28 cx28 : Nat) (ax29 : Option Addr) (nx29 cx29 : Nat) (ax30 : Option Addr) (nx30 cx30 : Nat) (ax31 : Option Addr) (nx31 cx31 : Nat), Row w23.drew b19 0 [.slice ax28 nx28 cx28, .slice ax29 nx29 cx29, .slice ax30 nx30 cx30, .slice ax31 nx31 cx31] ∧
  ¬ X24 b5 ∧
  ∃ (ax32 : Option Addr) (nx32 cx32 : Nat) (ax33 : Option Addr) (nx33 cx33 : Nat) (x34 : Int), Row w23.drew b5 0 [.slice ax32 nx32 cx32, .slice ax33 nx33 cx33, .int .i64 x34] ∧
  ¬ X24 b19 ∧
  ∃ (ax35 : Option Addr) (nx35 cx35 : Nat) (ax36 : Option Addr) (nx36 cx36 : Nat) (ax37 : Option Addr) (nx37 cx37 : Nat) (ax38 : Option Addr) (nx38 cx38 : Nat), Row w23.drew b19 0 [.slice ax35 nx35 cx35, .slice ax36 nx36 cx36, .slice ax37 nx37 cx37, .slice ax38 nx38 cx38] ∧
  CallP Pg 22 [.agg ⟨[.slice ax32 nx32 cx32, .slice ax33 nx33 cx33, .int .i64 x34]⟩, .agg ⟨[.slice ax35 nx35 cx35, .slice ax36 nx36 cx36, .slice ax37 nx37 cx37, .slice ax38 nx38 cx38]⟩] w23.drew fun v39 w40 => ∃ (ax41 : Option Addr) (nx41 cx41 : Nat), v39 = .slice ax41 nx41 cx41 ∧
  ExtX X24 w23.drew w40 ∧
  CallP Pg 23 [.agg ⟨[.slice ax25 nx25 cx25, .slice ax26 nx26 cx26, .int .i64 x27]⟩, .int .i64 fn4, .agg ⟨[.slice ax28 nx28 cx28, .slice ax29 nx29 cx29, .slice ax30 nx30 cx30, .slice ax31 nx31 cx31]⟩, .slice ax41 nx41 cx41] w40 fun v42 w43 => ∃ (x44 : Option Addr), v42 = .pointer x44 ∧
  ∃ X45 : Nat → Prop,
  ptAt x44 fun b46 o47 =>
  ¬ X45 b46 ∧
  ∃ (ax48 : Option Addr) (nx48 cx48 : Nat) (ax49 : Option Addr) (nx49 cx49 : Nat) (ax50 : Option Addr) (nx50 cx50 : Nat) (ax51 : Option Addr) (nx51 cx51 : Nat), Row w43.drew b46 o47 [.slice ax48 nx48 cx48, .slice ax49 nx49 cx49, .slice ax50 nx50 cx50, .slice ax51 nx51 cx51] ∧
  ptAt x44 fun b52 o53 =>
  ¬ X45 b52 ∧
  ∃ (ax54 : Option Addr) (nx54 cx54 : Nat), cel w43.drew b52 (o53 + 4) = some (.slice ax54 nx54 cx54) ∧
  StP b7 0 [.slice ax48 nx48 cx48, .slice ax49 nx49 cx49, .slice ax50 nx50 cx50, .slice ax51 nx51 cx51] w43.drew fun w55 =>
  ExtX X45 w43.drew w55 ∧
  ∃ (ax56 : Option Addr) (nx56 cx56 : Nat) (ax57 : Option Addr) (nx57 cx57 : Nat) (ax58 : Option Addr) (nx58 cx58 : Nat) (ax59 : Option Addr) (nx59 cx59 : Nat), Row w55 b7 0 [.slice ax56 nx56 cx56, .slice ax57 nx57 cx57, .slice ax58 nx58 cx58, .slice ax59 nx59 cx59] ∧
  R (.tuple ⟨[.agg ⟨[.slice ax56 nx56 cx56, .slice ax57 nx57 cx57, .slice ax58 nx58 cx58, .slice ax59 nx59 cx59]⟩, .slice ax54 nx54 cx54, .int .i64 0]⟩) w55) → K22 w23) →
  ∀ K60 : World → Prop, (∀ w61, (
  StP b7 0 [.slice none 0 0, .slice none 0 0, .slice none 0 0, .slice none 0 0] w61 fun w62 =>
  ∃ (ax63 : Option Addr) (nx63 cx63 : Nat) (ax64 : Option Addr) (nx64 cx64 : Nat) (ax65 : Option Addr) (nx65 cx65 : Nat) (ax66 : Option Addr) (nx66 cx66 : Nat), Row w62 b7 0 [.slice ax63 nx63 cx63, .slice ax64 nx64 cx64, .slice ax65 nx65 cx65, .slice ax66 nx66 cx66] ∧
  R (.tuple ⟨[.agg ⟨[.slice ax63 nx63 cx63, .slice ax64 nx64 cx64, .slice ax65 nx65 cx65, .slice ax66 nx66 cx66]⟩, .slice none 0 0, .int .i64 40]⟩) w62) → K60 w61) →
  sp (!decide ((x18 : Int) = 0))
  (K60 w21)
  (sp (decide ((fn4 : Int) < 0))
  (K60 w21)
  (∃ (ax67 : Option Addr) (nx67 cx67 : Nat), cel w21 b5 1 = some (.slice ax67 nx67 cx67) ∧
  sp (decide (((nx67 : Nat) : Int) ≤ fn4))
  (K60 w21)
  (K22 w21)))
def T10 : List Sh := [.v (.agg [.sl, .sl, (.int .i64)]), .v (.one (.int .i64)), .v (.one .ptr), .v (.one .any), .t [(.agg [.sl, .sl, .sl, .sl])], .v (.one .sl), .v (.one (.int .i64)), .v (.one .ptr), .v (.one (.int .i64)), .v (.one .ptr), .t [(.agg [.sl, .sl, .sl, .sl]), (.one (.int .i64))], .v (.agg [.sl, .sl, (.int .i64)]), .t [(.agg [.sl, .sl, .sl, .sl]), (.one (.int .i64))], .v (.agg [.sl, .sl, .sl, .sl]), .v (.one (.int .i64)), .v (.one (.int .i64)), .v (.one .bool), .v (.one .bool), .v (.one (.int .i64)), .v (.one .bool), .v (.one .bool), .v (.one .bool), .v (.one (.int .i64)), .v (.one .ptr), .v (.one .sl), .v (.one (.int .i64)), .v (.one .bool), .v (.one .bool), .v (.agg [.sl, .sl, .sl, .sl]), .v (.agg [.sl, .sl, (.int .i64)]), .v (.one (.int .i64)), .v (.agg [.sl, .sl, .sl, .sl]), .v (.agg [.sl, .sl, (.int .i64)]), .v (.agg [.sl, .sl, .sl, .sl]), .v (.one .sl), .v (.one .ptr), .v (.one .ptr), .v (.one .ptr), .v (.one .ptr), .v (.agg [.sl, .sl, .sl, .sl]), .v (.one .ptr), .v (.one .ptr), .v (.one .ptr), .v (.one .sl)]
def A10 : Ann := (.seq none .z (.seq none .z (.seq (some []) (.ifs (some []) none (.seq none .z .z) .z) (.seq none (.drt true [1, 0, 1, 1, 1, 2, 3, 0] (.op 0 (.op 1 (.op 2 (.op 3 (.op 4 (.op 5 (.op 6 (.op 7 .nil))))))))) (.seq none (.drt true [0, 0, 0, 1, 0, 0, 0, 1, 2, 0, 0] (.op 0 (.op 1 (.op 2 (.op 3 (.op 4 (.op 5 (.op 6 (.op 7 (.op 8 (.op 9 (.op 10 .nil)))))))))))) .z)))))
theorem F10_eq (ap1 : Option Addr) (np1 cp1 : Nat) (ap2 : Option Addr) (np2 cp2 : Nat) (p3 : Int) (fn4 : Int) (w : World) (R : Value → World → Prop) : F10 ap1 np1 cp1 ap2 np2 cp2 p3 fn4 w R = denF Go.Proofs.Try.prog T10 Go.Proofs.Try.f10 A10 [.agg ⟨[.slice ap1 np1 cp1, .slice ap2 np2 cp2, .int .i64 p3]⟩, .int .i64 fn4] w R := by kernel_rfl
theorem F10_ok (ap1 : Option Addr) (np1 cp1 : Nat) (ap2 : Option Addr) (np2 cp2 : Nat) (p3 : Int) (fn4 : Int) {w : World} {R : Value → World → Prop} (h : F10 ap1 np1 cp1 ap2 np2 cp2 p3 fn4 w R) : CallP Go.Proofs.Try.prog 10 [.agg ⟨[.slice ap1 np1 cp1, .slice ap2 np2 cp2, .int .i64 p3]⟩, .int .i64 fn4] w R :=
  calls_den (fun _ => drawn (by kernel_rfl)) Go.Proofs.Try.func10 (Nat.le_of_ble_eq_true (by kernel_rfl)) ((F10_eq ap1 np1 cp1 ap2 np2 cp2 p3 fn4 w R).mp h)
end Go.Pl.Try

/- The hazards of a function as a net: walked. -/
namespace Go.Pl.Try
open M
set_option linter.unusedVariables false
theorem cutV_no {w : World} {p : Prg} : CutV w none 0 p.funcs.length p.noCut := by
  refine ⟨by simp [Prg.noCut], fun f hf => ⟨fun h => by omega, fun _ k => ?_⟩⟩
  unfold cutAt Prg.noCut
  rw [List.getD_eq_getElem?_getD, List.getElem?_replicate, if_pos hf]; rfl
structure NetPost (w : World) (p : Prg) (fn : Int) (S1 : TS) (u : Value) (w' : World) : Prop where
  ext : Ext w w'
  bad : ¬ (p.check = true ∧ 0 ≤ fn ∧ fn < (p.funcs.length : Nat)) → u = .tuple ⟨[.agg ⟨[.slice none 0 0, .slice none 0 0, .slice none 0 0, .slice none 0 0]⟩, .slice none 0 0, .int .i64 40]⟩
  good : p.check = true → 0 ≤ fn → fn < (p.funcs.length : Nat) → ∃ us a n c, u = .tuple ⟨[.agg ⟨us⟩, .slice a n c, .int .i64 0]⟩ ∧ RNet w' us (p.hz S1 fn.toNat).net ∧ RdI w' a n (p.hz S1 fn.toNat).vals
theorem net_w {w : World} {p : Prg} {vs : List Value} (h : RProg w vs p) (hl : p.Lim) (fn : Int) {S1 : TS} (hgo : p.check = true → ∃ k, TS.go p p.noCut p.writes k p.start = some S1) :
    CallP Pg 10 [.agg ⟨vs⟩, .int .i64 fn] w (NetPost w p fn S1) := by
  have hP := h
  obtain ⟨aa, na, ca, af, nf, cf, rfl, harr, hfun⟩ := h
  have hfl := hfun.len
  have hfl' := hl.funcs
  rw [hfl] at hfl'
  simp only [lim] at hfl'
  refine F10_ok _ _ _ _ _ _ _ _ ?_
  unfold F10
  refine alp (Hp.refl w) fun b5 w6 h6 => alp h6 fun b7 w8 h8 => ⟨_, _, _, _, _, _, _, h8.row 1 rfl, ?_⟩
  refine (taintOf_w (hP.ext h8.ext) hl (cc := 0) cutV_no (fin := S1) hgo).mono ?_
  rintro v w13 ⟨hx13, hyes, hnot⟩
  have h13 := h8.step hx13
  have bad : ∀ {w1 : World} {L : List (Nat × Obj)} (i : Nat), Hp w w1 L → L[i]? = some (b7, Cl 62 [.slice none 0 0, .slice none 0 0, .slice none 0 0, .slice none 0 0]) → ¬ (p.check = true ∧ 0 ≤ fn ∧ fn < (p.funcs.length : Nat)) →
      StP b7 0 [.slice none 0 0, .slice none 0 0, .slice none 0 0, .slice none 0 0] w1 fun w62 =>
  ∃ (ax63 : Option Addr) (nx63 cx63 : Nat) (ax64 : Option Addr) (nx64 cx64 : Nat) (ax65 : Option Addr) (nx65 cx65 : Nat) (ax66 : Option Addr) (nx66 cx66 : Nat), Row w62 b7 0 [.slice ax63 nx63 cx63, .slice ax64 nx64 cx64, .slice ax65 nx65 cx65, .slice ax66 nx66 cx66] ∧
  NetPost w p fn S1 (.tuple ⟨[.agg ⟨[.slice ax63 nx63 cx63, .slice ax64 nx64 cx64, .slice ax65 nx65 cx65, .slice ax66 nx66 cx66]⟩, .slice none 0 0, .int .i64 40]⟩) w62 := by
    intro w1 L i h1 hi hno
    refine stp h1 i hi (by simp) rfl fun w2 h2 => ⟨_, _, _, _, _, _, _, _, _, _, _, _, h2.row i (by rw [List.getElem?_set_self (List.getElem?_eq_some_iff.1 hi).1]; rfl), ⟨h2.ext, fun _ => rfl, fun a b c => absurd ⟨a, b, c⟩ hno⟩⟩
  rcases Bool.eq_false_or_eq_true p.check with hck | hck
  rotate_left
  · obtain rfl := hnot hck
    refine ⟨_, _, _, _, _, _, _, _, _, _, _, _, _, rfl, ?_⟩
    refine alp h13 fun b19 w20 h20 => ?_
    refine stp h20 0 rfl (by simp) rfl fun w21 h21 => ?_
    intro K22 hK22 K60 hK60
    exact sp_true rfl (hK60 _ (bad 1 h21 rfl (by simp [hck])))
  obtain ⟨av, cv, a2, n2, c2, a3, n3, c3, a4, n4, c4, rfl, hlab⟩ := hyes hck
  have hsane := sane_of hl hck
  refine ⟨_, _, _, _, _, _, _, _, _, _, _, _, _, rfl, ?_⟩
  refine alp (Hp.refl w13) fun b19 w20 h20 => ?_
  refine stp h20 0 rfl (by simp) rfl fun w21 h21 => ?_
  have hlab21 := hlab.ext h21.ext
  have h21 := h13.call h21
  intro K22 hK22 K60 hK60
  refine sp_false rfl ?_
  refine sp_dec (fun hneg => hK60 _ (bad 1 h21 rfl (by omega))) (fun hneg => ⟨_, _, _, h21.cl 2 rfl rfl, sp_dec (fun hge => hK60 _ (bad 1 h21 rfl (by omega))) (fun hge => hK22 _ ?_)⟩)
  obtain ⟨k, rfl⟩ : ∃ k : Nat, fn = k := ⟨fn.toNat, by omega⟩
  obtain ⟨f, hf⟩ := at_some (l := p.funcs) (j := k) (by omega)
  have hd := h21.drew
  refine ⟨fun _ => False, fun h => h, _, _, _, _, _, _, _, hd.row 2 rfl, fun h => h, _, _, _, _, _, _, _, _, _, _, _, _, hd.row 0 rfl, fun h => h, _, _, _, _, _, _, _, hd.row 2 rfl, fun h => h, _, _, _, _, _, _, _, _, _, _, _, _, hd.row 0 rfl, ?_⟩
  refine (sinks_w (hP.ext hd.ext) hl (hlab21.ext (ext_drew _))).mono ?_
  rintro _ w40 ⟨as_, cs, rs, rfl, hss, h40'⟩
  have h40 := hd.call h40'
  have hlab40 := hlab21.ext ((ext_drew _).trans h40'.ext)
  refine ⟨_, _, _, rfl, Ext.x _ h40'.ext, ?_⟩
  obtain ⟨sks, hsks⟩ : ∃ l, l = p.sinks S1 := ⟨_, rfl⟩
  have hsl := Prg.sinks_len S1 hl
  rw [← hsks] at hss h40 hsl ⊢
  clear h40'
  have hsk : RdS 5 RSnk w40 as_ sks.length sks := Sls.rd hss [] h40 rfl fun i x hx => snk_at hx
  obtain ⟨z, hz⟩ : ∃ z, z = p.hz S1 k := ⟨_, rfl⟩
  have hzf : z = hzFn f (S1.get k) p.writes k sks := by rw [hz, Prg.hz, hf, hsks]
  refine (graph_w (hP.ext h40.ext) hsane hf hlab40 hsk hsl).mono ?_
  rintro _ w43 ⟨m, rfl, h43', hokm⟩
  rw [← hzf] at h43' hokm
  have h43 := (h40.call h43').drew
  refine ⟨_, rfl, ?_⟩
  have h43z : Hp w w43.drew ([] ++ HzL m z) := h43.sub (List.sublist_append_left _ _)
  have hbh : ¬ Xf w (HzL m z) m.bh := Xf.mem (p := (m.bh, Cl 98 m.cells)) (by simp [HzL])
  refine ⟨Xf w (HzL m z), ptAt_of rfl ⟨hbh, _, _, _, _, _, _, _, _, _, _, _, _, HzL.row4 h43z, ptAt_of rfl ⟨hbh, _, _, _, HzL.cell h43z (i := 4) rfl, ?_⟩⟩⟩
  refine stp h43 ((HzL m z ++ rs.L 100 (sks.flatMap snkCells)).length + 1) (b := b7) (e := 62) (old := [.slice none 0 0, .slice none 0 0, .slice none 0 0, .slice none 0 0]) (by rw [← List.append_assoc, List.getElem?_append_right (by omega), Nat.add_sub_cancel_left]; rfl) (by simp) rfl fun w55 h55 => ?_
  rw [← List.append_assoc, List.set_append_right _ _ (by omega), Nat.add_sub_cancel_left] at h55
  refine ⟨h43.xf h55 (fun q hq => List.mem_append_left _ hq) (fun q hq => List.mem_append_left _ (List.mem_append_left _ hq)), ?_⟩
  have h55' : Hp w w55 (HzL m z) := h55.sub (by rw [List.append_assoc]; exact List.sublist_append_left _ _)
  obtain ⟨hnet, hvals⟩ := HzL.net (F := []) h55' hokm
  refine ⟨_, _, _, _, _, _, _, _, _, _, _, _, h55.row ((HzL m z ++ rs.L 100 (sks.flatMap snkCells)).length + 1) (by rw [List.getElem?_append_right (by omega), Nat.add_sub_cancel_left]; rfl), ?_⟩
  exact ⟨h55.ext, fun h => absurd ⟨hck, by omega, by omega⟩ h, fun _ _ _ => ⟨_, _, _, _, rfl, by rw [Int.toNat_natCast, ← hz]; exact hnet, by rw [Int.toNat_natCast, ← hz]; exact hvals⟩⟩
end Go.Pl.Try

/- What 'palings/palingslaw14.HardenNets$1' does, read off its translation by gen.py. -/
namespace Go.Pl.Try
set_option linter.unusedVariables false
set_option maxRecDepth 100000
def F18 (a1 : Int) (b2 : Int) (b3 : Nat) (o4 : Nat) (b5 : Nat) (o6 : Nat) (w : World) (R : Value → World → Prop) : Prop :=
  ∃ (x7 : Option Nat), cel w b3 o4 = some (.map x7) ∧
  ∃ (x8 : Int) (x9 : Bool), Sem.run Pg (Instr.lookup 77 (.map x7) (.int .i64 a1) true) w = .ok (.tuple ⟨[.int .i64 x8, .bool x9]⟩) w ∧
  ∃ (x10 : Option Nat), cel w b3 o4 = some (.map x10) ∧
  ∃ (x11 : Int) (x12 : Bool), Sem.run Pg (Instr.lookup 77 (.map x10) (.int .i64 b2) true) w = .ok (.tuple ⟨[.int .i64 x11, .bool x12]⟩) w ∧
  sp x9
  (sp x12
  (∃ (x13 : Option Nat), cel w b5 o6 = some (.map x13) ∧
  ∃ w14 : World, Sem.run Pg (Instr.mapUpdate 82 (.map x13) (.agg ⟨[.int .i64 x8, .int .i64 x11]⟩) (.bool true)) w = .ok () w14 ∧
  R (.tuple ⟨[]⟩) w14)
  (R (.tuple ⟨[]⟩) w))
  (R (.tuple ⟨[]⟩) w)
def T18 : List Sh := [.v (.one (.int .i64)), .v (.one (.int .i64)), .v (.one .ptr), .v (.one .ptr), .v (.one .any), .v (.one .any), .v (.one (.int .i64)), .v (.one .bool), .v (.one (.int .i64)), .v (.one .bool), .t [(.one (.int .i64)), (.one .bool)], .v (.one .map), .v (.one (.int .i64)), .t [(.one (.int .i64)), (.one .bool)], .v (.one (.int .i64)), .v (.one .bool), .t [(.one (.int .i64)), (.one .bool)], .v (.one .map), .v (.one (.int .i64)), .t [(.one (.int .i64)), (.one .bool)], .v (.one (.int .i64)), .v (.one .bool), .v (.one .bool), .v (.one .bool), .v (.one .bool), .v (.one .bool), .v (.one .map), .v (.one (.int .i64)), .v (.one (.int .i64)), .v (.agg [(.int .i64), (.int .i64)])]
def A18 : Ann := (.seq none .z (.seq none .z (.ifs none none .z .z)))
theorem F18_eq (a1 : Int) (b2 : Int) (b3 : Nat) (o4 : Nat) (b5 : Nat) (o6 : Nat) (w : World) (R : Value → World → Prop) : F18 a1 b2 b3 o4 b5 o6 w R = denF Go.Proofs.Try.prog T18 Go.Proofs.Try.f18 A18 [.int .i64 a1, .int .i64 b2, .pointer (some ⟨b3, o4, none⟩), .pointer (some ⟨b5, o6, none⟩)] w R := by kernel_rfl
theorem F18_ok (a1 : Int) (b2 : Int) (b3 : Nat) (o4 : Nat) (b5 : Nat) (o6 : Nat) {w : World} {R : Value → World → Prop} (h : F18 a1 b2 b3 o4 b5 o6 w R) : CallP Go.Proofs.Try.prog 18 [.int .i64 a1, .int .i64 b2, .pointer (some ⟨b3, o4, none⟩), .pointer (some ⟨b5, o6, none⟩)] w R :=
  calls_den (fun _ => drawn (by kernel_rfl)) Go.Proofs.Try.func18 (Nat.le_of_ble_eq_true (by kernel_rfl)) ((F18_eq a1 b2 b3 o4 b5 o6 w R).mp h)
end Go.Pl.Try

/- 'note' within 'HardenNets': walked. -/
namespace Go.Pl.Try
open M
set_option linter.unusedVariables false
theorem mpNt : mpT Go.Proofs.Try.prog 77 3 = true := by kernel_rfl
theorem zNt : zeroOf Go.Proofs.Try.prog 3 = some (.int .i64 0) := by kernel_rfl
abbrev atF (at_ : Int → Option Int) : Int → Option Value := fun k => (at_ k).map (Value.int .i64)
theorem set_same {α : Type} : ∀ {l : List α} {i : Nat} {x : α}, l[i]? = some x → l.set i x = l
  | [], i, x, h => by simp at h
  | a :: l, 0, x, h => by simp at h; simp [h]
  | a :: l, i + 1, x, h => by simp at h; simp [set_same h]
theorem note_w {w0 w : World} {L : List (Nat × Obj)} {bA bB ba bw tA tB : Nat} {oa ow : Obj} {at_ : Int → Option Int} {ks : List (Int × Int)} (h : Hp w0 w L) (i : Nat) (hi : L[i]? = some (bw, ow)) (hA : (bA, Cl tA [.map (some ba)]) ∈ L) (hB : (bB, Cl tB [.map (some bw)]) ∈ L) (hM : (ba, oa) ∈ L)
    (hat : MapO (atF at_) oa) (hks : MpP ks ow) (hok : ∀ k x, at_ k = some x → -9223372036854775808 ≤ x ∧ x ≤ 9223372036854775807) (a b : Int) :
    CallV Pg (.func (.func 18) ⟨[]⟩ ⟨[.pointer (some ⟨bA, 0, none⟩), .pointer (some ⟨bB, 0, none⟩)]⟩) [.int .i64 a, .int .i64 b] w fun v w' => v = .tuple ⟨[]⟩ ∧ ∃ ow', Hp w0 w' (L.set i (bw, ow')) ∧ MpP (noteW at_ ks a b) ow' := by
  have hcA : cel w bA 0 = some (.map (some ba)) := cel_of (h.own _ hA).2 rfl
  have hcB : cel w bB 0 = some (.map (some bw)) := cel_of (h.own _ hB).2 rfl
  have hR : RMap w (some ba) (atF at_) := ⟨oa, (h.own _ hM).2, hat⟩
  have lk : ∀ k : Int, Sem.run Pg (Instr.lookup 77 (.map (some ba)) (.int .i64 k) true) w = .ok (.tuple ⟨[.int .i64 ((at_ k).getD 0), .bool (at_ k).isSome]⟩) w := by
    intro k
    have := look_map2 mpNt zNt hR k
    refine this.trans ?_
    unfold atF
    cases at_ k <;> rfl
  have hsame : Hp w0 w (L.set i (bw, ow)) := by rw [set_same hi]; exact h
  refine ⟨by kernel_rfl, F18_ok a b bA 0 bB 0 ?_⟩
  refine ⟨_, hcA, _, _, lk a, _, hcA, _, _, lk b, ?_⟩
  cases ha : at_ a with
  | none => exact sp_false rfl ⟨rfl, ow, hsame, by unfold noteW; rw [ha]; exact hks⟩
  | some x =>
    refine sp_true rfl ?_
    cases hb : at_ b with
    | none => exact sp_false rfl ⟨rfl, ow, hsame, by unfold noteW; rw [ha, hb]; exact hks⟩
    | some y =>
      refine sp_true rfl ⟨_, hcB, ?_⟩
      obtain ⟨w', o', hr, hm, h'⟩ := pupd_run h i hi hks (p := (x, y)) ⟨hok _ _ ha, hok _ _ hb⟩
      exact ⟨w', hr, rfl, o', h', by unfold noteW; rw [ha, hb]; exact hm⟩
end Go.Pl.Try

/- What 'palings/palingslaw14.head' does, read off its translation by gen.py. -/
namespace Go.Pl.Try
set_option linter.unusedVariables false
set_option maxRecDepth 100000
def F6  (w : World) (R : Value → World → Prop) : Prop :=
  AlP 25 [.string ⟨#[105]⟩, .int .i64 1, .int .i64 0, .string ⟨#[104]⟩, .int .i64 1, .int .i64 4] w fun b1 w2 =>
  AlP 3 [.int .i64 1] w2 fun b3 w4 =>
  AlP 3 [.int .i64 2] w4 fun b5 w6 =>
  AlP 37 [.int .i64 3, .int .i64 1, .slice none 0 0, .int .i64 0, .int .i64 0, .int .i64 0, .int .i64 0, .int .i64 5, .int .i64 2, .slice (some ⟨b3, 0, none⟩) 1 1, .int .i64 0, .int .i64 0, .int .i64 1, .int .i64 0, .int .i64 5, .int .i64 3, .slice (some ⟨b5, 0, none⟩) 1 1, .int .i64 0, .int .i64 0, .int .i64 1, .int .i64 0] w6 fun b7 w8 =>
  AlP 47 [.slice none 0 0, .slice (some ⟨b7, 0, none⟩) 3 3, .int .i64 3, .int .i64 3, .slice none 0 0, .int .i64 0] w8 fun b9 w10 =>
  AlP 29 [.string ⟨#[]⟩, .slice (some ⟨b9, 0, none⟩) 1 1] w10 fun b11 w12 =>
  AlP 32 [.slice none 0 0, .slice none 0 0, .int .i64 0] w12 fun b13 w14 =>
  StP b13 0 [.slice (some ⟨b1, 0, none⟩) 2 2, .slice (some ⟨b11, 0, none⟩) 1 1, .int .i64 0] w14 fun w15 =>
  ∃ (ax16 : Option Addr) (nx16 cx16 : Nat) (ax17 : Option Addr) (nx17 cx17 : Nat) (x18 : Int), Row w15 b13 0 [.slice ax16 nx16 cx16, .slice ax17 nx17 cx17, .int .i64 x18] ∧
  CallP Pg 7 [.agg ⟨[.slice ax16 nx16 cx16, .slice ax17 nx17 cx17, .int .i64 x18]⟩] w15 fun v19 w20 => ∃ (ax21 : Option Addr) (nx21 cx21 : Nat) (ax22 : Option Addr) (nx22 cx22 : Nat) (x23 : Int) (x24 : Int), v19 = .tuple ⟨[.agg ⟨[.slice ax21 nx21 cx21, .slice ax22 nx22 cx22, .int .i64 x23]⟩, .int .i64 x24]⟩ ∧
  AlP 51 [.slice none 0 0, .slice none 0 0, .int .i64 0] w20 fun b25 w26 =>
  StP b25 0 [.slice ax21 nx21 cx21, .slice ax22 nx22 cx22, .int .i64 x23] w26 fun w27 =>
  sp (decide ((x24 : Int) = 0))
  (∃ (ax28 : Option Addr) (nx28 cx28 : Nat), cel w27 b25 0 = some (.slice ax28 nx28 cx28) ∧
  sp (decide (((nx28 : Nat) : Int) = 1))
  (∃ (ax29 : Option Addr) (nx29 cx29 : Nat) (ax30 : Option Addr) (nx30 cx30 : Nat) (x31 : Int), Row w27 b25 0 [.slice ax29 nx29 cx29, .slice ax30 nx30 cx30, .int .i64 x31] ∧
  CallP Pg 21 [.agg ⟨[.slice ax29 nx29 cx29, .slice ax30 nx30 cx30, .int .i64 x31]⟩, .int .i64 0] w27 fun v32 w33 => ∃ (ax34 : Option Addr) (nx34 cx34 : Nat), v32 = .slice ax34 nx34 cx34 ∧
  sp (decide (((nx34 : Nat) : Int) = 1))
  (∃ (ax35 : Option Addr) (nx35 cx35 : Nat) (ax36 : Option Addr) (nx36 cx36 : Nat) (x37 : Int), Row w33 b25 0 [.slice ax35 nx35 cx35, .slice ax36 nx36 cx36, .int .i64 x37] ∧
  CallP Pg 21 [.agg ⟨[.slice ax35 nx35 cx35, .slice ax36 nx36 cx36, .int .i64 x37]⟩, .int .i64 0] w33 fun v38 w39 => ∃ (ax40 : Option Addr) (nx40 cx40 : Nat), v38 = .slice ax40 nx40 cx40 ∧
  0 ≤ (0 : Int) ∧ (0 : Int) < (nx40 : Nat) ∧
  ptAt ax40 fun b41 o42 =>
  ∃ (x43 : Int), cel w39 b41 o42 = some (.int .i64 x43) ∧
  sp (decide ((x43 : Int) = 2))
  (∃ (ax44 : Option Addr) (nx44 cx44 : Nat), cel w39 b25 1 = some (.slice ax44 nx44 cx44) ∧
  sp (decide (((nx44 : Nat) : Int) = 0))
  (∃ (ax45 : Option Addr) (nx45 cx45 : Nat) (ax46 : Option Addr) (nx46 cx46 : Nat) (x47 : Int), Row w39 b25 0 [.slice ax45 nx45 cx45, .slice ax46 nx46 cx46, .int .i64 x47] ∧
  CallP Pg 8 [.agg ⟨[.slice ax45 nx45 cx45, .slice ax46 nx46 cx46, .int .i64 x47]⟩] w39 fun v48 w49 => ∃ (x50 : Int), v48 = .int .i64 x50 ∧
  R (.bool (decide ((x50 : Int) = 1))) w49)
  (R (.bool false) w39))
  (R (.bool false) w39))
  (R (.bool false) w33))
  (R (.bool false) w27))
  (R (.bool false) w27)
def T6 : List Sh := [.v (.one .bool), .v (.one .ptr), .v (.one .ptr), .v (.one (.int .i64)), .v (.agg [.str, (.int .i64), (.int .i64)]), .v (.agg [.str, (.int .i64), (.int .i64)]), .v (.one .sl), .v (.agg [(.int .i64), (.int .i64), .sl, (.int .i64), (.int .i64), (.int .i64), (.int .i64)]), .v (.one .sl), .v (.agg [(.int .i64), (.int .i64), .sl, (.int .i64), (.int .i64), (.int .i64), (.int .i64)]), .v (.one .sl), .v (.agg [(.int .i64), (.int .i64), .sl, (.int .i64), (.int .i64), (.int .i64), (.int .i64)]), .v (.one .sl), .v (.agg [(.int .i64), (.int .i64), .sl, (.int .i64)]), .v (.agg [.sl, .sl, (.int .i64), (.int .i64), .sl, (.int .i64)]), .v (.one .sl), .v (.agg [.str, .sl]), .v (.one .sl), .v (.agg [.sl, .sl, (.int .i64)]), .t [(.agg [.sl, .sl, (.int .i64)]), (.one (.int .i64))], .v (.agg [.sl, .sl, (.int .i64)]), .t [(.agg [.sl, .sl, (.int .i64)]), (.one (.int .i64))], .v (.agg [.sl, .sl, (.int .i64)]), .v (.one (.int .i64)), .v (.one (.int .i64)), .v (.one .bool), .v (.one .bool), .v (.one .ptr), .v (.one .sl), .v (.one (.int .i64)), .v (.one .bool), .v (.one .bool), .v (.one .bool), .v (.agg [.sl, .sl, (.int .i64)]), .v (.one .sl), .v (.one (.int .i64)), .v (.one .bool), .v (.one .bool), .v (.one .bool), .v (.agg [.sl, .sl, (.int .i64)]), .v (.one .sl), .v (.one .ptr), .v (.one (.int .i64)), .v (.one .bool), .v (.one .bool), .v (.one .bool), .v (.one .ptr), .v (.one .sl), .v (.one (.int .i64)), .v (.one .bool), .v (.one .bool), .v (.one .bool), .v (.agg [.sl, .sl, (.int .i64)]), .v (.one (.int .i64)), .v (.one .bool), .v (.one .bool)]
def A6 : Ann := (.seq none .z (.seq none .z (.seq none .z (.seq none .z .z))))
theorem F6_eq  (w : World) (R : Value → World → Prop) : F6  w R = denF Go.Proofs.Try.prog T6 Go.Proofs.Try.f6 A6 [] w R := by kernel_rfl
theorem F6_ok  {w : World} {R : Value → World → Prop} (h : F6  w R) : CallP Go.Proofs.Try.prog 6 [] w R :=
  calls_den (fun _ => drawn (by kernel_rfl)) Go.Proofs.Try.func6 (Nat.le_of_ble_eq_true (by kernel_rfl)) ((F6_eq  w R).mp h)
end Go.Pl.Try

/- The law's example: walked. -/
namespace Go.Pl
open M
set_option linter.unusedVariables false
theorem rds_block {α : Type} {size : Nat} {R : World → List Value → α → Prop} {w : World} {b : Nat} {e : TypeId} {fr : Nat × Nat} {vs : List Value} {xs : List α} (h : w.heap[b]? = some (.cells ⟨vs⟩ e fr)) (hl : vs.length = xs.length * size) (hm : xs.length ≤ maxLen)
    (hR : ∀ i x, xs[i]? = some x → R w ((vs.drop (i * size)).take size) x) : RdS size R w (some ⟨b, 0, none⟩) xs.length xs := by
  refine ⟨rfl, hm, fun i x hi => ?_⟩
  have hin := (List.getElem?_eq_some_iff.1 hi).1
  have hfit : i * size + size ≤ vs.length := by
    rw [hl]
    have : (i + 1) * size ≤ xs.length * size := Nat.mul_le_mul_right _ hin
    rw [Nat.add_mul, Nat.one_mul] at this
    exact this
  refine ⟨b, 0, _, rfl, fun j v hj => ?_, ?_, hR i x hi⟩
  · rw [List.getElem?_take] at hj
    split at hj
    · rw [List.getElem?_drop] at hj
      exact cel_of h (by rw [show 0 + i * size + j = i * size + j by omega]; exact hj)
    · cases hj
  · rw [List.length_take, List.length_drop]; omega
end Go.Pl
namespace Go.Pl.Try
open M
set_option linter.unusedVariables false
theorem leastRun_of {n : Net} {k : Nat} {fin : Fl} (h : runChk n.all k n.mk' = some fin) : LeastRun n fin := by
  refine ⟨fun f => ∃ k, (runChk n.all k f).isSome, k, ⟨k, by rw [h]; rfl⟩, runChk_go h, ?_⟩
  rintro f ⟨k, hk⟩
  cases k with
  | zero => cases hk
  | succ k =>
    rw [runChk] at hk
    split at hk
    · rename_i hc
      simp only [Bool.and_eq_true, decide_eq_true_eq] at hc
      refine ⟨Fl.ready_of hc.1, hc.2, fun hf => ⟨k, ?_⟩⟩
      rw [if_pos hf] at hk
      exact hk
    · cases hk
theorem ofRun_of {p : Prg} {g : Nat} {cs : List (List Int)} {gs : List Plc} {wt : Int} (h : p.ofChk g = some (cs, gs, wt)) :
    p.Lim ∧ p.check = true ∧ ∃ S1 fl S2, OfRun p S1 fl S2 ∧ (∀ k, k < p.funcs.length → p.cutKeys S1 fl k = cs.getD k []) ∧ places (p.sinks S2) = gs ∧ sumTo (p.cutWt S1 fl) p.funcs.length = wt := by
  unfold Prg.ofChk at h
  split at h
  · rename_i hc
    simp only [Bool.and_eq_true] at hc
    split at h
    · cases h
    · rename_i S1 hS1
      split at h
      · rename_i hall
        simp only [List.all_eq_true, List.mem_range] at hall
        split at h
        · cases h
        · rename_i S2 hS2
          simp only [Option.some.injEq, Prod.mk.injEq] at h
          obtain ⟨rfl, rfl, rfl⟩ := h
          have hnet : ∀ k, k < p.funcs.length → (p.hz S1 k).net.Fit ∧ LeastRun (p.hz S1 k).net (p.flOf S1 g k) := by
            intro k hk
            have h1 := hall k hk
            unfold Prg.flChk at h1
            split at h1
            · rename_i hf
              refine ⟨Net.fit_of hf, ?_⟩
              unfold Prg.flOf Prg.flChk
              rw [if_pos hf]
              cases hr : runChk (p.hz S1 k).net.all g (p.hz S1 k).net.mk' with
              | none => rw [hr] at h1; cases h1
              | some fin => exact leastRun_of hr
            · cases h1
          refine ⟨Prg.lim_of hc.1, hc.2, S1, p.flOf S1 g, S2, ⟨sane_of (Prg.lim_of hc.1) hc.2, ⟨g, hS1⟩, fun k hk => (hnet k hk).1, fun k hk => (hnet k hk).2, ⟨g, hS2⟩⟩, fun k hk => ?_, rfl, rfl⟩
          rw [List.getD_eq_getElem?_getD, List.getElem?_map, List.getElem?_range hk]
          rfl
      · cases h
  · cases h
theorem RCuts.congr {w : World} {a : Option Addr} {n : Nat} {c c' : Nat → List Int} (h : RCuts w a n c) (e : ∀ k, k < n → c k = c' k) : RCuts w a n c' := fun k hk => by rw [← e k hk]; exact h k hk
theorem of_chk_w {w : World} {p : Prg} {vs : List Value} (h : RProg w vs p) {g : Nat} {cs : List (List Int)} {gs : List Plc} {wt : Int} (hc : p.ofChk g = some (cs, gs, wt)) :
    CallP Pg 7 [.agg ⟨vs⟩] w fun u w' => ∃ us, u = .tuple ⟨[.agg ⟨us⟩, .int .i64 0]⟩ ∧ RPlan w' us p.funcs.length (fun k => cs.getD k []) gs wt ∧ Ext w w' := by
  obtain ⟨hl, hck, S1, fl, S2, hrun, h1, h2, h3⟩ := ofRun_of hc
  refine (hof_w h hl (fun _ => hrun)).mono ?_
  rintro u w' ⟨hx, -, hy⟩
  obtain ⟨us, rfl, ac, cc, ag, ng, cg, rfl, hcut, hg⟩ := hy hck
  exact ⟨_, rfl, ⟨ac, cc, ag, ng, cg, by rw [h3], hcut.congr h1, h2 ▸ hg⟩, hx⟩
def headP : Prg := ⟨[⟨⟨#[105]⟩, 1, 0⟩, ⟨⟨#[104]⟩, 1, 4⟩], [⟨⟨#[]⟩, [⟨[], [⟨3, 1, [], 0, 0, 0, 0⟩, ⟨5, 2, [1], 0, 0, 1, 0⟩, ⟨5, 3, [2], 0, 0, 1, 0⟩], ⟨3, 3, [], 0⟩⟩]⟩], 0⟩
theorem head_chk : headP.ofChk 20 = some ([[2]], [], 1) := by decide +kernel
theorem head_w (w : World) : CallP Pg 6 [] w fun v w' => v = .bool true ∧ Ext w w' := by
  refine F6_ok ?_
  unfold F6
  refine alp (Hp.refl w) fun b1 w2 h2 => alp h2 fun b3 w4 h4 => alp h4 fun b5 w6 h6 => alp h6 fun b7 w8 h8 => alp h8 fun b9 w10 h10 => alp h10 fun b11 w12 h12 => alp h12 fun b13 w14 h14 => ?_
  refine stp h14 0 rfl (by simp) rfl fun w15 h15 => ⟨_, _, _, _, _, _, _, h15.row 0 rfl, ?_⟩
  have i1 : RdI w15 (some ⟨b3, 0, none⟩) 1 [1] := rds_block (xs := [1]) (h15.at 5 rfl) rfl (by simp only [List.length_cons, List.length_nil, maxLen]; omega) (fun i x hi => by
    match i, hi with
    | 0, hi => cases hi; rfl
    | i + 1, hi => simp at hi)
  have i2 : RdI w15 (some ⟨b5, 0, none⟩) 1 [2] := rds_block (xs := [2]) (h15.at 4 rfl) rfl (by simp only [List.length_cons, List.length_nil, maxLen]; omega) (fun i x hi => by
    match i, hi with
    | 0, hi => cases hi; rfl
    | i + 1, hi => simp at hi)
  have hP : RProg w15 [.slice (some ⟨b1, 0, none⟩) 2 2, .slice (some ⟨b11, 0, none⟩) 1 1, .int .i64 0] headP := by
    refine ⟨_, _, _, _, _, _, rfl, rds_block (xs := headP.arrs) (h15.at 6 rfl) rfl (by simp only [headP, List.length_cons, List.length_nil, maxLen]; omega) ?_, rds_block (xs := headP.funcs) (h15.at 1 rfl) rfl (by simp only [headP, List.length_cons, List.length_nil, maxLen]; omega) ?_⟩
    · intro i x hi
      match i, hi with
      | 0, hi => cases hi; rfl
      | 1, hi => cases hi; rfl
      | i + 2, hi => simp [headP] at hi
    · intro i x hi
      match i, hi with
      | 0, hi =>
        cases hi
        refine ⟨_, _, _, rfl, rds_block (xs := [_]) (h15.at 2 rfl) rfl (by simp only [List.length_cons, List.length_nil, maxLen]; omega) ?_⟩
        intro i x hi
        match i, hi with
        | 0, hi =>
          cases hi
          refine ⟨_, _, _, _, _, _, _, _, _, rfl, RdS.nil _ _ _ _, rds_block (xs := [_, _, _]) (h15.at 3 rfl) rfl (by simp only [List.length_cons, List.length_nil, maxLen]; omega) ?_, RdS.nil _ _ _ _⟩
          intro i x hi
          match i, hi with
          | 0, hi => cases hi; exact ⟨_, _, _, rfl, RdS.nil _ _ _ _, Nat.le_refl _⟩
          | 1, hi => cases hi; exact ⟨_, _, _, rfl, i1, Nat.le_refl _⟩
          | 2, hi => cases hi; exact ⟨_, _, _, rfl, i2, Nat.le_refl _⟩
          | i + 3, hi => simp at hi
        | i + 1, hi => simp at hi
      | i + 1, hi => simp [headP] at hi
  refine (of_chk_w hP head_chk).mono ?_
  rintro _ w20 ⟨us, rfl, hpl, hx20⟩
  obtain ⟨ac, cc, ag, ng, cg, rfl, hcut, hg⟩ := hpl
  have hgn : ng = 0 := hg.len.symm
  subst hgn
  refine ⟨_, _, _, _, _, _, _, _, rfl, ?_⟩
  refine alp (Hp.refl w20) fun b25 w26 h26 => ?_
  refine stp h26 0 rfl (by simp) rfl fun w27 h27 => sp_true rfl ⟨_, _, _, h27.cl 0 rfl rfl, sp_true rfl ?_⟩
  have hp27 : RPlan w27 [.slice ac 1 cc, .slice ag 0 cg, .int .i64 1] 1 (fun k => ([[2]] : List (List Int)).getD k []) [] 1 := ⟨ac, cc, ag, 0, cg, rfl, RCuts.ext hcut h27.ext, RdPlc.ext hg h27.ext⟩
  refine ⟨_, _, _, _, _, _, _, h27.row 0 rfl, ?_⟩
  refine (values_w hp27 (k := 0) (by omega) (by decide) (by decide)).mono ?_
  rintro _ w33 ⟨a34, c34, l34, rfl, hp34, -, hr34, hx33⟩
  have hl34 : l34 = [2] := List.perm_singleton.1 hp34
  subst hl34
  refine ⟨_, _, _, rfl, sp_true rfl ?_⟩
  have h33 := h27.step hx33
  have hp33 : RPlan w33 [.slice ac 1 cc, .slice ag 0 cg, .int .i64 1] 1 (fun k => ([[2]] : List (List Int)).getD k []) [] 1 := ⟨ac, cc, ag, 0, cg, rfl, RCuts.ext hcut h33.ext, RdPlc.ext hg h33.ext⟩
  refine ⟨_, _, _, _, _, _, _, h33.row 0 rfl, ?_⟩
  refine (values_w hp33 (k := 0) (by omega) (by decide) (by decide)).mono ?_
  rintro _ w39 ⟨a40, c40, l40, rfl, hp40, -, hr40, hx39⟩
  have hl40 : l40 = [2] := List.perm_singleton.1 hp40
  subst hl40
  have h39 := h33.step hx39
  obtain ⟨b41, o41, ha41, hc41⟩ := RdI.at hr40 (i := 0) rfl
  refine ⟨_, _, _, rfl, by omega, by simp, ptAt_of ha41 ⟨2, by simpa using hc41, sp_true rfl ⟨_, _, _, h39.cl 0 rfl rfl, sp_true rfl ?_⟩⟩⟩
  have hp39 : RPlan w39 [.slice ac 1 cc, .slice ag 0 cg, .int .i64 1] 1 (fun k => ([[2]] : List (List Int)).getD k []) [] 1 := ⟨ac, cc, ag, 0, cg, rfl, RCuts.ext hcut h39.ext, RdPlc.ext hg h39.ext⟩
  refine ⟨_, _, _, _, _, _, _, h39.row 0 rfl, ?_⟩
  refine (fences_w hp39 (by omega) (fun k hk => by
    have : k = 0 := by omega
    subst this; decide) (by decide)).mono ?_
  rintro _ w49 ⟨rfl, hx49⟩
  exact ⟨_, rfl, rfl, h15.ext.trans (hx20.trans (h39.ext.trans hx49))⟩
end Go.Pl.Try

/- What 'palings/palingslaw14.HardenNets' does, read off its translation by gen.py. -/
namespace Go.Pl.Try
set_option linter.unusedVariables false
set_option maxRecDepth 100000
def F4 (ax1 : Option Addr) (nx1 cx1 : Nat) (ax2 : Option Addr) (nx2 cx2 : Nat) (x3 : Int) (x4 : Int) (w : World) (R : Value → World → Prop) : Prop :=
  AlP 32 [.slice ax1 nx1 cx1, .slice ax2 nx2 cx2, .int .i64 x3] w fun b5 w6 =>
  CallP Pg 6 [] w6 fun v7 w8 => ∃ (x9 : Bool), v7 = .bool x9 ∧
  sp (!x9)
  (R (.bool false) w8)
  (∃ (ax10 : Option Addr) (nx10 cx10 : Nat) (ax11 : Option Addr) (nx11 cx11 : Nat) (x12 : Int), Row w8 b5 0 [.slice ax10 nx10 cx10, .slice ax11 nx11 cx11, .int .i64 x12] ∧
  CallP Pg 9 [.agg ⟨[.slice ax10 nx10 cx10, .slice ax11 nx11 cx11, .int .i64 x12]⟩] w8 fun v13 w14 => ∃ (x15 : Bool), v13 = .bool x15 ∧
  sp (!x15)
  (R (.bool true) w14)
  (∃ (ax16 : Option Addr) (nx16 cx16 : Nat) (ax17 : Option Addr) (nx17 cx17 : Nat) (x18 : Int), Row w14 b5 0 [.slice ax16 nx16 cx16, .slice ax17 nx17 cx17, .int .i64 x18] ∧
  CallP Pg 10 [.agg ⟨[.slice ax16 nx16 cx16, .slice ax17 nx17 cx17, .int .i64 x18]⟩, .int .i64 x4] w14 fun v19 w20 => ∃ (ax21 : Option Addr) (nx21 cx21 : Nat) (ax22 : Option Addr) (nx22 cx22 : Nat) (ax23 : Option Addr) (nx23 cx23 : Nat) (ax24 : Option Addr) (nx24 cx24 : Nat) (ax25 : Option Addr) (nx25 cx25 : Nat) (x26 : Int), v19 = .tuple ⟨[.agg ⟨[.slice ax21 nx21 cx21, .slice ax22 nx22 cx22, .slice ax23 nx23 cx23, .slice ax24 nx24 cx24]⟩, .slice ax25 nx25 cx25, .int .i64 x26]⟩ ∧
  AlP 62 [.slice none 0 0, .slice none 0 0, .slice none 0 0, .slice none 0 0] w20 fun b27 w28 =>
  StP b27 0 [.slice ax21 nx21 cx21, .slice ax22 nx22 cx22, .slice ax23 nx23 cx23, .slice ax24 nx24 cx24] w28 fun w29 =>
  ∀ K30 : World → Prop, (∀ w31, (
  ∃ (ax32 : Option Addr) (nx32 cx32 : Nat) (ax33 : Option Addr) (nx33 cx33 : Nat) (x34 : Int), Row w31 b5 0 [.slice ax32 nx32 cx32, .slice ax33 nx33 cx33, .int .i64 x34] ∧
  CallP Pg 12 [.agg ⟨[.slice ax32 nx32 cx32, .slice ax33 nx33 cx33, .int .i64 x34]⟩, .slice none 0 0] w31 fun v35 w36 => ∃ (ax37 : Option Addr) (nx37 cx37 : Nat) (ax38 : Option Addr) (nx38 cx38 : Nat) (ax39 : Option Addr) (nx39 cx39 : Nat) (ax40 : Option Addr) (nx40 cx40 : Nat) (x41 : Int), v35 = .tuple ⟨[.agg ⟨[.slice ax37 nx37 cx37, .slice ax38 nx38 cx38, .slice ax39 nx39 cx39, .slice ax40 nx40 cx40]⟩, .int .i64 x41]⟩ ∧
  AlP 69 [.slice none 0 0, .slice none 0 0, .slice none 0 0, .slice none 0 0] w36 fun b42 w43 =>
  StP b42 0 [.slice ax37 nx37 cx37, .slice ax38 nx38 cx38, .slice ax39 nx39 cx39, .slice ax40 nx40 cx40] w43 fun w44 =>
  ∀ K45 : World → Prop, (∀ w46, (
  ∃ (ax47 : Option Addr) (nx47 cx47 : Nat), cel w46 b5 1 = some (.slice ax47 nx47 cx47) ∧
  0 ≤ (x4 : Int) ∧ (x4 : Int) < (nx47 : Nat) ∧
  ptAt ax47 fun b48 o49 =>
  ∃ (x50 : ByteArray) (ax51 : Option Addr) (nx51 cx51 : Nat), Row w46 b48 (o49 + x4.toNat * 2) [.string x50, .slice ax51 nx51 cx51] ∧
  AlP 29 [.string ⟨#[]⟩, .slice none 0 0] w46 fun b52 w53 =>
  StP b52 0 [.string x50, .slice ax51 nx51 cx51] w53 fun w54 =>
  ∃ (x55 : ByteArray) (ax56 : Option Addr) (nx56 cx56 : Nat), Row w54 b52 0 [.string x55, .slice ax56 nx56 cx56] ∧
  CallP Pg 13 [.agg ⟨[.string x55, .slice ax56 nx56 cx56]⟩] w54 fun v57 w58 => ∃ (x59 : Option Addr), v57 = .pointer x59 ∧
  CallP Pg 14 [.pointer x59] w58 fun v60 w61 => ∃ (ax62 : Option Addr) (nx62 cx62 : Nat), v60 = .slice ax62 nx62 cx62 ∧
  ∃ (ax63 : Option Addr) (nx63 cx63 : Nat) (ax64 : Option Addr) (nx64 cx64 : Nat) (x65 : Int), Row w61 b5 0 [.slice ax63 nx63 cx63, .slice ax64 nx64 cx64, .int .i64 x65] ∧
  CallP Pg 15 [.agg ⟨[.slice ax63 nx63 cx63, .slice ax64 nx64 cx64, .int .i64 x65]⟩] w61 fun v66 w67 => ∃ (ax68 : Option Addr) (nx68 cx68 : Nat), v66 = .slice ax68 nx68 cx68 ∧
  AlM w67 fun b69 w70 =>
  AlP 77 [.map none] w70 fun b71 w72 =>
  StP b71 0 [.map (some b69)] w72 fun w73 =>
  AlM w73 fun b74 w75 =>
  ∃ (ax76 : Option Addr) (nx76 cx76 : Nat), cel w75 b52 1 = some (.slice ax76 nx76 cx76) ∧
  ∃ J77 : Int → Int → World → Nat → Prop, (∃ m81, J77 0 0 w75 m81) ∧
  ∀ (x78 : Int) (x79 : Int), ∀ w80 m81, J77 x78 x79 w80 m81 →
  sp (decide ((x79 : Int) < (nx76 : Nat)))
  (∀ K83 : Int → World → Prop, (∀ (x84 : Int), ∀ w85, (
  ∃ m82, m82 < m81 ∧ J77 x84 (IntKind.wrap .i64 (x79 + 1)) w85 m82) → K83 x84 w85) →
  0 ≤ (x79 : Int) ∧ (x79 : Int) < (nx76 : Nat) ∧
  ptAt ax76 fun b86 o87 =>
  ∃ (ax88 : Option Addr) (nx88 cx88 : Nat) (ax89 : Option Addr) (nx89 cx89 : Nat) (x90 : Int) (x91 : Int) (ax92 : Option Addr) (nx92 cx92 : Nat) (x93 : Int), Row w80 b86 (o87 + x79.toNat * 6) [.slice ax88 nx88 cx88, .slice ax89 nx89 cx89, .int .i64 x90, .int .i64 x91, .slice ax92 nx92 cx92, .int .i64 x93] ∧
  AlP 47 [.slice none 0 0, .slice none 0 0, .int .i64 0, .int .i64 0, .slice none 0 0, .int .i64 0] w80 fun b94 w95 =>
  StP b94 0 [.slice ax88 nx88 cx88, .slice ax89 nx89 cx89, .int .i64 x90, .int .i64 x91, .slice ax92 nx92 cx92, .int .i64 x93] w95 fun w96 =>
  ∃ (x97 : ByteArray) (ax98 : Option Addr) (nx98 cx98 : Nat), Row w96 b52 0 [.string x97, .slice ax98 nx98 cx98] ∧
  CallP Pg 16 [.agg ⟨[.string x97, .slice ax98 nx98 cx98]⟩] w96 fun v99 w100 => ∃ (ax101 : Option Addr) (nx101 cx101 : Nat), v99 = .slice ax101 nx101 cx101 ∧
  0 ≤ (x79 : Int) ∧ (x79 : Int) < (nx101 : Nat) ∧
  ptAt ax101 fun b102 o103 =>
  ∃ (x104 : Bool), cel w100 b102 (o103 + x79.toNat * 1) = some (.bool x104) ∧
  sp (!x104)
  (K83 x78 w100)
  (AlP 3 [] w100 fun b105 w106 =>
  ∃ (ax107 : Option Addr) (nx107 cx107 : Nat), cel w106 b94 0 = some (.slice ax107 nx107 cx107) ∧
  ∃ (ax108 : Option Addr) (nx108 cx108 : Nat), ∃ w109 : World, Sem.run Pg (Builtin.append_ #[34, 34] 34 ⟨[.slice (some ⟨b105, 0, none⟩) 0 0, .slice ax107 nx107 cx107]⟩) w106 = .ok (.slice ax108 nx108 cx108) w109 ∧
  ∃ (ax110 : Option Addr) (nx110 cx110 : Nat), cel w109 b94 1 = some (.slice ax110 nx110 cx110) ∧
  ∃ J111 : Option Addr → Nat → Nat → Int → World → Nat → Prop, (∃ m115, J111 ax108 nx108 cx108 0 w109 m115) ∧
  ∀ (ax112 : Option Addr) (nx112 cx112 : Nat) (x113 : Int), ∀ w114 m115, J111 ax112 nx112 cx112 x113 w114 m115 →
  sp (decide ((x113 : Int) < (nx110 : Nat)))
  (∀ K117 : Option Addr → Nat → Nat → World → Prop, (∀ (ax118 : Option Addr) (nx118 cx118 : Nat), ∀ w119, (
  ∃ m116, m116 < m115 ∧ J111 ax118 nx118 cx118 (IntKind.wrap .i64 (x113 + 1)) w119 m116) → K117 ax118 nx118 cx118 w119) →
  0 ≤ (x113 : Int) ∧ (x113 : Int) < (nx110 : Nat) ∧
  ptAt ax110 fun b120 o121 =>
  ∃ (x122 : Int) (x123 : Int) (ax124 : Option Addr) (nx124 cx124 : Nat) (x125 : Int) (x126 : Int) (x127 : Int) (x128 : Int), Row w114 b120 (o121 + x113.toNat * 7) [.int .i64 x122, .int .i64 x123, .slice ax124 nx124 cx124, .int .i64 x125, .int .i64 x126, .int .i64 x127, .int .i64 x128] ∧
  AlP 37 [.int .i64 0, .int .i64 0, .slice none 0 0, .int .i64 0, .int .i64 0, .int .i64 0, .int .i64 0] w114 fun b129 w130 =>
  StP b129 0 [.int .i64 x122, .int .i64 x123, .slice ax124 nx124 cx124, .int .i64 x125, .int .i64 x126, .int .i64 x127, .int .i64 x128] w130 fun w131 =>
  ∃ (x132 : Int), cel w131 b129 1 = some (.int .i64 x132) ∧
  sp (!decide ((x132 : Int) = 0))
  (∃ (x133 : Int), cel w131 b129 1 = some (.int .i64 x133) ∧
  AlP 3 [.int .i64 x133] w131 fun b134 w135 =>
  ∃ (ax136 : Option Addr) (nx136 cx136 : Nat), ∃ w137 : World, Sem.run Pg (Builtin.append_ #[34, 34] 34 ⟨[.slice ax112 nx112 cx112, .slice (some ⟨b134, 0, none⟩) 1 1]⟩) w135 = .ok (.slice ax136 nx136 cx136) w137 ∧
  K117 ax136 nx136 cx136 w137)
  (K117 ax112 nx112 cx112 w131))
  (∃ J138 : Int → Int → World → Nat → Prop, (∃ m142, J138 1 0 w114 m142) ∧
  ∀ (x139 : Int) (x140 : Int), ∀ w141 m142, J138 x139 x140 w141 m142 →
  ∀ K144 : World → Prop, (∀ w145, (
  ∃ m143, m143 < m142 ∧ J138 (IntKind.wrap .i64 (x139 * 10)) (IntKind.wrap .i64 (x140 + 1)) w145 m143) → K144 w145) →
  ∀ K146 : World → Prop, (∀ w147, (
  ∃ J148 : Int → Int → World → Nat → Prop, (∃ m152, J148 x78 0 w147 m152) ∧
  ∀ (x149 : Int) (x150 : Int), ∀ w151 m152, J148 x149 x150 w151 m152 →
  sp (decide ((x150 : Int) < (nx112 : Nat)))
  (∀ K154 : Int → World → Prop, (∀ (x155 : Int), ∀ w156, (
  ∃ m153, m153 < m152 ∧ J148 x155 (IntKind.wrap .i64 (x150 + 1)) w156 m153) → K154 x155 w156) →
  0 ≤ (x150 : Int) ∧ (x150 : Int) < (nx112 : Nat) ∧
  ptAt ax112 fun b157 o158 =>
  ∃ (x159 : Int), cel w151 b157 (o158 + x150.toNat * 1) = some (.int .i64 x159) ∧
  ∃ (ax160 : Option Addr) (nx160 cx160 : Nat), cel w151 b42 0 = some (.slice ax160 nx160 cx160) ∧
  0 ≤ (x4 : Int) ∧ (x4 : Int) < (nx160 : Nat) ∧
  ptAt ax160 fun b161 o162 =>
  ∃ (x163 : Option Nat), cel w151 b161 (o162 + x4.toNat * 1) = some (.map x163) ∧
  ∃ (x164 : Int), Sem.run Pg (Instr.lookup 80 (.map x163) (.int .i64 x159) false) w151 = .ok (.int .i64 x164) w151 ∧
  sp (!decide ((x164 : Int) = 1))
  (K154 x149 w151)
  (∀ K165 : World → Prop, (∀ w166, (
  ∃ (x167 : Option Nat), cel w166 b71 0 = some (.map x167) ∧
  ∃ w168 : World, Sem.run Pg (Instr.mapUpdate 77 (.map x167) (.int .i64 x159) (.int .i64 x149)) w166 = .ok () w168 ∧
  K154 (IntKind.wrap .i64 (x149 + 1)) w168) → K165 w166) →
  ∀ K169 : World → Prop, (∀ w170, (
  R (.bool false) w170) → K169 w170) →
  sp (decide (((nx25 : Nat) : Int) ≤ x149))
  (K169 w151)
  (0 ≤ (x149 : Int) ∧ (x149 : Int) < (nx25 : Nat) ∧
  ptAt ax25 fun b171 o172 =>
  ∃ (x173 : Int), cel w151 b171 (o172 + x149.toNat * 1) = some (.int .i64 x173) ∧
  sp (!decide ((x173 : Int) = x159))
  (K169 w151)
  (∃ (ax174 : Option Addr) (nx174 cx174 : Nat), cel w151 b27 0 = some (.slice ax174 nx174 cx174) ∧
  0 ≤ (x149 : Int) ∧ (x149 : Int) < (nx174 : Nat) ∧
  ptAt ax174 fun b175 o176 =>
  ∃ (x177 : Int), cel w151 b175 (o176 + x149.toNat * 1) = some (.int .i64 x177) ∧
  sp (!decide ((x177 : Int) = x139))
  (K169 w151)
  (K165 w151)))))
  (∃ (ax178 : Option Addr) (nx178 cx178 : Nat), cel w151 b94 1 = some (.slice ax178 nx178 cx178) ∧
  ∃ J179 : Int → World → Nat → Prop, (∃ m182, J179 0 w151 m182) ∧
  ∀ (x180 : Int), ∀ w181 m182, J179 x180 w181 m182 →
  sp (decide ((x180 : Int) < (nx178 : Nat)))
  (∀ K184 : World → Prop, (∀ w185, (
  ∃ m183, m183 < m182 ∧ J179 (IntKind.wrap .i64 (x180 + 1)) w185 m183) → K184 w185) →
  0 ≤ (x180 : Int) ∧ (x180 : Int) < (nx178 : Nat) ∧
  ptAt ax178 fun b186 o187 =>
  ∃ (x188 : Int) (x189 : Int) (ax190 : Option Addr) (nx190 cx190 : Nat) (x191 : Int) (x192 : Int) (x193 : Int) (x194 : Int), Row w181 b186 (o187 + x180.toNat * 7) [.int .i64 x188, .int .i64 x189, .slice ax190 nx190 cx190, .int .i64 x191, .int .i64 x192, .int .i64 x193, .int .i64 x194] ∧
  AlP 37 [.int .i64 0, .int .i64 0, .slice none 0 0, .int .i64 0, .int .i64 0, .int .i64 0, .int .i64 0] w181 fun b195 w196 =>
  StP b195 0 [.int .i64 x188, .int .i64 x189, .slice ax190 nx190 cx190, .int .i64 x191, .int .i64 x192, .int .i64 x193, .int .i64 x194] w196 fun w197 =>
  ∀ K198 : Bool → World → Prop, (∀ (x199 : Bool), ∀ w200, (
  sp x199
  (∃ (x201 : Int), cel w200 b195 1 = some (.int .i64 x201) ∧
  ∃ w202 : World, Sem.run Pg (Instr.mapUpdate 56 (.map (some b74)) (.int .i64 x201) (.bool true)) w200 = .ok () w202 ∧
  K184 w202)
  (K184 w200)) → K198 x199 w200) →
  ∃ (x203 : Int), cel w197.drew b195 1 = some (.int .i64 x203) ∧
  sp (!decide ((x203 : Int) = 0))
  (∃ (ax204 : Option Addr) (nx204 cx204 : Nat), cel w197.drew b42 0 = some (.slice ax204 nx204 cx204) ∧
  0 ≤ (x4 : Int) ∧ (x4 : Int) < (nx204 : Nat) ∧
  ptAt ax204 fun b205 o206 =>
  ∃ (x207 : Option Nat), cel w197.drew b205 (o206 + x4.toNat * 1) = some (.map x207) ∧
  ∃ (x208 : Int), cel w197.drew b195 1 = some (.int .i64 x208) ∧
  ∃ (x209 : Int), (∀ w', Ext w197.drew w' → Sem.run Pg (Instr.lookup 80 (.map x207) (.int .i64 x208) false) w' = .ok (.int .i64 x209) w') ∧
  sp (decide ((x209 : Int) = 1))
  (∃ (x210 : Int) (x211 : Int) (ax212 : Option Addr) (nx212 cx212 : Nat) (x213 : Int) (x214 : Int) (x215 : Int) (x216 : Int), Row w197.drew b195 0 [.int .i64 x210, .int .i64 x211, .slice ax212 nx212 cx212, .int .i64 x213, .int .i64 x214, .int .i64 x215, .int .i64 x216] ∧
  CallP Pg 17 [.slice ax68 nx68 cx68, .agg ⟨[.int .i64 x210, .int .i64 x211, .slice ax212 nx212 cx212, .int .i64 x213, .int .i64 x214, .int .i64 x215, .int .i64 x216]⟩] w197.drew fun v217 w218 => ∃ (x219 : Int), v217 = .int .i64 x219 ∧
  K198 (decide ((x219 : Int) = 1)) w218)
  (K198 false w197.drew))
  (K198 false w197.drew))
  (K83 x149 w181))) → K146 w147) →
  0 ≤ (x79 : Int) ∧ (x79 : Int) < (nx62 : Nat) ∧
  ptAt ax62 fun b220 o221 =>
  ∃ (x222 : Int), cel w141 b220 (o221 + x79.toNat * 1) = some (.int .i64 x222) ∧
  sp (decide ((x140 : Int) < x222))
  (sp (decide ((x140 : Int) < 4))
  (K144 w141)
  (K146 w141))
  (K146 w141))))
  (sp (!decide ((x78 : Int) = (nx25 : Nat)))
  (R (.bool false) w80)
  (∃ (ax223 : Option Addr) (nx223 cx223 : Nat), cel w80 b27 2 = some (.slice ax223 nx223 cx223) ∧
  ∃ J224 : Int → World → Nat → Prop, (∃ m227, J224 0 w80 m227) ∧
  ∀ (x225 : Int), ∀ w226 m227, J224 x225 w226 m227 →
  sp (decide ((x225 : Int) < (nx223 : Nat)))
  (0 ≤ (x225 : Int) ∧ (x225 : Int) < (nx223 : Nat) ∧
  ptAt ax223 fun b229 o230 =>
  ∃ (x231 : Int), cel w226 b229 (o230 + x225.toNat * 1) = some (.int .i64 x231) ∧
  0 ≤ (x231 : Int) ∧ (x231 : Int) < (nx25 : Nat) ∧
  ptAt ax25 fun b232 o233 =>
  ∃ (x234 : Int), cel w226 b232 (o233 + x231.toNat * 1) = some (.int .i64 x234) ∧
  ∃ (x235 : Bool), Sem.run Pg (Instr.lookup 56 (.map (some b74)) (.int .i64 x234) false) w226 = .ok (.bool x235) w226 ∧
  sp (!x235)
  (R (.bool false) w226)
  (∃ m228, m228 < m227 ∧ J224 (IntKind.wrap .i64 (x225 + 1)) w226 m228))
  (∃ (x236 : Option Addr), ∃ w237 : World, Sem.run Pg (Instr.range 56 (.map (some b74))) w226 = .ok (.pointer x236) w237 ∧
  ∃ J238 : World → Nat → Prop, (∃ m240, J238 w237 m240) ∧
  ∀ w239 m240, J238 w239 m240 →
  (∃ w242 : World, Sem.run Pg (Instr.next (.pointer x236) false 0) w239 = .ok (.tuple ⟨[.bool false]⟩) w242 ∧
  AlM w242 fun b264 w265 =>
  AlP 82 [.map none] w265 fun b266 w267 =>
  StP b266 0 [.map (some b264)] w267 fun w268 =>
  ∃ (ax269 : Option Addr) (nx269 cx269 : Nat), cel w268 b52 1 = some (.slice ax269 nx269 cx269) ∧
  ∃ J270 : Int → World → Nat → Prop, (∃ m273, J270 0 w268 m273) ∧
  ∀ (x271 : Int), ∀ w272 m273, J270 x271 w272 m273 →
  sp (decide ((x271 : Int) < (nx269 : Nat)))
  (0 ≤ (x271 : Int) ∧ (x271 : Int) < (nx269 : Nat) ∧
  ptAt ax269 fun b275 o276 =>
  ∃ (ax277 : Option Addr) (nx277 cx277 : Nat) (ax278 : Option Addr) (nx278 cx278 : Nat) (x279 : Int) (x280 : Int) (ax281 : Option Addr) (nx281 cx281 : Nat) (x282 : Int), Row w272 b275 (o276 + x271.toNat * 6) [.slice ax277 nx277 cx277, .slice ax278 nx278 cx278, .int .i64 x279, .int .i64 x280, .slice ax281 nx281 cx281, .int .i64 x282] ∧
  AlP 47 [.slice none 0 0, .slice none 0 0, .int .i64 0, .int .i64 0, .slice none 0 0, .int .i64 0] w272 fun b283 w284 =>
  StP b283 0 [.slice ax277 nx277 cx277, .slice ax278 nx278 cx278, .int .i64 x279, .int .i64 x280, .slice ax281 nx281 cx281, .int .i64 x282] w284 fun w285 =>
  ∃ (ax286 : Option Addr) (nx286 cx286 : Nat), cel w285 b283 1 = some (.slice ax286 nx286 cx286) ∧
  ∃ J287 : Int → World → Nat → Prop, (∃ m290, J287 0 w285 m290) ∧
  ∀ (x288 : Int), ∀ w289 m290, J287 x288 w289 m290 →
  sp (decide ((x288 : Int) < (nx286 : Nat)))
  (0 ≤ (x288 : Int) ∧ (x288 : Int) < (nx286 : Nat) ∧
  ptAt ax286 fun b292 o293 =>
  ∃ (x294 : Int) (x295 : Int) (ax296 : Option Addr) (nx296 cx296 : Nat) (x297 : Int) (x298 : Int) (x299 : Int) (x300 : Int), Row w289 b292 (o293 + x288.toNat * 7) [.int .i64 x294, .int .i64 x295, .slice ax296 nx296 cx296, .int .i64 x297, .int .i64 x298, .int .i64 x299, .int .i64 x300] ∧
  AlP 37 [.int .i64 0, .int .i64 0, .slice none 0 0, .int .i64 0, .int .i64 0, .int .i64 0, .int .i64 0] w289 fun b301 w302 =>
  StP b301 0 [.int .i64 x294, .int .i64 x295, .slice ax296 nx296 cx296, .int .i64 x297, .int .i64 x298, .int .i64 x299, .int .i64 x300] w302 fun w303 =>
  ∃ (ax304 : Option Addr) (nx304 cx304 : Nat), cel w303 b301 2 = some (.slice ax304 nx304 cx304) ∧
  ∃ J305 : Int → World → Nat → Prop, (∃ m308, J305 0 w303 m308) ∧
  ∀ (x306 : Int), ∀ w307 m308, J305 x306 w307 m308 →
  sp (decide ((x306 : Int) < (nx304 : Nat)))
  (0 ≤ (x306 : Int) ∧ (x306 : Int) < (nx304 : Nat) ∧
  ptAt ax304 fun b310 o311 =>
  ∃ (x312 : Int), cel w307 b310 (o311 + x306.toNat * 1) = some (.int .i64 x312) ∧
  ∃ (x313 : Int), cel w307 b301 1 = some (.int .i64 x313) ∧
  CallV Pg (.func (.func 18) ⟨[]⟩ ⟨[.pointer (some ⟨b71, 0, none⟩), .pointer (some ⟨b266, 0, none⟩)]⟩) [.int .i64 x312, .int .i64 x313] w307 fun v314 w315 => v314 = .tuple ⟨[]⟩ ∧
  ∃ m309, m309 < m308 ∧ J305 (IntKind.wrap .i64 (x306 + 1)) w315 m309)
  (∃ m291, m291 < m290 ∧ J287 (IntKind.wrap .i64 (x288 + 1)) w307 m291))
  (∃ (ax316 : Option Addr) (nx316 cx316 : Nat), cel w289 b283 4 = some (.slice ax316 nx316 cx316) ∧
  ∃ J317 : Int → World → Nat → Prop, (∃ m320, J317 0 w289 m320) ∧
  ∀ (x318 : Int), ∀ w319 m320, J317 x318 w319 m320 →
  sp (decide ((x318 : Int) < (nx316 : Nat)))
  (0 ≤ (x318 : Int) ∧ (x318 : Int) < (nx316 : Nat) ∧
  ptAt ax316 fun b322 o323 =>
  ∃ (x324 : Int) (ax325 : Option Addr) (nx325 cx325 : Nat), Row w319 b322 (o323 + x318.toNat * 2) [.int .i64 x324, .slice ax325 nx325 cx325] ∧
  AlP 41 [.int .i64 0, .slice none 0 0] w319 fun b326 w327 =>
  StP b326 0 [.int .i64 x324, .slice ax325 nx325 cx325] w327 fun w328 =>
  ∃ (ax329 : Option Addr) (nx329 cx329 : Nat), cel w328 b52 1 = some (.slice ax329 nx329 cx329) ∧
  ∃ (x330 : Int), cel w328 b326 0 = some (.int .i64 x330) ∧
  0 ≤ (x330 : Int) ∧ (x330 : Int) < (nx329 : Nat) ∧
  ptAt ax329 fun b331 o332 =>
  ∃ (ax333 : Option Addr) (nx333 cx333 : Nat), cel w328 b331 (o332 + x330.toNat * 6) = some (.slice ax333 nx333 cx333) ∧
  ∃ J334 : Int → World → Nat → Prop, (∃ m337, J334 0 w328 m337) ∧
  ∀ (x335 : Int), ∀ w336 m337, J334 x335 w336 m337 →
  sp (decide ((x335 : Int) < (nx333 : Nat)))
  (0 ≤ (x335 : Int) ∧ (x335 : Int) < (nx333 : Nat) ∧
  ptAt ax333 fun b339 o340 =>
  ∃ (x341 : Int), cel w336 b339 (o340 + x335.toNat * 1) = some (.int .i64 x341) ∧
  ∃ (ax342 : Option Addr) (nx342 cx342 : Nat), cel w336 b326 1 = some (.slice ax342 nx342 cx342) ∧
  0 ≤ (x335 : Int) ∧ (x335 : Int) < (nx342 : Nat) ∧
  ptAt ax342 fun b343 o344 =>
  ∃ (x345 : Int), cel w336 b343 (o344 + x335.toNat * 1) = some (.int .i64 x345) ∧
  CallV Pg (.func (.func 18) ⟨[]⟩ ⟨[.pointer (some ⟨b71, 0, none⟩), .pointer (some ⟨b266, 0, none⟩)]⟩) [.int .i64 x345, .int .i64 x341] w336 fun v346 w347 => v346 = .tuple ⟨[]⟩ ∧
  ∃ m338, m338 < m337 ∧ J334 (IntKind.wrap .i64 (x335 + 1)) w347 m338)
  (∃ m321, m321 < m320 ∧ J317 (IntKind.wrap .i64 (x318 + 1)) w336 m321))
  (∃ m274, m274 < m273 ∧ J270 (IntKind.wrap .i64 (x271 + 1)) w319 m274)))
  (AlM w272 fun b348 w349 =>
  ∃ (ax350 : Option Addr) (nx350 cx350 : Nat), cel w349 b27 1 = some (.slice ax350 nx350 cx350) ∧
  ∃ J351 : Int → World → Nat → Prop, (∃ m354, J351 0 w349 m354) ∧
  ∀ (x352 : Int), ∀ w353 m354, J351 x352 w353 m354 →
  sp (decide ((x352 : Int) < (nx350 : Nat)))
  (0 ≤ (x352 : Int) ∧ (x352 : Int) < (nx350 : Nat) ∧
  ptAt ax350 fun b356 o357 =>
  ∃ (x358 : Int) (x359 : Int), Row w353 b356 (o357 + x352.toNat * 2) [.int .i64 x358, .int .i64 x359] ∧
  AlP 84 [.int .i64 0, .int .i64 0] w353 fun b360 w361 =>
  StP b360 0 [.int .i64 x358, .int .i64 x359] w361 fun w362 =>
  ∃ (x363 : Option Nat), cel w362 b266 0 = some (.map x363) ∧
  ∃ (x364 : Int) (x365 : Int), Row w362 b360 0 [.int .i64 x364, .int .i64 x365] ∧
  ∃ (x366 : Bool), Sem.run Pg (Instr.lookup 82 (.map x363) (.agg ⟨[.int .i64 x364, .int .i64 x365]⟩) false) w362 = .ok (.bool x366) w362 ∧
  sp (!x366)
  (R (.bool false) w362)
  (∃ (x367 : Int) (x368 : Int), Row w362 b360 0 [.int .i64 x367, .int .i64 x368] ∧
  ∃ w369 : World, Sem.run Pg (Instr.mapUpdate 82 (.map (some b348)) (.agg ⟨[.int .i64 x367, .int .i64 x368]⟩) (.bool true)) w362 = .ok () w369 ∧
  ∃ m355, m355 < m354 ∧ J351 (IntKind.wrap .i64 (x352 + 1)) w369 m355))
  (∃ (x370 : Int), Sem.run Pg (Builtin.len_ #[82] 3 ⟨[.map (some b348)]⟩) w353 = .ok (.int .i64 x370) w353 ∧
  ∃ (x371 : Option Nat), cel w353 b266 0 = some (.map x371) ∧
  ∃ (x372 : Int), Sem.run Pg (Builtin.len_ #[82] 3 ⟨[.map x371]⟩) w353 = .ok (.int .i64 x372) w353 ∧
  R (.bool (decide ((x370 : Int) = x372))) w353))) ∨
  (∃ (k244 v245 : Value) (w243 : World), Sem.run Pg (Instr.next (.pointer x236) false 0) w239 = .ok (.tuple ⟨[.bool true, k244, v245]⟩) w243 ∧
  ∃ (x373 : Int) (x374 : Bool), Sem.run Pg (Instr.entry (.pointer x236)) w243 = .ok (.tuple ⟨[.int .i64 x373, .bool x374]⟩) w243 ∧
  ∃ (ax375 : Option Addr) (nx375 cx375 : Nat), cel w243 b27 2 = some (.slice ax375 nx375 cx375) ∧
  ∃ J376 : Bool → Int → World → Nat → Prop, (∃ m380, J376 false 0 w243 m380) ∧
  ∀ (x377 : Bool) (x378 : Int), ∀ w379 m380, J376 x377 x378 w379 m380 →
  sp (decide ((x378 : Int) < (nx375 : Nat)))
  (∀ K382 : Bool → World → Prop, (∀ (x383 : Bool), ∀ w384, (
  ∃ m381, m381 < m380 ∧ J376 x383 (IntKind.wrap .i64 (x378 + 1)) w384 m381) → K382 x383 w384) →
  0 ≤ (x378 : Int) ∧ (x378 : Int) < (nx375 : Nat) ∧
  ptAt ax375 fun b385 o386 =>
  ∃ (x387 : Int), cel w379 b385 (o386 + x378.toNat * 1) = some (.int .i64 x387) ∧
  sp x377
  (K382 true w379)
  (0 ≤ (x387 : Int) ∧ (x387 : Int) < (nx25 : Nat) ∧
  ptAt ax25 fun b388 o389 =>
  ∃ (x390 : Int), cel w379 b388 (o389 + x387.toNat * 1) = some (.int .i64 x390) ∧
  K382 (decide ((x390 : Int) = x373)) w379))
  (sp (!x377)
  (R (.bool false) w379)
  (∃ m241, m241 < m240 ∧ J238 w379 m241))))))) → K45 w46) →
  ∀ K500 : World → Prop, (∀ w501, (
  R (.bool false) w501) → K500 w501) →
  sp (!decide ((x26 : Int) = 0))
  (K500 w44)
  (sp (!decide ((x41 : Int) = 0))
  (K500 w44)
  (∃ (ax502 : Option Addr) (nx502 cx502 : Nat), cel w44 b27 0 = some (.slice ax502 nx502 cx502) ∧
  sp (!decide (((nx502 : Nat) : Int) = (nx25 : Nat)))
  (K500 w44)
  (K45 w44)))) → K30 w31) →
  ∀ K503 : World → Prop, (∀ w504, (
  sp (decide ((x26 : Int) = 40))
  (R (.bool (decide (((nx25 : Nat) : Int) = 0))) w504)
  (R (.bool false) w504)) → K503 w504) →
  ∃ (ax505 : Option Addr) (nx505 cx505 : Nat) (ax506 : Option Addr) (nx506 cx506 : Nat) (x507 : Int), Row w29 b5 0 [.slice ax505 nx505 cx505, .slice ax506 nx506 cx506, .int .i64 x507] ∧
  CallP Pg 11 [.agg ⟨[.slice ax505 nx505 cx505, .slice ax506 nx506 cx506, .int .i64 x507]⟩] w29 fun v508 w509 => ∃ (x510 : Int), v508 = .int .i64 x510 ∧
  sp (!decide ((x510 : Int) = 0))
  (K503 w509)
  (sp (decide ((x4 : Int) < 0))
  (K503 w509)
  (∃ (ax511 : Option Addr) (nx511 cx511 : Nat), cel w509 b5 1 = some (.slice ax511 nx511 cx511) ∧
  sp (decide (((nx511 : Nat) : Int) ≤ x4))
  (K503 w509)
  (K30 w509)))))
def T4 : List Sh := [.v (.agg [.sl, .sl, (.int .i64)]), .v (.one (.int .i64)), .v (.one .ptr), .v (.one .any), .v (.one .bool), .v (.one .ptr), .v (.one .sl), .v (.one (.int .i64)), .v (.one .ptr), .v (.one (.int .i64)), .v (.one .ptr), .v (.one .sl), .v (.one .sl), .v (.one .ptr), .v (.one .map), .v (.one (.int .i64)), .v (.one (.int .i64)), .v (.one .ptr), .v (.one .sl), .v (.one .any), .v (.one .ptr), .v (.one (.int .i64)), .v (.one (.int .i64)), .v (.one .any), .v (.one (.int .i64)), .v (.one .any), .v (.one .ptr), .v (.one .any), .v (.one (.int .i64)), .v (.one (.int .i64)), .v (.one .bool), .v (.one .any), .v (.one (.int .i64)), .v (.one .ptr), .v (.one .any), .v (.one .any), .v (.one .ptr), .v (.one .any), .v (.one .ptr), .v (.one .any), .v (.one (.int .i64)), .v (.one .any), .v (.one .ptr), .v (.one (.int .i64)), .v (.one (.int .i64)), .v (.one .map), .v (.one .any), .v (.one .ptr), .v (.one .bool), .v (.one .bool), .v (.agg [.sl, .sl, (.int .i64)]), .v (.one .bool), .v (.one .bool), .t [(.agg [.sl, .sl, .sl, .sl]), (.one .sl), (.one (.int .i64))], .v (.agg [.sl, .sl, (.int .i64)]), .v (.one (.int .i64)), .t [(.agg [.sl, .sl, .sl, .sl]), (.one .sl), (.one (.int .i64))], .v (.agg [.sl, .sl, .sl, .sl]), .v (.one .sl), .v (.one (.int .i64)), .v (.agg [.sl, .sl, (.int .i64)]), .v (.one (.int .i64)), .v (.one .bool), .v (.one .bool), .v (.one (.int .i64)), .v (.one .bool), .v (.one .bool), .v (.one .bool), .v (.one (.int .i64)), .v (.one .ptr), .v (.one .sl), .v (.one (.int .i64)), .v (.one .bool), .v (.one .bool), .v (.one (.int .i64)), .v (.one .bool), .v (.one .bool), .v (.one .sl), .v (.one (.int .i64)), .v (.one .bool), .v (.one .bool), .t [(.agg [.sl, .sl, .sl, .sl]), (.one (.int .i64))], .v (.agg [.sl, .sl, (.int .i64)]), .t [(.agg [.sl, .sl, .sl, .sl]), (.one (.int .i64))], .v (.agg [.sl, .sl, .sl, .sl]), .v (.one (.int .i64)), .v (.one (.int .i64)), .v (.one .bool), .v (.one .bool), .v (.one (.int .i64)), .v (.one .bool), .v (.one .bool), .v (.one .bool), .v (.one .ptr), .v (.one .sl), .v (.one (.int .i64)), .v (.one .sl), .v (.one (.int .i64)), .v (.one .bool), .v (.one .bool), .v (.one .ptr), .v (.one .sl), .v (.one (.int .i64)), .v (.one .ptr), .v (.agg [.str, .sl]), .v (.agg [.str, .sl]), .v (.one .ptr), .v (.one .sl), .v (.agg [.sl, .sl, (.int .i64)]), .v (.one .sl), .v (.one .map), .v (.one .map), .v (.one .ptr), .v (.one .sl), .v (.one (.int .i64)), .v (.one (.int .i64)), .v (.one .bool), .v (.one (.int .i64)), .v (.one .ptr), .v (.agg [.sl, .sl, (.int .i64), (.int .i64), .sl, (.int .i64)]), .v (.agg [.str, .sl]), .v (.one .sl), .v (.one (.int .i64)), .v (.one .ptr), .v (.one .bool), .v (.one .bool), .v (.one .sl), .v (.one .ptr), .v (.one .sl), .v (.one .sl), .v (.one .ptr), .v (.one .sl), .v (.one (.int .i64)), .v (.one (.int .i64)), .v (.one .bool), .v (.one .ptr), .v (.agg [(.int .i64), (.int .i64), .sl, (.int .i64), (.int .i64), (.int .i64), (.int .i64)]), .v (.one .ptr), .v (.one (.int .i64)), .v (.one .bool), .v (.one .sl), .v (.one .ptr), .v (.one (.int .i64)), .v (.one .sl), .v (.one .sl), .v (.one (.int .i64)), .v (.one (.int .i64)), .v (.one .sl), .v (.one (.int .i64)), .v (.one .ptr), .v (.one (.int .i64)), .v (.one .bool), .v (.one .bool), .v (.one (.int .i64)), .v (.one .bool), .v (.one .bool), .v (.one (.int .i64)), .v (.one (.int .i64)), .v (.one (.int .i64)), .v (.one (.int .i64)), .v (.one .sl), .v (.one (.int .i64)), .v (.one (.int .i64)), .v (.one .bool), .v (.one .ptr), .v (.one (.int .i64)), .v (.one .ptr), .v (.one .sl), .v (.one (.int .i64)), .v (.one .ptr), .v (.one .map), .v (.one (.int .i64)), .v (.one (.int .i64)), .v (.one .bool), .v (.one (.int .i64)), .v (.one .sl), .v (.one (.int .i64)), .v (.one .bool), .v (.one .bool), .v (.one .sl), .v (.one (.int .i64)), .v (.one .ptr), .v (.one (.int .i64)), .v (.one (.int .i64)), .v (.one .bool), .v (.one .bool), .v (.one .bool), .v (.one .ptr), .v (.one .sl), .v (.one (.int .i64)), .v (.one .ptr), .v (.one (.int .i64)), .v (.one (.int .i64)), .v (.one .bool), .v (.one .bool), .v (.one .map), .v (.one (.int .i64)), .v (.one (.int .i64)), .v (.one (.int .i64)), .v (.one (.int .i64)), .v (.one (.int .i64)), .v (.one .ptr), .v (.one .sl), .v (.one (.int .i64)), .v (.one (.int .i64)), .v (.one .bool), .v (.one .ptr), .v (.agg [(.int .i64), (.int .i64), .sl, (.int .i64), (.int .i64), (.int .i64), (.int .i64)]), .v (.one .ptr), .v (.one (.int .i64)), .v (.one .bool), .v (.one .bool), .v (.one .ptr), .v (.one .sl), .v (.one (.int .i64)), .v (.one .ptr), .v (.one .map), .v (.one .ptr), .v (.one (.int .i64)), .v (.one (.int .i64)), .v (.one .bool), .v (.one .bool), .v (.one .bool), .v (.one .sl), .v (.agg [(.int .i64), (.int .i64), .sl, (.int .i64), (.int .i64), (.int .i64), (.int .i64)]), .v (.one (.int .i64)), .v (.one .bool), .v (.one .bool), .v (.one .map), .v (.one .ptr), .v (.one (.int .i64)), .v (.one (.int .i64)), .v (.one (.int .i64)), .v (.one (.int .i64)), .v (.one .sl), .v (.one (.int .i64)), .v (.one .bool), .v (.one .ptr), .v (.one .sl), .v (.one (.int .i64)), .v (.one (.int .i64)), .v (.one .bool), .v (.one .ptr), .v (.one (.int .i64)), .v (.one .map), .v (.one .sl), .v (.one (.int .i64)), .v (.one .ptr), .v (.one (.int .i64)), .v (.one .bool), .v (.one .bool), .v (.one (.int .i64)), .v (.one .map), .v (.one .ptr), .v (.one .any), .v (.one .bool), .t [(.one (.int .i64)), (.one .bool)], .v (.one (.int .i64)), .v (.one .ptr), .v (.one .sl), .v (.one (.int .i64)), .v (.one (.int .i64)), .v (.one .bool), .v (.one .ptr), .v (.one (.int .i64)), .v (.one .bool), .v (.one .bool), .v (.one .sl), .v (.one (.int .i64)), .v (.one .ptr), .v (.one (.int .i64)), .v (.one (.int .i64)), .v (.one .bool), .v (.one .bool), .v (.one (.int .i64)), .v (.one .bool), .v (.one .bool), .v (.one .map), .v (.one .any), .v (.one .ptr), .v (.one .sl), .v (.one (.int .i64)), .v (.one (.int .i64)), .v (.one .bool), .v (.one .ptr), .v (.agg [.sl, .sl, (.int .i64), (.int .i64), .sl, (.int .i64)]), .v (.one .ptr), .v (.one .sl), .v (.one (.int .i64)), .v (.one (.int .i64)), .v (.one .bool), .v (.one .ptr), .v (.agg [(.int .i64), (.int .i64), .sl, (.int .i64), (.int .i64), (.int .i64), (.int .i64)]), .v (.one .ptr), .v (.one .sl), .v (.one (.int .i64)), .v (.one (.int .i64)), .v (.one .bool), .v (.one .ptr), .v (.one (.int .i64)), .v (.one .any), .v (.one (.int .i64)), .v (.one .ptr), .v (.one (.int .i64)), .t [], .v (.one (.int .i64)), .v (.one (.int .i64)), .v (.one .ptr), .v (.one .ptr), .v (.one .sl), .v (.one (.int .i64)), .v (.one (.int .i64)), .v (.one .bool), .v (.one .ptr), .v (.agg [(.int .i64), .sl]), .v (.one .ptr), .v (.one .sl), .v (.one .ptr), .v (.one (.int .i64)), .v (.one .ptr), .v (.one .ptr), .v (.one .sl), .v (.one (.int .i64)), .v (.one (.int .i64)), .v (.one .bool), .v (.one (.int .i64)), .v (.one .ptr), .v (.one (.int .i64)), .v (.one .any), .v (.one .ptr), .v (.one .sl), .v (.one (.int .i64)), .v (.one .ptr), .v (.one (.int .i64)), .v (.one (.int .i64)), .t [], .v (.one (.int .i64)), .v (.one (.int .i64)), .v (.one (.int .i64)), .v (.one .map), .v (.one .ptr), .v (.one .sl), .v (.one (.int .i64)), .v (.one (.int .i64)), .v (.one .bool), .v (.one .ptr), .v (.agg [(.int .i64), (.int .i64)]), .v (.one .map), .v (.agg [(.int .i64), (.int .i64)]), .v (.one .bool), .v (.one .bool), .v (.one .map), .v (.agg [(.int .i64), (.int .i64)]), .v (.one (.int .i64)), .v (.one .map), .v (.one (.int .i64)), .v (.one .map), .v (.one (.int .i64)), .v (.one .bool)]
def A4 : Ann := (.seq none .z (.seq none (.seq none .z (.cond (.seq none .z .z) .z)) (.seq none (.seq none .z (.cond (.seq none .z .z) .z)) (.seq none .z (.seq (some []) (.ifs (some []) none (.seq none .z .z) .z) (.seq none .z (.seq (some []) (.ifs (some []) none (.seq none .z .z) .z) (.seq none .z (.seq none .z (.seq none .z (.seq none .z (.seq none .z (.seq none .z (.seq none (.seq none .z (.block none (.loop [15, 115] (.seq none .z (.seq none (.cond .z .z) (.seq none (.block (some [15]) (.seq none .z (.seq none (.seq none .z (.cond .z .z)) (.seq none .z (.seq none (.seq none .z (.block none (.loop [18, 133] (.seq none .z (.seq none (.cond .z .z) (.seq none (.block (some [18]) (.seq none .z (.seq none .z (.cond .z .z)))) .z)))))) (.seq none .z (.seq none (.seq none .z (.block none (.loop [21, 22] (.seq (some []) (.ifs none (some []) .z .z) (.seq none (.block none .z) .z))))) (.seq none (.seq none .z (.block none (.loop [15, 162] (.seq none .z (.seq none (.cond .z .z) (.seq none (.block (some [15]) (.seq none .z (.seq none (.seq none .z (.cond .z .z)) (.seq (some []) (.ifs (some []) none (.seq none .z .z) .z) (.seq none .z .z))))) .z)))))) (.seq none .z (.block none (.loop [204] (.seq none .z (.seq none (.cond .z .z) (.seq none (.block (some []) (.seq none .z (.seq (some [227]) (.dr [0, 1, 0, 0, 0, 1, 0, 0, 1, 0, 1, 1, 0, 0, 0, 0, 1, 3, 0, 0] [0, 1, 2, 3, 4, 5, 6, 7, 8, 9, 10, 11, 12, 13, 14, 15, 16, 17, 18, 19]) (.cond .z .z)))) .z)))))))))))))) .z)))))) (.seq none (.seq none .z (.cond (.seq none .z .z) .z)) (.seq none (.seq none .z (.block none (.loop [240] (.seq none .z (.seq none (.cond .z .z) (.seq none (.block none (.seq none .z (.seq none .z (.cond (.seq none .z .z) .z)))) .z)))))) (.seq none (.seq none .z (.block none (.loop [] (.seq none .z (.seq none (.cond .z .z) (.block none (.seq none .z (.seq none .z (.seq none (.seq none .z (.block none (.loop [30, 261] (.seq none .z (.seq none (.cond .z .z) (.seq none (.block (some [30]) (.seq none .z .z)) .z)))))) (.seq none .z (.cond (.seq none .z .z) .z))))))))))) (.seq none .z (.seq none .z (.seq none (.seq none .z (.block none (.loop [282] (.seq none .z (.seq none (.cond .z .z) (.seq none (.block none (.seq none .z (.seq none (.seq none .z (.block none (.loop [289] (.seq none .z (.seq none (.cond .z .z) (.seq none (.block none (.seq none .z (.seq none .z (.block none (.loop [296] (.seq none .z (.seq none (.cond .z .z) (.seq none (.block none (.seq none .z .z)) .z)))))))) .z)))))) (.seq none .z (.block none (.loop [311] (.seq none .z (.seq none (.cond .z .z) (.seq none (.block none (.seq none .z (.seq none .z (.block none (.loop [323] (.seq none .z (.seq none (.cond .z .z) (.seq none (.block none (.seq none .z .z)) .z)))))))) .z))))))))) .z)))))) (.seq none .z (.seq none (.seq none .z (.block none (.loop [343] (.seq none .z (.seq none (.cond .z .z) (.seq none (.block none (.seq none .z (.seq none (.seq none .z (.cond (.seq none .z .z) .z)) .z))) .z)))))) (.seq none .z .z)))))))))))))))))))))))
theorem F4_eq (ax1 : Option Addr) (nx1 cx1 : Nat) (ax2 : Option Addr) (nx2 cx2 : Nat) (x3 : Int) (x4 : Int) (w : World) (R : Value → World → Prop) : F4 ax1 nx1 cx1 ax2 nx2 cx2 x3 x4 w R = denF Go.Proofs.Try.prog T4 Go.Proofs.Try.f4 A4 [.agg ⟨[.slice ax1 nx1 cx1, .slice ax2 nx2 cx2, .int .i64 x3]⟩, .int .i64 x4] w R := by kernel_rfl
theorem F4_ok (ax1 : Option Addr) (nx1 cx1 : Nat) (ax2 : Option Addr) (nx2 cx2 : Nat) (x3 : Int) (x4 : Int) {w : World} {R : Value → World → Prop} (h : F4 ax1 nx1 cx1 ax2 nx2 cx2 x3 x4 w R) : CallP Go.Proofs.Try.prog 4 [.agg ⟨[.slice ax1 nx1 cx1, .slice ax2 nx2 cx2, .int .i64 x3]⟩, .int .i64 x4] w R :=
  calls_den (fun _ => drawn (by kernel_rfl)) Go.Proofs.Try.func4 (Nat.le_of_ble_eq_true (by kernel_rfl)) ((F4_eq ax1 nx1 cx1 ax2 nx2 cx2 x3 x4 w R).mp h)
end Go.Pl.Try
