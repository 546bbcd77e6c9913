/- Joined texts of the proof, part 18: Model24, F5, WLeast, WOpen, Kept. -/
import Derived.Test.YtbacmadoenicnaaS17
import Derived.Deep.Slices
import Derived.ChangeReads
import Derived.ChangeOld
import Derived.WalkKit
import Derived.ProofKit
import Derived.OpenShut
import Derived.ReadAgain
set_option maxRecDepth 2000
set_option linter.unusedVariables false
set_option linter.unusedSimpArgs false
set_option linter.unusedSectionVars false
/- What the values that are cut weigh. -/
namespace Go.Pl.M
set_option linter.unusedVariables false
theorem hzVals_sub (lab : Int → Int) (wt : Int) : ∀ (l : List Int) (z : Hz), ∃ t, (hzVals lab wt l z).vals = z.vals ++ t ∧ t.Sublist l
  | [], z => ⟨[], by simp [hzVals], by simp⟩
  | v :: vs, z => by
    rw [hzVals]
    obtain ⟨t, h1, h2⟩ := hzVals_sub lab wt vs (z.value lab wt v)
    rw [h1]
    unfold Hz.value
    split
    · exact ⟨v :: t, by simp, h2.cons_cons v⟩
    · exact ⟨t, rfl, h2.cons v⟩
theorem hzBlks_sub (lab : Int → Int) (D : List Nat) (R : List Bool) : ∀ (bs : List Blk) (n : Nat) (z : Hz), ∃ t, (hzBlks lab D R n bs z).vals = z.vals ++ t ∧ t.Sublist (bs.flatMap Blk.made)
  | [], n, z => ⟨[], by simp [hzBlks], by simp⟩
  | b :: bs, n, z => by
    rw [hzBlks]
    obtain ⟨t, h1, h2⟩ := hzBlks_sub lab D R bs (n + 1) (if R.getD n false = true then hzVals lab (weigh (D.getD n 0)) b.made z else z)
    rw [h1, List.flatMap_cons]
    split
    · obtain ⟨u, h3, h4⟩ := hzVals_sub lab (weigh (D.getD n 0)) b.made z
      exact ⟨u ++ t, by rw [h3, List.append_assoc], h4.append h2⟩
    · exact ⟨t, rfl, h2.trans (List.sublist_append_right _ _)⟩
theorem z1_nodup {f : Fnc} {lab : Int → Int} (ho : once f = true) : (f.z1 lab).vals.Nodup := by
  unfold once at ho
  have ho := of_decide_eq_true ho
  obtain ⟨t, h1, h2⟩ := hzBlks_sub lab f.gr.depths f.reach f.blocks 0 Hz.new
  have h3 : (f.z1 lab).vals = t := by rw [h1]; rfl
  rw [h3]
  exact ho.2.sublist h2
theorem mem_cutVals (z : Hz) {x : Int} : ∀ (l : List Int) (ks : List Int), x ∈ l.foldl (fun ks v => kput ks (z.vals.getD v.toNat 0)) ks ↔ x ∈ ks ∨ ∃ v ∈ l, z.vals.getD v.toNat 0 = x
  | [], ks => by simp
  | v :: l, ks => by
    rw [List.foldl_cons, mem_cutVals z l, mem_kput']
    constructor
    · rintro ((h | h) | ⟨u, hu, h⟩)
      · exact .inl h
      · exact .inr ⟨v, by simp, h.symm⟩
      · exact .inr ⟨u, by simp [hu], h⟩
    · rintro (h | ⟨u, hu, h⟩)
      · exact .inl (.inl h)
      · rcases List.mem_cons.1 hu with rfl | hu
        · exact .inl (.inr h.symm)
        · exact .inr ⟨u, hu, h⟩
/-- A value is cut where its place is. -/
theorem cut_at {z : Hz} (hn : z.vals.Nodup) {by_ : List Int} {m : Nat} (hm : m = z.vals.length) {i : Nat} {v : Int} (hi : z.vals[i]? = some v) : v ∈ z.cutVals (cutOf by_ m) ↔ by_.getD (2 * i) 0 ≠ -1 ∧ by_.getD (2 * i + 1) 0 = -1 := by
  have hil := (List.getElem?_eq_some_iff.1 hi).1
  unfold Hz.cutVals
  rw [mem_cutVals]
  unfold cutOf
  constructor
  · rintro (h | ⟨u, hu, h⟩)
    · cases h
    · obtain ⟨j, hj, rfl⟩ := List.mem_map.1 hu
      obtain ⟨h1, h2⟩ := List.mem_filter.1 hj
      have hjl := List.mem_range.1 h1
      rw [Int.toNat_natCast] at h
      have h3 : z.vals[j]? = some v := by rw [← h]; exact getD_some (by omega)
      have : i = j := by
        have hpw := List.pairwise_iff_getElem.1 hn
        have e1 := (List.getElem?_eq_some_iff.1 hi).2
        have e2 := (List.getElem?_eq_some_iff.1 h3).2
        rcases Nat.lt_trichotomy i j with h4 | h4 | h4
        · exact absurd (by rw [e1, e2]) (hpw i j hil (by omega) h4)
        · exact h4
        · exact absurd (by rw [e1, e2]) (hpw j i (by omega) hil h4)
      subst this
      simp only [Bool.and_eq_true, Bool.not_eq_true', decide_eq_false_iff_not, decide_eq_true_eq] at h2
      exact h2
  · rintro ⟨h1, h2⟩
    refine .inr ⟨(i : Int), List.mem_map.2 ⟨i, List.mem_filter.2 ⟨List.mem_range.2 (by omega), ?_⟩, rfl⟩, ?_⟩
    · simp only [Bool.and_eq_true, Bool.not_eq_true', decide_eq_false_iff_not, decide_eq_true_eq]
      exact ⟨h1, h2⟩
    · rw [Int.toNat_natCast, List.getD_eq_getElem?_getD, hi]; rfl
/-- What is cut weighs so much. -/
def ownTo (z : Hz) (ks : List Int) (j : Nat) : Int := ((List.range j).map fun i => if z.vals.getD i 0 ∈ ks then z.weights.getD i 0 else 0).sum
theorem ownTo_succ (z : Hz) (ks : List Int) (j : Nat) : ownTo z ks (j + 1) = ownTo z ks j + (if z.vals.getD j 0 ∈ ks then z.weights.getD j 0 else 0) := by
  unfold ownTo
  rw [List.range_succ, List.map_append, List.sum_append]
  simp
theorem own_eq {z : Hz} (hn : z.vals.Nodup) (hw : z.weights.length = z.vals.length) (by_ : List Int) : ownTo z (z.cutVals (cutOf by_ z.weights.length)) z.vals.length = z.net.weight (cutOf by_ z.net.weights.length) := by
  rw [weight_cutOf]
  unfold ownTo
  show _ = ((List.range z.weights.length).map fun v => if by_.getD (2 * v) 0 ≠ -1 ∧ by_.getD (2 * v + 1) 0 = -1 then z.weights.getD v 0 else 0).sum
  rw [hw]
  refine isum_congr fun i hi => ?_
  have hil := List.mem_range.1 hi
  have hc := cut_at hn (by_ := by_) (m := z.vals.length) rfl (i := i) (v := z.vals.getD i 0) (getD_some hil)
  by_cases h : z.vals.getD i 0 ∈ z.cutVals (cutOf by_ z.vals.length)
  · rw [if_pos h, if_pos (hc.1 h)]
  · rw [if_neg h, if_neg fun e => h (hc.2 e)]
theorem ownTo_in {z : Hz} (hw : ∀ x ∈ z.weights, 1 ≤ x ∧ x ≤ 10000) (ks : List Int) : ∀ j : Nat, 0 ≤ ownTo z ks j ∧ ownTo z ks j ≤ 10000 * (j : Int)
  | 0 => by simp [ownTo]
  | j + 1 => by
    have ih := ownTo_in hw ks j
    rw [ownTo_succ]
    have : 0 ≤ z.weights.getD j 0 ∧ z.weights.getD j 0 ≤ 10000 := by
      rw [List.getD_eq_getElem?_getD]
      cases h : z.weights[j]? with
      | none => simp
      | some x => have := hw x (List.mem_of_getElem? h); simp only [Option.getD_some]; omega
    split <;> omega
end Go.Pl.M

/- What 'palings/palingslaw14.HardenLeast' does, read off its translation by gen.py. -/
namespace Go.Pl.Try
set_option linter.unusedVariables false
set_option maxRecDepth 100000
def F5 (ax1 : Option Addr) (nx1 cx1 : Nat) (ax2 : Option Addr) (nx2 cx2 : Nat) (x3 : Int) (w : World) (R : Value → World → Prop) : Prop :=
  AlP 32 [.slice ax1 nx1 cx1, .slice ax2 nx2 cx2, .int .i64 x3] w fun b4 w5 =>
  CallP Pg 6 [] w5 fun v6 w7 => ∃ (x8 : Bool), v6 = .bool x8 ∧
  sp (!x8)
  (R (.bool false) w7)
  (∀ K9 : World → Prop, (∀ w10, (
  ∃ (ax11 : Option Addr) (nx11 cx11 : Nat) (ax12 : Option Addr) (nx12 cx12 : Nat) (x13 : Int), Row w10 b4 0 [.slice ax11 nx11 cx11, .slice ax12 nx12 cx12, .int .i64 x13] ∧
  CallP Pg 7 [.agg ⟨[.slice ax11 nx11 cx11, .slice ax12 nx12 cx12, .int .i64 x13]⟩] w10 fun v14 w15 => ∃ (ax16 : Option Addr) (nx16 cx16 : Nat) (ax17 : Option Addr) (nx17 cx17 : Nat) (x18 : Int) (x19 : Int), v14 = .tuple ⟨[.agg ⟨[.slice ax16 nx16 cx16, .slice ax17 nx17 cx17, .int .i64 x18]⟩, .int .i64 x19]⟩ ∧
  AlP 51 [.slice none 0 0, .slice none 0 0, .int .i64 0] w15 fun b20 w21 =>
  StP b20 0 [.slice ax16 nx16 cx16, .slice ax17 nx17 cx17, .int .i64 x18] w21 fun w22 =>
  sp (!decide ((x19 : Int) = 0))
  (R (.bool false) w22)
  (∃ (ax23 : Option Addr) (nx23 cx23 : Nat), cel w22 b4 1 = some (.slice ax23 nx23 cx23) ∧
  ∃ J24 : Int → World → Nat → Prop, (∃ m27, J24 0 w22 m27) ∧
  ∀ (x25 : Int), ∀ w26 m27, J24 x25 w26 m27 →
  sp (decide ((x25 : Int) < (nx23 : Nat)))
  (∀ K29 : World → Prop, (∀ w30, (
  ∃ m28, m28 < m27 ∧ J24 (IntKind.wrap .i64 (x25 + 1)) w30 m28) → K29 w30) →
  ∃ (ax31 : Option Addr) (nx31 cx31 : Nat) (ax32 : Option Addr) (nx32 cx32 : Nat) (x33 : Int), Row w26 b4 0 [.slice ax31 nx31 cx31, .slice ax32 nx32 cx32, .int .i64 x33] ∧
  CallP Pg 10 [.agg ⟨[.slice ax31 nx31 cx31, .slice ax32 nx32 cx32, .int .i64 x33]⟩, .int .i64 x25] w26 fun v34 w35 => ∃ (ax36 : Option Addr) (nx36 cx36 : Nat) (ax37 : Option Addr) (nx37 cx37 : Nat) (ax38 : Option Addr) (nx38 cx38 : Nat) (ax39 : Option Addr) (nx39 cx39 : Nat) (ax40 : Option Addr) (nx40 cx40 : Nat) (x41 : Int), v34 = .tuple ⟨[.agg ⟨[.slice ax36 nx36 cx36, .slice ax37 nx37 cx37, .slice ax38 nx38 cx38, .slice ax39 nx39 cx39]⟩, .slice ax40 nx40 cx40, .int .i64 x41]⟩ ∧
  AlP 62 [.slice none 0 0, .slice none 0 0, .slice none 0 0, .slice none 0 0] w35 fun b42 w43 =>
  StP b42 0 [.slice ax36 nx36 cx36, .slice ax37 nx37 cx37, .slice ax38 nx38 cx38, .slice ax39 nx39 cx39] w43 fun w44 =>
  sp (!decide ((x41 : Int) = 0))
  (R (.bool false) w44)
  (sp (decide ((10 : Int) < (nx40 : Nat)))
  (K29 w44)
  (∃ J45 : Int → Int → World → Nat → Prop, (∃ m49, J45 0 0 w44 m49) ∧
  ∀ (x46 : Int) (x47 : Int), ∀ w48 m49, J45 x46 x47 w48 m49 →
  sp (decide ((x47 : Int) < (nx40 : Nat)))
  (∀ K51 : Int → World → Prop, (∀ (x52 : Int), ∀ w53, (
  ∃ m50, m50 < m49 ∧ J45 x52 (IntKind.wrap .i64 (x47 + 1)) w53 m50) → K51 x52 w53) →
  0 ≤ (x47 : Int) ∧ (x47 : Int) < (nx40 : Nat) ∧
  ptAt ax40 fun b54 o55 =>
  ∃ (x56 : Int), cel w48 b54 (o55 + x47.toNat * 1) = some (.int .i64 x56) ∧
  ∃ (ax57 : Option Addr) (nx57 cx57 : Nat), cel w48 b20 0 = some (.slice ax57 nx57 cx57) ∧
  0 ≤ (x25 : Int) ∧ (x25 : Int) < (nx57 : Nat) ∧
  ptAt ax57 fun b58 o59 =>
  ∃ (x60 : Option Nat), cel w48 b58 (o59 + x25.toNat * 1) = some (.map x60) ∧
  ∃ (x61 : Bool), Sem.run Pg (Instr.lookup 56 (.map x60) (.int .i64 x56) false) w48 = .ok (.bool x61) w48 ∧
  sp x61
  (∃ (ax62 : Option Addr) (nx62 cx62 : Nat), cel w48 b42 0 = some (.slice ax62 nx62 cx62) ∧
  0 ≤ (x47 : Int) ∧ (x47 : Int) < (nx62 : Nat) ∧
  ptAt ax62 fun b63 o64 =>
  ∃ (x65 : Int), cel w48 b63 (o64 + x47.toNat * 1) = some (.int .i64 x65) ∧
  K51 (IntKind.wrap .i64 (x46 + x65)) w48)
  (K51 x46 w48))
  (∃ J66 : Int → World → Nat → Prop, (∃ m69, J66 0 w48 m69) ∧
  ∀ (x67 : Int), ∀ w68 m69, J66 x67 w68 m69 →
  0 ≤ (IntKind.wrap .u64 (nx40 : Nat) : Int) ∧
  sp (decide ((x67 : Int) < IntKind.wrap .i64 (1 * 2 ^ (min (IntKind.wrap .u64 (nx40 : Nat) : Int).toNat 64))))
  (∀ K71 : World → Prop, (∀ w72, (
  ∃ m70, m70 < m69 ∧ J66 (IntKind.wrap .i64 (x67 + 1)) w72 m70) → K71 w72) →
  AlP 3 [] w68 fun b73 w74 =>
  ∃ J75 : Option Addr → Nat → Nat → Int → World → Nat → Prop, (∃ m79, J75 (some ⟨b73, 0, none⟩) 0 0 0 w74 m79) ∧
  ∀ (ax76 : Option Addr) (nx76 cx76 : Nat) (x77 : Int), ∀ w78 m79, J75 ax76 nx76 cx76 x77 w78 m79 →
  sp (decide ((x77 : Int) < (nx40 : Nat)))
  (∀ K81 : Option Addr → Nat → Nat → World → Prop, (∀ (ax82 : Option Addr) (nx82 cx82 : Nat), ∀ w83, (
  ∃ m80, m80 < m79 ∧ J75 ax82 nx82 cx82 (IntKind.wrap .i64 (x77 + 1)) w83 m80) → K81 ax82 nx82 cx82 w83) →
  0 ≤ (IntKind.wrap .u64 x77 : Int) ∧
  sp (decide ((bitsI .and .i64 (Int.fdiv x67 (2 ^ (min (IntKind.wrap .u64 x77 : Int).toNat 64))) 1 : Int) = 1))
  (AlP 3 [.int .i64 x77] w78 fun b84 w85 =>
  ∃ (ax86 : Option Addr) (nx86 cx86 : Nat), ∃ w87 : World, Sem.run Pg (Builtin.append_ #[34, 34] 34 ⟨[.slice ax76 nx76 cx76, .slice (some ⟨b84, 0, none⟩) 1 1]⟩) w85 = .ok (.slice ax86 nx86 cx86) w87 ∧
  K81 ax86 nx86 cx86 w87)
  (K81 ax76 nx76 cx76 w78))
  (∃ (ax88 : Option Addr) (nx88 cx88 : Nat) (ax89 : Option Addr) (nx89 cx89 : Nat) (ax90 : Option Addr) (nx90 cx90 : Nat) (ax91 : Option Addr) (nx91 cx91 : Nat), Row w78 b42 0 [.slice ax88 nx88 cx88, .slice ax89 nx89 cx89, .slice ax90 nx90 cx90, .slice ax91 nx91 cx91] ∧
  CallP Pg 19 [.agg ⟨[.slice ax88 nx88 cx88, .slice ax89 nx89 cx89, .slice ax90 nx90 cx90, .slice ax91 nx91 cx91]⟩, .slice ax76 nx76 cx76] w78 fun v92 w93 => ∃ (x94 : Int), v92 = .int .i64 x94 ∧
  sp (decide ((x94 : Int) < x46))
  (∃ (ax95 : Option Addr) (nx95 cx95 : Nat) (ax96 : Option Addr) (nx96 cx96 : Nat) (ax97 : Option Addr) (nx97 cx97 : Nat) (ax98 : Option Addr) (nx98 cx98 : Nat), Row w93 b42 0 [.slice ax95 nx95 cx95, .slice ax96 nx96 cx96, .slice ax97 nx97 cx97, .slice ax98 nx98 cx98] ∧
  CallP Pg 20 [.agg ⟨[.slice ax95 nx95 cx95, .slice ax96 nx96 cx96, .slice ax97 nx97 cx97, .slice ax98 nx98 cx98]⟩, .slice ax76 nx76 cx76] w93 fun v99 w100 => ∃ (x101 : Bool), v99 = .bool x101 ∧
  sp x101
  (R (.bool false) w100)
  (K71 w100))
  (K71 w93)))
  (K29 w68)))))
  (R (.bool true) w26))) → K9 w10) →
  ∀ K102 : World → Prop, (∀ w103, (
  R (.bool true) w103) → K102 w103) →
  ∃ (ax104 : Option Addr) (nx104 cx104 : Nat) (ax105 : Option Addr) (nx105 cx105 : Nat) (x106 : Int), Row w7 b4 0 [.slice ax104 nx104 cx104, .slice ax105 nx105 cx105, .int .i64 x106] ∧
  CallP Pg 9 [.agg ⟨[.slice ax104 nx104 cx104, .slice ax105 nx105 cx105, .int .i64 x106]⟩] w7 fun v107 w108 => ∃ (x109 : Bool), v107 = .bool x109 ∧
  sp (!x109)
  (K102 w108)
  (∃ (ax110 : Option Addr) (nx110 cx110 : Nat) (ax111 : Option Addr) (nx111 cx111 : Nat) (x112 : Int), Row w108 b4 0 [.slice ax110 nx110 cx110, .slice ax111 nx111 cx111, .int .i64 x112] ∧
  CallP Pg 11 [.agg ⟨[.slice ax110 nx110 cx110, .slice ax111 nx111 cx111, .int .i64 x112]⟩] w108 fun v113 w114 => ∃ (x115 : Int), v113 = .int .i64 x115 ∧
  sp (!decide ((x115 : Int) = 0))
  (K102 w114)
  (K9 w114)))
def T5 : List Sh := [.v (.agg [.sl, .sl, (.int .i64)]), .v (.one .ptr), .v (.one .bool), .v (.one .ptr), .v (.one (.int .i64)), .v (.one (.int .i64)), .v (.one .ptr), .v (.one .sl), .v (.one (.int .i64)), .v (.one (.int .i64)), .v (.one (.int .i64)), .v (.one (.int .i64)), .v (.one (.int .i64)), .v (.one .sl), .v (.one (.int .i64)), .v (.one .bool), .v (.one .bool), .v (.agg [.sl, .sl, (.int .i64)]), .v (.one .bool), .v (.one .bool), .v (.one .bool), .v (.agg [.sl, .sl, (.int .i64)]), .v (.one (.int .i64)), .v (.one .bool), .v (.one .bool), .t [(.agg [.sl, .sl, (.int .i64)]), (.one (.int .i64))], .v (.agg [.sl, .sl, (.int .i64)]), .t [(.agg [.sl, .sl, (.int .i64)]), (.one (.int .i64))], .v (.agg [.sl, .sl, (.int .i64)]), .v (.one (.int .i64)), .v (.one (.int .i64)), .v (.one .bool), .v (.one .ptr), .v (.one .sl), .v (.one (.int .i64)), .v (.one (.int .i64)), .v (.one .bool), .v (.one (.int .i64)), .t [(.agg [.sl, .sl, .sl, .sl]), (.one .sl), (.one (.int .i64))], .v (.agg [.sl, .sl, (.int .i64)]), .v (.one (.int .i64)), .t [(.agg [.sl, .sl, .sl, .sl]), (.one .sl), (.one (.int .i64))], .v (.agg [.sl, .sl, .sl, .sl]), .v (.one .sl), .v (.one (.int .i64)), .v (.one (.int .i64)), .v (.one .bool), .v (.one .sl), .v (.one (.int .i64)), .v (.one .bool), .v (.one .sl), .v (.one (.int .i64)), .v (.one (.int .i64)), .v (.one .bool), .v (.one (.int .i64)), .v (.one .ptr), .v (.one (.int .i64)), .v (.one .ptr), .v (.one .sl), .v (.one (.int .i64)), .v (.one .ptr), .v (.one .map), .v (.one (.int .i64)), .v (.one .bool), .v (.one (.int .i64)), .v (.one .ptr), .v (.one .sl), .v (.one (.int .i64)), .v (.one .ptr), .v (.one (.int .i64)), .v (.one (.int .i64)), .v (.one (.int .i64)), .v (.one (.int .i64)), .v (.one .sl), .v (.one (.int .i64)), .v (.one (.int .u64)), .v (.one (.int .i64)), .v (.one .bool), .v (.one (.int .i64)), .v (.one (.int .i64)), .v (.one .sl), .v (.one .sl), .v (.one (.int .i64)), .v (.one (.int .i64)), .v (.one .bool), .v (.one (.int .i64)), .v (.one (.int .i64)), .v (.one (.int .i64)), .v (.one (.int .u64)), .v (.one (.int .i64)), .v (.one (.int .i64)), .v (.one .bool), .v (.one .sl), .v (.one (.int .i64)), .v (.one .sl), .v (.one .sl), .v (.one (.int .i64)), .v (.agg [.sl, .sl, .sl, .sl]), .v (.one .sl), .v (.one (.int .i64)), .v (.one (.int .i64)), .v (.one .bool), .v (.one .bool), .v (.agg [.sl, .sl, .sl, .sl]), .v (.one .sl), .v (.one .bool), .v (.one .bool), .v (.one (.int .i64))]
def A5 : Ann := (.seq none .z (.seq none (.seq none .z (.cond (.seq none .z .z) .z)) (.seq (some []) (.ifs (some []) none (.seq none .z .z) .z) (.seq none .z (.seq none (.seq none .z (.cond (.seq none .z .z) .z)) (.seq none (.seq none .z (.block none (.loop [35] (.seq none .z (.seq none (.cond .z .z) (.seq none (.block (some []) (.seq none .z (.seq none .z (.seq none (.seq none .z (.cond (.seq none .z .z) .z)) (.seq none (.seq none .z (.cond .z .z)) (.seq none .z (.seq none (.seq none .z (.block none (.loop [9, 52] (.seq none .z (.seq none (.cond .z .z) (.seq none (.block (some [9]) (.seq none .z (.seq none .z (.cond .z .z)))) .z)))))) (.seq none .z (.block none (.loop [12] (.seq none (.seq none .z (.cond .z .z)) (.seq none (.block (some []) (.seq none .z (.seq none (.seq none .z (.block none (.loop [13, 83] (.seq none .z (.seq none (.cond .z .z) (.seq none (.block (some [13]) (.seq none .z (.seq none .z (.cond .z .z)))) .z)))))) (.ifs none none (.seq none .z .z) .z)))) .z)))))))))))) .z)))))) (.seq none .z .z)))))))
theorem F5_eq (ax1 : Option Addr) (nx1 cx1 : Nat) (ax2 : Option Addr) (nx2 cx2 : Nat) (x3 : Int) (w : World) (R : Value → World → Prop) : F5 ax1 nx1 cx1 ax2 nx2 cx2 x3 w R = denF Go.Proofs.Try.prog T5 Go.Proofs.Try.f5 A5 [.agg ⟨[.slice ax1 nx1 cx1, .slice ax2 nx2 cx2, .int .i64 x3]⟩] w R := by kernel_rfl
theorem F5_ok (ax1 : Option Addr) (nx1 cx1 : Nat) (ax2 : Option Addr) (nx2 cx2 : Nat) (x3 : Int) {w : World} {R : Value → World → Prop} (h : F5 ax1 nx1 cx1 ax2 nx2 cx2 x3 w R) : CallP Go.Proofs.Try.prog 5 [.agg ⟨[.slice ax1 nx1 cx1, .slice ax2 nx2 cx2, .int .i64 x3]⟩] w R :=
  calls_den (fun _ => drawn (by kernel_rfl)) Go.Proofs.Try.func5 (Nat.le_of_ble_eq_true (by kernel_rfl)) ((F5_eq ax1 nx1 cx1 ax2 nx2 cx2 x3 w R).mp h)
end Go.Pl.Try

/- 'HardenLeast': walked. -/
namespace Go.Pl.Try
open M
set_option linter.unusedVariables false
theorem u64_pos {k : Nat} (h : k ≤ 10) : 0 ≤ IntKind.wrap .u64 (k : Int) := by
  rcases (by omega : k = 0 ∨ k = 1 ∨ k = 2 ∨ k = 3 ∨ k = 4 ∨ k = 5 ∨ k = 6 ∨ k = 7 ∨ k = 8 ∨ k = 9 ∨ k = 10) with e | e | e | e | e | e | e | e | e | e | e <;> subst e <;> decide
theorem shl_of {k : Nat} (h : k ≤ 10) : ∃ b : Nat, b ≤ 1024 ∧ IntKind.wrap .i64 (1 * 2 ^ (min (IntKind.wrap .u64 (k : Int) : Int).toNat 64)) = (b : Int) := by
  rcases (by omega : k = 0 ∨ k = 1 ∨ k = 2 ∨ k = 3 ∨ k = 4 ∨ k = 5 ∨ k = 6 ∨ k = 7 ∨ k = 8 ∨ k = 9 ∨ k = 10) with e | e | e | e | e | e | e | e | e | e | e <;> subst e
  · exact ⟨1, by omega, by decide⟩
  · exact ⟨2, by omega, by decide⟩
  · exact ⟨4, by omega, by decide⟩
  · exact ⟨8, by omega, by decide⟩
  · exact ⟨16, by omega, by decide⟩
  · exact ⟨32, by omega, by decide⟩
  · exact ⟨64, by omega, by decide⟩
  · exact ⟨128, by omega, by decide⟩
  · exact ⟨256, by omega, by decide⟩
  · exact ⟨512, by omega, by decide⟩
  · exact ⟨1024, by omega, by decide⟩
theorem hzFn_w (f : Fnc) (lab : Int → Int) (writes : List Bool) (fn : Int) (sinks : List Snk) : ∀ x ∈ (hzFn f lab writes fn sinks).weights, 1 ≤ x ∧ x ≤ 10000 := by
  rw [(hzFn_same f lab writes fn sinks).w]
  exact hzBlks_w lab _ _ _ _ _ (fun x hx => by cases hx)
theorem least_law_w {w : World} {p : Prg} {vs : List Value} (h : RProg w vs p) :
    CallP Pg 5 [.agg ⟨vs⟩] w (Tr w) := by
  have hP := h
  obtain ⟨aa, na, ca, af, nf, cf, rfl, harr, hfun⟩ := h
  have hfl := hfun.len
  refine F5_ok _ _ _ _ _ _ _ ?_
  unfold F5
  refine alp (Hp.refl w) fun b4 w5 h5 => ?_
  refine (head_w w5).mono ?_
  rintro _ w7 ⟨rfl, hx7⟩
  have h7 := h5.step hx7
  refine ⟨true, rfl, sp_false rfl ?_⟩
  intro K9 hK9 K102 hK102
  refine ⟨_, _, _, _, _, _, _, h7.row 0 rfl, ?_⟩
  refine (few_w (hP.ext h7.ext)).mono ?_
  rintro _ w108 ⟨q, rfl, hx108, hfew⟩
  have h108 := h7.step hx108
  refine ⟨q, rfl, ?_⟩
  cases q with
  | false => exact sp_true rfl (hK102 _ ⟨rfl, h108.ext⟩)
  | true =>
  have hfewp := hfew rfl
  have hl := hfewp.lim
  refine sp_false rfl ⟨_, _, _, _, _, _, _, h108.row 0 rfl, ?_⟩
  refine (check_w (hP.ext h108.ext) hl).mono ?_
  rintro _ w114 ⟨rfl, hx114⟩
  have h114 := h108.step hx114
  refine ⟨_, rfl, ?_⟩
  rcases Bool.eq_false_or_eq_true p.check with hck | hck
  rotate_left
  · rw [hck]; exact sp_true rfl (hK102 _ ⟨rfl, h114.ext⟩)
  rw [hck]
  refine sp_false rfl (hK9 _ ?_)
  clear hK9 hK102 K9 K102 hfew
  obtain ⟨S1, k1, hgo⟩ := fix_of hck p.noCut
  obtain ⟨fl, S2, hrun, hfa⟩ := ofRun_any hfewp hck ⟨k1, hgo⟩
  refine ⟨_, _, _, _, _, _, _, h114.row 0 rfl, ?_⟩
  refine (hof_w (hP.ext h114.ext) hl (fun _ => hrun)).mono ?_
  rintro _ w15 ⟨hx15, -, hgood⟩
  have h15 := h114.step hx15
  obtain ⟨us, rfl, ac, cc, ag, ng, cg, rfl, hcuts, hgs⟩ := hgood hck
  refine ⟨_, _, _, _, _, _, _, _, rfl, ?_⟩
  refine alp (Hp.refl w15) fun b20 w21 h21 => ?_
  refine stp h21 0 rfl (by simp) rfl fun w22 h22 => ?_
  have hx22 := h22.ext
  have h22 := h15.call h22
  refine sp_false rfl ⟨_, _, _, h22.cl 1 rfl rfl, ?_⟩
  have hfle := hfun.le
  -- what stays
  have r4 : ∀ {w1 : World}, Ext w22 w1 → Row w1 b4 0 [.slice aa na ca, .slice af nf cf, .int .i64 p.main] := fun hx => hx.row (h22.row 1 rfl)
  have c20 : ∀ {w1 : World}, Ext w22 w1 → cel w1 b20 0 = some (.slice ac p.funcs.length cc) := fun hx => hx.cel (h22.cl 0 rfl rfl)
  have hx15w : Ext w w22 := h22.ext
  have hcutk : ∀ {w1 : World}, Ext w22 w1 → ∀ k, k < p.funcs.length → ∃ b o mb ob, ac = some ⟨b, o, none⟩ ∧ cel w1 b (o + k * 1) = some (.map (some mb)) ∧ w1.heap[mb]? = some ob ∧ MpO (trues (p.cutKeys S1 fl k)) ob := by
    intro w1 hx k hk
    obtain ⟨b, o, mb, ob, e1, e2, e3, e4⟩ := hcuts k hk
    have hx2 := hx22.trans hx
    exact ⟨b, o, mb, ob, e1, hx2.cel e2, by rw [hx2.blk mb (Array.getElem?_eq_some_iff.1 e3).1]; exact e3, e4⟩
  refine ⟨fun i w' c => ∃ (j : Nat), i = j ∧ j ≤ nf ∧ c = nf - j ∧ Ext w22 w', ⟨nf, 0, rfl, by omega, by omega, Ext.refl _⟩, ?_⟩
  rintro i w26 c ⟨k, rfl, hk, rfl, hx26⟩
  refine sp_dec (fun hlt => ?_) (fun hge => ⟨rfl, hx15w.trans hx26⟩)
  intro K29 hK29
  have next : ∀ w', Ext w22 w' → K29 w' := fun w' hx => hK29 _ ⟨nf - (k + 1), by omega, k + 1, wrap_succ (by omega), by omega, rfl, hx⟩
  refine ⟨_, _, _, _, _, _, _, r4 hx26, ?_⟩
  refine (net_w ((hP.ext hx15w).ext hx26) hl k (fun _ => ⟨k1, hgo⟩)).mono ?_
  rintro v34 w35 hN
  obtain ⟨us, a40, n40, c40, rfl, hnet, hvals⟩ := hN.good hck (by omega) (by omega)
  rw [Int.toNat_natCast] at hnet hvals
  obtain ⟨f, hf⟩ := at_some (l := p.funcs) (j := k) (by omega)
  obtain ⟨-, -, honce, -⟩ := prog_facts hck hf
  obtain ⟨Z, hZ⟩ : ∃ Z, Z = p.hz S1 k := ⟨_, rfl⟩
  have hZf : Z = hzFn f (S1.get k) p.writes k (p.sinks S1) := by rw [hZ, Prg.hz, hf]
  have hfitk := hfa.fit k (by omega)
  have hfik := hfa.fi k (by omega)
  have hfink := hfa.fin k (by omega)
  have hkeys : p.cutKeys S1 fl k = Z.cutVals (cutOf (fl k).seek Z.weights.length) := by rw [Prg.cutKeys, Prg.cutList, ← hZ]
  rw [← hZ] at hnet hvals hfitk hfik
  have hwin : ∀ x ∈ Z.weights, 1 ≤ x ∧ x ≤ 10000 := by rw [hZf]; exact hzFn_w _ _ _ _ _
  have hnd : Z.vals.Nodup := by rw [hZf, (hzFn_same _ _ _ _ _).v]; exact z1_nodup honce
  have hwv : Z.weights.length = Z.vals.length := by rw [hZ]; exact p.hz_wv S1 k
  have hN2 := hnet
  obtain ⟨aw, nw, cw, ay, ny, cy, ar, nr, cr, at_, nt, ct, rfl, hwts, -, -, -⟩ := hnet
  change RdI w35 aw nw Z.weights at hwts
  have hvl := hvals.len
  have hwl := hwts.len
  have hx35 := hx26.trans hN.ext
  refine ⟨_, _, _, _, _, _, _, _, _, _, _, _, _, _, _, _, rfl, ?_⟩
  refine alp (Hp.refl w35) fun b42 w43 h43 => ?_
  refine stp h43 0 rfl (by simp) rfl fun w44 h44 => ?_
  refine sp_false rfl (sp_dec (fun _ => next _ (hx35.trans h44.ext)) (fun hten => ?_))
  obtain ⟨B42, hB42⟩ : ∃ B : Nat × Obj, B = (b42, Cl 62 [.slice aw nw cw, .slice ay ny cy, .slice ar nr cr, .slice at_ nt ct]) := ⟨_, rfl⟩
  have h44 : Hp w35 w44 [B42] := by subst hB42; exact h44
  have c42 : ∀ {w1 : World}, Ext w44 w1 → cel w1 b42 0 = some (.slice aw nw cw) ∧ Row w1 b42 0 [.slice aw nw cw, .slice ay ny cy, .slice ar nr cr, .slice at_ nt ct] := by
    intro w1 hx
    subst hB42
    exact ⟨hx.cel (h44.cl 0 rfl rfl), hx.row (h44.row 0 rfl)⟩
  obtain ⟨ks, hks⟩ : ∃ l, l = p.cutKeys S1 fl k := ⟨_, rfl⟩
  refine ⟨fun own i w' c => ∃ (j : Nat), i = j ∧ j ≤ n40 ∧ c = n40 - j ∧ own = ownTo Z ks j ∧ w44 = w', ⟨n40, 0, rfl, by omega, by omega, by simp [ownTo], rfl⟩, ?_⟩
  rintro own i _ c ⟨j, rfl, hj, rfl, rfl, rfl⟩
  have hin := ownTo_in hwin ks j
  refine sp_dec (fun hlt2 => ?_) (fun hge2 => ?_)
  · intro K51 hK51
    obtain ⟨x, hx⟩ := at_some (l := Z.vals) (j := j) (by omega)
    obtain ⟨y, hy⟩ := at_some (l := Z.weights) (j := j) (by omega)
    obtain ⟨bx, ox, hax, hcx⟩ := RdI.at (hvals.ext h44.ext) hx
    obtain ⟨bu, ou, hau, hcu⟩ := RdI.at (hwts.ext h44.ext) hy
    obtain ⟨bm, om, mb, ob, e1, e2, e3, e4⟩ := hcutk (hx35.trans h44.ext) k (by omega)
    have hlook := look_map (P := Pg) (t := 56) mpCut (z := .bool false) (by kernel_rfl) (p := some mb) (f := fun q => mget (trues ks) q) ⟨ob, e3, _, by rw [hks]; exact e4, fun _ => rfl⟩ x
    have hsucc := ownTo_succ Z ks j
    have hxg : Z.vals.getD j 0 = x := by rw [List.getD_eq_getElem?_getD, hx]; rfl
    have hyg : Z.weights.getD j 0 = y := by rw [List.getD_eq_getElem?_getD, hy]; rfl
    have hyb := hwin y (List.mem_of_getElem? hy)
    rw [hxg, hyg] at hsucc
    rw [trues_get] at hlook
    by_cases hm : x ∈ ks
    · rw [if_pos hm] at hlook hsucc
      refine ⟨by omega, by omega, ptAt_of hax ⟨x, hcx, _, _, _, c20 (hx35.trans h44.ext), by omega, by omega, ptAt_of e1 ⟨_, e2, true, hlook, sp_true rfl ⟨_, _, _, (c42 (Ext.refl _)).1, by omega, by omega, ptAt_of hau ⟨y, hcu, hK51 _ _ ⟨n40 - (j + 1), by omega, j + 1, wrap_succ (by simp only [maxLen]; omega), by omega, rfl, ?_, rfl⟩⟩⟩⟩⟩⟩
      rw [hsucc, wrap_in (by omega) (by omega)]
    · rw [if_neg hm] at hlook hsucc
      exact ⟨by omega, by omega, ptAt_of hax ⟨x, hcx, _, _, _, c20 (hx35.trans h44.ext), by omega, by omega, ptAt_of e1 ⟨_, e2, false, hlook, sp_false rfl (hK51 _ _ ⟨n40 - (j + 1), by omega, j + 1, wrap_succ (by simp only [maxLen]; omega), by omega, rfl, by rw [hsucc]; omega, rfl⟩)⟩⟩⟩
  have hjn : j = Z.vals.length := by omega
  subst hjn
  have hown : ownTo Z ks Z.vals.length = Z.net.weight (cutOf (fl k).seek Z.net.weights.length) := by rw [hks, hkeys]; exact own_eq hnd hwv _
  obtain ⟨bn, hbn, hbe⟩ := shl_of (k := n40) (by omega)
  obtain ⟨own, howne⟩ : ∃ o, o = ownTo Z ks Z.vals.length := ⟨_, rfl⟩
  rw [← howne] at hown hin ⊢
  refine ⟨fun x w' c => ∃ (u : Nat), x = u ∧ u ≤ bn ∧ c = bn - u ∧ Ext w44 w', ⟨bn, 0, rfl, by omega, by omega, Ext.refl _⟩, ?_⟩
  rintro x w68 c ⟨u, rfl, hu, rfl, hx68⟩
  refine ⟨u64_pos (by omega), ?_⟩
  rw [hbe]
  have hx68w := (hx35.trans h44.ext).trans hx68
  refine sp_dec (fun hlt3 => ?_) (fun hge3 => next _ hx68w)
  intro K71 hK71
  have nx : ∀ w', Ext w44 w' → K71 w' := fun w' hx => hK71 _ ⟨bn - (u + 1), by omega, u + 1, wrap_succ (by simp only [maxLen]; omega), by omega, rfl, hx⟩
  refine alp (Hp.refl w68) fun b73 w74 h74 => ?_
  refine ⟨fun a nn cc x w' c => ∃ (t : Nat) (l : List Int) (r : Rw), x = t ∧ t ≤ n40 ∧ c = n40 - t ∧ nn = l.length ∧ l.length ≤ t ∧ Sls 1 a nn cc (ints l) r ∧ Hp w68 w' (r.L 3 (ints l) ++ []) ∧ ∀ v ∈ l, Z.net.has v = true,
    ⟨n40, 0, [], .emp, rfl, by omega, by omega, rfl, by simp, Sls.nil 1 _, h74.drop 1, by simp⟩, ?_⟩
  clear h74
  rintro a76 n76 c76 x w78 c ⟨t, l, r, rfl, ht, rfl, rfl, hlt4, hs, h78, hlh⟩
  refine sp_dec (fun hlt5 => ?_) (fun hge5 => ?_)
  · intro K81 hK81
    refine ⟨u64_pos (by omega), sp_of (fun _ => ?_) (fun _ => hK81 _ _ _ _ ⟨n40 - (t + 1), by omega, t + 1, l, r, wrap_succ (by simp only [maxLen]; omega), by omega, rfl, rfl, by omega, hs, h78, hlh⟩)⟩
    refine alp h78 fun b84 w85 h85 => ?_
    obtain ⟨a', c', w87, r', hrun, hs', h87⟩ := app1 (ty := 34) slInts (by omega) hs [(b84, Cl 3 [.int .i64 (t : Nat)])] (L := []) h85 0 rfl rfl rfl (by simp only [maxLen]; omega) (by omega)
    have he1 : ints l ++ [.int .i64 ((t : Nat) : Int)] = ints (l ++ [((t : Nat) : Int)]) := by simp
    rw [he1] at hs' h87
    refine ⟨_, _, _, w87, hrun, hK81 _ _ _ _ ⟨n40 - (t + 1), by omega, t + 1, l ++ [(t : Int)], r', wrap_succ (by simp only [maxLen]; omega), by omega, rfl, by simp, by simp; omega, hs', h87.drop 1, fun v hv => ?_⟩⟩
    rcases List.mem_append.1 hv with hv | hv
    · exact hlh v hv
    · rw [List.mem_singleton.1 hv]
      unfold Net.has
      show (decide (0 ≤ ((t : Nat) : Int)) && decide (((t : Nat) : Int) < ((Z.weights.length : Nat) : Int))) = true
      simp only [Bool.and_eq_true, decide_eq_true_eq]
      omega
  have hx78 := hx68.trans h78.ext
  have hx78b := h44.ext.trans hx78
  have hrd : RdI w78 a76 l.length l := rdI_owns (e := 3) hs fun q hq => (h78.own q (List.mem_append_left _ hq)).2
  refine ⟨_, _, _, _, _, _, _, _, _, _, _, _, (c42 hx78).2, ?_⟩
  refine (weight_w (RNet.ext hx78b hN2) hrd (fun x hx => by have := hwin x hx; omega) (by omega)).mono ?_
  rintro _ w93 ⟨rfl, hx93⟩
  refine ⟨_, rfl, sp_dec (fun hless => ?_) (fun _ => nx _ (hx78.trans hx93))⟩
  have hx93b := hx78.trans hx93
  refine ⟨_, _, _, _, _, _, _, _, _, _, _, _, (c42 hx93b).2, ?_⟩
  refine (cuts_w (RNet.ext (hx78b.trans hx93) hN2) hfitk (RdI.ext hrd hx93)).mono ?_
  rintro _ w100 ⟨q, rfl, hx100, hyes, -⟩
  refine ⟨q, rfl, ?_⟩
  cases q with
  | false => exact sp_false rfl (nx _ (hx93b.trans hx100))
  | true =>
    obtain ⟨R, hc⟩ := hyes rfl
    have := cut_least (Net.inR hfitk.right) hfik (mk_f0 hfitk) hfink hc hlh
    omega
end Go.Pl.Try

/- A program that is handed in, opened: from how it reads as data to how it lies. -/
namespace Go.Pl
open M
set_option linter.unusedVariables false
set_option linter.unusedSimpArgs false
abbrev In64 (x : Int) : Prop := -9223372036854775808 ≤ x ∧ x ≤ 9223372036854775807
theorem in64 {n : Int} (h : (Lit.int .i64 n).wf = true) : In64 n := by
  simp only [Lit.wf, Bool.and_eq_true, decide_eq_true_eq] at h
  have e1 : IntKind.i64.min = -9223372036854775808 := by decide
  have e2 : IntKind.i64.max = 9223372036854775807 := by decide
  rw [e1, e2] at h
  exact h
def I64s (xs : List Int) : Prop := ∀ x ∈ xs, In64 x
structure _root_.Go.Pl.M.Edg.I64 (x : Edg) : Prop where
  to : In64 x.to
  args : I64s x.args
structure _root_.Go.Pl.M.Ins.I64 (i : Ins) : Prop where
  op : In64 i.op
  dst : In64 i.dst
  args : I64s i.args
  num : In64 i.num
  bin : In64 i.bin
  arr : In64 i.arr
  fn : In64 i.fn
structure _root_.Go.Pl.M.Blk.I64 (b : Blk) : Prop where
  params : I64s b.params
  ins : ∀ i ∈ b.ins, i.I64
  kind : In64 b.fin.kind
  val : In64 b.fin.val
  ways : ∀ x ∈ b.fin.ways, x.I64
  trap : In64 b.fin.trap
def _root_.Go.Pl.M.Fnc.I64 (f : Fnc) : Prop := ∀ b ∈ f.blocks, b.I64
structure _root_.Go.Pl.M.Arr.I64 (x : Arr) : Prop where
  hold : In64 x.hold
  size : In64 x.size
structure _root_.Go.Pl.M.Prg.I64 (p : Prg) : Prop where
  arrs : ∀ x ∈ p.arrs, x.I64
  funcs : ∀ f ∈ p.funcs, f.I64
  main : In64 p.main
theorem pick {α : Type} {Q : Nat → α → Prop} : ∀ n, (∀ i, i < n → ∃ y, Q i y) → ∃ ys : List α, ys.length = n ∧ ∀ i y, ys[i]? = some y → Q i y
  | 0, _ => ⟨[], rfl, fun i y h => by simp at h⟩
  | n + 1, h => by
    obtain ⟨ys, hl, hy⟩ := pick n fun i hi => h i (by omega)
    obtain ⟨y, hq⟩ := h n (by omega)
    refine ⟨ys ++ [y], by simp [hl], fun i z hz => ?_⟩
    by_cases hi : i < n
    · exact hy i z (by rwa [List.getElem?_append_left (by omega)] at hz)
    · have : i = n := by
        have := (List.getElem?_eq_some_iff.1 hz).1
        simp [hl] at this; omega
      subst this
      rw [List.getElem?_append_right (by omega)] at hz
      simp [hl] at hz
      subst hz; exact hq
section
variable {H : Type} {enc : TypeId × Value → H} {P : Program} {w : World} {base : Nat} {spare : Nat → Bool} {held : Bool}
/-- .. behind the call, where what was there stays. -/
theorem trod_ext {w' : World} {t : TypeId} {v : Value} {d : DataW H} {ps : List MemPlace} (hx : Ext w w') (h : DataW.Trod enc P w base spare held t v d ps) : DataW.Trod enc P w' base spare held t v d ps := by
  obtain ⟨n, hn⟩ := h
  refine ⟨n, DataW.trod_carry n t _ _ hn fun p hp => ?_⟩
  have hlt := DataW.trod_lt n t _ _ hn p hp
  cases p with
  | cell b off =>
    show w'.cell? _ = w.cell? _
    have := hx.blk b hlt
    simp only [World.cell?, this]
  | map b => exact hx.blk b hlt
theorem op_slice {α : Type} {R : World → List Value → α → Prop} {B : α → Prop} {t e size : Nat} (ht : P.underlying t = some (.slice e)) (hc : P.cellsOf e = size) (hp : 0 < size)
    (one : ∀ fuel cs x, cs.length = size → DataW.trod enc P w base spare held fuel e cs = some x → ∃ y, R w cs y ∧ B y)
    {fuel : Nat} {cs : List Value} {x : DataW H × List MemPlace} (h : DataW.trod enc P w base spare held fuel t cs = some x) :
    ∃ a n c ys, cs = [.slice a n c] ∧ n ≤ c ∧ RdS size R w a n ys ∧ ∀ y ∈ ys, B y := by
  rcases Go.Deep.open_slice ht h with ⟨rfl, _⟩ | ⟨a, len, cap, m, n, D, Pl, rfl, hb, hl, hm, hmm, _, hx⟩
  · exact ⟨none, 0, 0, [], rfl, Nat.le_refl _, RdS.nil _ _ _ _, by simp⟩
  · have hlm : len ≤ m := by rw [hmm]; split <;> omega
    obtain ⟨ys, hyl, hy⟩ := pick (α := α) (Q := fun i y => ∃ cs', w.cells? base (a.add (i * P.cellsOf e)) (P.cellsOf e) = some cs' ∧ R w cs' y ∧ B y) len fun i hi => by
      obtain ⟨cs', h1, h2⟩ := hx i (by omega)
      obtain ⟨y, h3, h4⟩ := one n cs' _ (by rw [← hc]; exact (World.cells?_some h1).2.1) h2
      exact ⟨y, cs', h1, h3, h4⟩
    refine ⟨some a, len, cap, ys, rfl, hl, ⟨hyl, by omega, fun i y hi => ?_⟩, fun y hm => ?_⟩
    · obtain ⟨cs', h1, h2, h3⟩ := hy i y hi
      obtain ⟨_, hlen, hcell⟩ := World.cells?_some h1
      rw [hc] at hcell hlen
      have hil := (List.getElem?_eq_some_iff.1 hi).1
      obtain ⟨cs0, g1, _, _⟩ := hy 0 _ (List.getElem?_eq_getElem (by omega))
      obtain ⟨_, glen, gcell⟩ := World.cells?_some g1
      rw [hc] at gcell glen
      obtain ⟨b, o, spot⟩ := a
      have h0 := gcell 0 hp
      rw [List.getElem?_eq_getElem (by omega)] at h0
      have hspot : spot = none := by
        have := World.cell?_spot h0
        simpa [Addr.add] using this
      subst hspot
      refine ⟨b, o, cs', rfl, fun j v hj => ?_, hlen, h2⟩
      have hjl := (List.getElem?_eq_some_iff.1 hj).1
      have := hcell j (by omega)
      rw [hj, Go.WideShapes.add_plain, Go.WideShapes.add_plain] at this
      exact this
    · obtain ⟨i, hi⟩ := List.mem_iff_getElem?.1 hm
      obtain ⟨_, _, _, h⟩ := hy i y hi
      exact h
end
section
variable {H : Type} {enc : TypeId × Value → H} {w : World} {base : Nat} {spare : Nat → Bool} {held : Bool}
theorem op_int {t fuel : Nat} {cs : List Value} {x : DataW H × List MemPlace} (ht : Go.Proofs.Try.prog.underlying t = some (.int .i64)) (h : DataW.trod enc Go.Proofs.Try.prog w base spare held fuel t cs = some x) : ∃ n, cs = [.int .i64 n] ∧ In64 n := by
  obtain ⟨n, h1, _, h2⟩ := DataW.trod_int ht h
  exact ⟨n, h1, in64 h2⟩
theorem op_ints {fuel : Nat} {cs : List Value} {x : DataW H × List MemPlace} (h : DataW.trod enc Go.Proofs.Try.prog w base spare held fuel 34 cs = some x) : ∃ a n c ys, cs = [.slice a n c] ∧ n ≤ c ∧ RdI w a n ys ∧ I64s ys :=
  op_slice (R := RI .i64) (B := In64) Go.Proofs.Try.underlying34 (by kernel_rfl) (by omega) (fun fuel cs x hl h => let ⟨n, h1, h2⟩ := op_int Go.Proofs.Try.underlying3 h; ⟨n, h1, h2⟩) h
theorem fld {t fuel : Nat} {fs : Array Field} {cs : List Value} {x : DataW H × List MemPlace} (ht : Go.Proofs.Try.prog.underlying t = some (.struct fs)) (h : DataW.trod enc Go.Proofs.Try.prog w base spare held fuel t cs = some x) (i : Nat) (f : Field) (hf : fs[i]? = some f)
    (n : Nat) (hc : Go.Proofs.Try.prog.cellsOf f.type = n) : ∃ m y, DataW.trod enc Go.Proofs.Try.prog w base spare held m f.type ((cs.drop f.offset).take n) = some y := by
  obtain ⟨xs, m, _, _, _, hxl, hg⟩ := DataW.trod_struct ht h
  have := hg i f hf
  have hi := (Array.getElem?_eq_some_iff.1 hf).1
  rw [hc, List.getElem?_eq_getElem (by omega)] at this
  exact ⟨m, _, this⟩
theorem op_edge (fuel : Nat) (cs : List Value) (x : DataW H × List MemPlace) (hl : cs.length = 2) (h : DataW.trod enc Go.Proofs.Try.prog w base spare held fuel 41 cs = some x) : ∃ y, REdge w cs y ∧ y.I64 := by
  match cs, hl with
  | [c0, c1], _ =>
  obtain ⟨_, _, h0⟩ := fld Go.Proofs.Try.underlying41 h 0 _ rfl 1 (by kernel_rfl)
  obtain ⟨_, _, h1⟩ := fld Go.Proofs.Try.underlying41 h 1 _ rfl 1 (by kernel_rfl)
  obtain ⟨to, e0, b0⟩ := op_int Go.Proofs.Try.underlying3 h0
  obtain ⟨a, n, c, ys, e1, _, r1, b1⟩ := op_ints h1
  cases e0; cases e1
  exact ⟨⟨to, ys⟩, ⟨a, n, c, rfl, r1⟩, b0, b1⟩
theorem op_ins (fuel : Nat) (cs : List Value) (x : DataW H × List MemPlace) (hl : cs.length = 7) (h : DataW.trod enc Go.Proofs.Try.prog w base spare held fuel 37 cs = some x) : ∃ y, RIns w cs y ∧ y.I64 := by
  match cs, hl with
  | [c0, c1, c2, c3, c4, c5, c6], _ =>
  obtain ⟨_, _, h0⟩ := fld Go.Proofs.Try.underlying37 h 0 _ rfl 1 (by kernel_rfl)
  obtain ⟨_, _, h1⟩ := fld Go.Proofs.Try.underlying37 h 1 _ rfl 1 (by kernel_rfl)
  obtain ⟨_, _, h2⟩ := fld Go.Proofs.Try.underlying37 h 2 _ rfl 1 (by kernel_rfl)
  obtain ⟨_, _, h3⟩ := fld Go.Proofs.Try.underlying37 h 3 _ rfl 1 (by kernel_rfl)
  obtain ⟨_, _, h4⟩ := fld Go.Proofs.Try.underlying37 h 4 _ rfl 1 (by kernel_rfl)
  obtain ⟨_, _, h5⟩ := fld Go.Proofs.Try.underlying37 h 5 _ rfl 1 (by kernel_rfl)
  obtain ⟨_, _, h6⟩ := fld Go.Proofs.Try.underlying37 h 6 _ rfl 1 (by kernel_rfl)
  obtain ⟨x0, e0, b0⟩ := op_int Go.Proofs.Try.underlying33 h0
  obtain ⟨x1, e1, b1⟩ := op_int Go.Proofs.Try.underlying3 h1
  obtain ⟨a, n, c, ys, e2, hc, r2, b2⟩ := op_ints h2
  obtain ⟨x3, e3, b3⟩ := op_int Go.Proofs.Try.underlying2 h3
  obtain ⟨x4, e4, b4⟩ := op_int Go.Proofs.Try.underlying35 h4
  obtain ⟨x5, e5, b5⟩ := op_int Go.Proofs.Try.underlying3 h5
  obtain ⟨x6, e6, b6⟩ := op_int Go.Proofs.Try.underlying3 h6
  cases e0; cases e1; cases e2; cases e3; cases e4; cases e5; cases e6
  exact ⟨⟨x0, x1, ys, x3, x4, x5, x6⟩, ⟨a, n, c, rfl, r2, hc⟩, b0, b1, b2, b3, b4, b5, b6⟩
theorem op_block (fuel : Nat) (cs : List Value) (x : DataW H × List MemPlace) (hl : cs.length = 6) (h : DataW.trod enc Go.Proofs.Try.prog w base spare held fuel 47 cs = some x) : ∃ y, RBlock w cs y ∧ y.I64 := by
  match cs, hl with
  | [c0, c1, c2, c3, c4, c5], _ =>
  obtain ⟨_, _, h0⟩ := fld Go.Proofs.Try.underlying47 h 0 _ rfl 1 (by kernel_rfl)
  obtain ⟨_, _, h1⟩ := fld Go.Proofs.Try.underlying47 h 1 _ rfl 1 (by kernel_rfl)
  obtain ⟨_, _, h2⟩ := fld Go.Proofs.Try.underlying47 h 2 _ rfl 4 (by kernel_rfl)
  obtain ⟨_, _, g0⟩ := fld Go.Proofs.Try.underlying45 h2 0 _ rfl 1 (by kernel_rfl)
  obtain ⟨_, _, g1⟩ := fld Go.Proofs.Try.underlying45 h2 1 _ rfl 1 (by kernel_rfl)
  obtain ⟨_, _, g2⟩ := fld Go.Proofs.Try.underlying45 h2 2 _ rfl 1 (by kernel_rfl)
  obtain ⟨_, _, g3⟩ := fld Go.Proofs.Try.underlying45 h2 3 _ rfl 1 (by kernel_rfl)
  obtain ⟨ap, np, cp, ps, e0, _, r0, b0⟩ := op_ints h0
  obtain ⟨ai, ni, ci, is, e1, _, r1, b1⟩ := op_slice (R := RIns) (B := Ins.I64) Go.Proofs.Try.underlying38 (by kernel_rfl) (by omega) op_ins h1
  obtain ⟨kd, e2, b2⟩ := op_int Go.Proofs.Try.underlying39 g0
  obtain ⟨vl, e3, b3⟩ := op_int Go.Proofs.Try.underlying3 g1
  obtain ⟨ae, ne, ce, ws, e4, _, r4, b4⟩ := op_slice (R := REdge) (B := Edg.I64) Go.Proofs.Try.underlying42 (by kernel_rfl) (by omega) op_edge g2
  obtain ⟨tp, e5, b5⟩ := op_int Go.Proofs.Try.underlying43 g3
  cases e0; cases e1; cases e2; cases e3; cases e4; cases e5
  exact ⟨⟨ps, is, kd, vl, ws, tp⟩, ⟨ap, np, cp, ai, ni, ci, ae, ne, ce, rfl, r0, r1, r4⟩, b0, b1, b2, b3, b4, b5⟩
theorem op_func (fuel : Nat) (cs : List Value) (x : DataW H × List MemPlace) (hl : cs.length = 2) (h : DataW.trod enc Go.Proofs.Try.prog w base spare held fuel 29 cs = some x) : ∃ y, RFunc w cs y ∧ y.I64 := by
  match cs, hl with
  | [c0, c1], _ =>
  obtain ⟨_, _, h0⟩ := fld Go.Proofs.Try.underlying29 h 0 _ rfl 1 (by kernel_rfl)
  obtain ⟨_, _, h1⟩ := fld Go.Proofs.Try.underlying29 h 1 _ rfl 1 (by kernel_rfl)
  obtain ⟨nm, e0, _⟩ := DataW.trod_string Go.Proofs.Try.underlying9 h0
  obtain ⟨a, n, c, bs, e1, _, r1, b1⟩ := op_slice (R := RBlock) (B := Blk.I64) Go.Proofs.Try.underlying27 (by kernel_rfl) (by omega) op_block h1
  cases e0; cases e1
  exact ⟨⟨nm, bs⟩, ⟨a, n, c, rfl, r1⟩, b1⟩
theorem op_arr (fuel : Nat) (cs : List Value) (x : DataW H × List MemPlace) (hl : cs.length = 3) (h : DataW.trod enc Go.Proofs.Try.prog w base spare held fuel 25 cs = some x) : ∃ y, RArr w cs y ∧ y.I64 := by
  match cs, hl with
  | [c0, c1, c2], _ =>
  obtain ⟨_, _, h0⟩ := fld Go.Proofs.Try.underlying25 h 0 _ rfl 1 (by kernel_rfl)
  obtain ⟨_, _, h1⟩ := fld Go.Proofs.Try.underlying25 h 1 _ rfl 1 (by kernel_rfl)
  obtain ⟨_, _, h2⟩ := fld Go.Proofs.Try.underlying25 h 2 _ rfl 1 (by kernel_rfl)
  obtain ⟨nm, e0, _⟩ := DataW.trod_string Go.Proofs.Try.underlying9 h0
  obtain ⟨x1, e1, b1⟩ := op_int Go.Proofs.Try.underlying23 h1
  obtain ⟨x2, e2, b2⟩ := op_int Go.Proofs.Try.underlying3 h2
  cases e0; cases e1; cases e2
  exact ⟨⟨nm, x1, x2⟩, rfl, b1, b2⟩
theorem op_prog {v : Value} {d : DataW H} {ps : List MemPlace} (hv : ∃ cs : Array Value, v = .agg cs ∧ cs.size = 3) (h : DataW.Trod enc Go.Proofs.Try.prog w base spare held 32 v d ps) : ∃ vs p, v = .agg ⟨vs⟩ ∧ RProg w vs p ∧ p.I64 := by
  obtain ⟨cs, rfl, hs⟩ := hv
  obtain ⟨cs⟩ := cs
  obtain ⟨fuel, h⟩ := h
  have hl : cs.length = 3 := by simpa using hs
  have h : DataW.trod enc Go.Proofs.Try.prog w base spare held fuel 32 cs = some (d, ps) := h
  match cs, hl with
  | [c0, c1, c2], _ =>
  obtain ⟨_, _, h0⟩ := fld Go.Proofs.Try.underlying32 h 0 _ rfl 1 (by kernel_rfl)
  obtain ⟨_, _, h1⟩ := fld Go.Proofs.Try.underlying32 h 1 _ rfl 1 (by kernel_rfl)
  obtain ⟨_, _, h2⟩ := fld Go.Proofs.Try.underlying32 h 2 _ rfl 1 (by kernel_rfl)
  obtain ⟨aa, na, ca, ar, e0, _, r0, b0⟩ := op_slice (R := RArr) (B := Arr.I64) Go.Proofs.Try.underlying26 (by kernel_rfl) (by omega) op_arr h0
  obtain ⟨af, nf, cf, fs, e1, _, r1, b1⟩ := op_slice (R := RFunc) (B := Fnc.I64) Go.Proofs.Try.underlying30 (by kernel_rfl) (by omega) op_func h1
  obtain ⟨mn, e2, b2⟩ := op_int Go.Proofs.Try.underlying3 h2
  cases e0; cases e1; cases e2
  exact ⟨_, ⟨ar, fs, mn⟩, rfl, ⟨aa, na, ca, af, nf, cf, rfl, r0, r1⟩, b0, b1, b2⟩
end
end Go.Pl

/- What stays of the arguments behind a call that makes new blocks alone. -/
namespace Go.Pl
set_option linter.unusedVariables false
theorem ext_keptB {w w' : World} (h : Ext w w') (may : MemPlace → Prop) : w.keptBut w' may := by
  refine ⟨h.os, h.out, fun i hi => ?_⟩
  rw [h.blk i hi]
  split
  · rename_i h1 h2
    rw [h1] at h2
    cases h2
    exact ⟨rfl, rfl, rfl, fun _ _ => rfl⟩
  · rename_i h1 h2
    rw [h1] at h2
    cases h2
    exact .inr ⟨rfl, rfl⟩
  · rfl
section
variable {H : Type} {enc : TypeId × Value → H} {P : Program} {base : Nat} {spare : Nat → Bool} {held : Bool}
theorem trodAll_ext {w w' : World} (hx : Ext w w') : ∀ {ts : List TypeId} {vs : List Value} {ds : List (DataW H)} {ps : List MemPlace}, DataW.TrodAll enc P w base spare held ts vs ds ps → DataW.TrodAll enc P w' base spare held ts vs ds ps
  | [], [], [], _, h => h
  | _ :: _, _ :: _, _ :: _, _, ⟨p, q, h1, h2, e⟩ => ⟨p, q, trod_ext hx h1, trodAll_ext hx h2, e⟩
end
theorem kidsA : Kids Go.Proofs.Try.prog (· < Go.Proofs.Try.prog.types.size) := kids_rows (by kernel_rfl) (by kernel_rfl)
theorem fullA : ∀ t e, t < Go.Proofs.Try.prog.types.size → Go.Proofs.Try.prog.underlying t = some (.slice e) → 0 < Go.Proofs.Try.prog.cellsOf e := slices_full_of _ (by kernel_rfl)
theorem args_again {H : Type} {enc : TypeId × Value → H} {w w' : World} (hx : Ext w w') {ts : List TypeId} {vs : List Value} {ds : List (DataW H)} {ps : List MemPlace} (ht : ∀ t ∈ ts, t < Go.Proofs.Try.prog.types.size) (h : DataW.TrodAll enc Go.Proofs.Try.prog w 0 (fun _ => true) true ts vs ds ps) :
    DataW.TrodAll enc Go.Proofs.Try.prog w' 0 (fun b => decide (b < w.heap.size)) true ts vs ds ps :=
  DataW.TrodAll.respare kidsA fullA ht (trodAll_ext hx h) fun p hp => by simpa using DataW.TrodAll.lt h p hp
theorem prog_wide {w : World} {r : Reach} {b : Nat} {v : Value} (h : Value.okWide Go.Proofs.Try.prog w r b 32 v) : ∃ cs : Array Value, v = .agg cs ∧ cs.size = 3 := by
  unfold Value.okWide at h
  rw [Go.Proofs.Try.underlying32] at h
  obtain ⟨cs, h1, h2, _⟩ := h
  have k : Go.Proofs.Try.prog.cellsOf 32 = 3 := by kernel_rfl
  rw [k] at h2
  exact ⟨cs, h1, h2⟩
end Go.Pl
