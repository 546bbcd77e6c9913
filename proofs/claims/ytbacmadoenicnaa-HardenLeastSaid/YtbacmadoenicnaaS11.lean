/- Joined texts of the proof, part 11: WCheck, F12, WTaint4, F22, WSinks. -/
import Derived.Test.YtbacmadoenicnaaS10
set_option maxRecDepth 2000
set_option linter.unusedVariables false
set_option linter.unusedSimpArgs false
set_option linter.unusedSectionVars false
/- 'Check', walked. -/
namespace Go.Pl.Try
open M
set_option linter.unusedVariables false
theorem all_take_step {α : Type} {p : α → Bool} {xs : List α} {j : Nat} {x : α} (hx : xs[j]? = some x) (h : (xs.take j).all p = true) (hp : p x = true) : (xs.take (j + 1)).all p = true := by
  rw [List.take_add_one, List.all_append, h, hx]; simp [hp]
theorem all_bad {α : Type} {p : α → Bool} {xs : List α} {j : Nat} {x : α} (hx : xs[j]? = some x) (hp : p x = false) : xs.all p = false := by
  rw [List.all_eq_false]; exact ⟨x, List.mem_of_getElem? hx, by rw [hp]; decide⟩
theorem all_done {α : Type} {p : α → Bool} {xs : List α} {n : Nat} (hl : xs.length = n) (h : (xs.take n).all p = true) : xs.all p = true := by
  rw [List.take_of_length_le (by omega)] at h; exact h
theorem check_w {w : World} {p : Prg} {vs : List Value} (h : RProg w vs p) (hl : p.Lim) :
    CallP Pg 11 [.agg ⟨vs⟩] w fun v w' => v = .int .i64 (if p.check then 0 else 40) ∧ Ext w w' := by
  have hP := h
  obtain ⟨aa, na, ca, af, nf, cf, rfl, harr, hfun⟩ := h
  have harl := harr.len
  have harle := harr.le
  have hfl := hfun.len
  have hfle := hfun.le
  refine F11_ok _ _ _ _ _ _ _ ?_
  unfold F11
  refine alp (Hp.refl w) fun b4 w5 h5 => ⟨_, _, _, h5.cl 0 rfl rfl, ?_⟩
  generalize hbx : Cl 32 [.slice aa na ca, .slice af nf cf, .int .i64 p.main] = box at *
  have hbad : p.check = false → ∀ w', Ext w w' → (fun (v : Value) w' => v = .int .i64 (if p.check then 0 else 40) ∧ Ext w w') (.int .i64 40) w' := fun hf w' hx => ⟨by rw [hf]; rfl, hx⟩
  refine ⟨fun i w' c => ∃ j : Nat, i = j ∧ j ≤ na ∧ c = na - j ∧ Hp w w' [(b4, box)] ∧ (p.arrs.take j).all arrOk = true, ⟨na, 0, rfl, by omega, by omega, h5, by simp⟩, ?_⟩
  rintro i w9 c ⟨j, rfl, hj, rfl, h9, harrs⟩
  refine sp_dec (fun hlt => ?_) (fun hge => ?_)
  · intro K12 hK12
    have hx : p.arrs[j]? = some p.arrs[j] := List.getElem?_eq_getElem (by omega)
    generalize p.arrs[j] = x at hx
    obtain ⟨bb, ob, vs, ha, hrow, hvl, rfl⟩ := harr.at_ _ _ hx
    refine ⟨by omega, by omega, ptAt_of ha ⟨_, _, _, h9.ext.row hrow, ?_⟩⟩
    refine alp h9 fun b19 w20 h20 => ?_
    refine stp h20 0 rfl (by simp) rfl fun w21 h21 => ?_
    intro K22 hK22
    have hb : arrOk x = false → K22 w21 := fun hf => hK22 _ (hbad (by rw [Prg.check, all_bad hx hf]; simp) _ h21.ext)
    refine ⟨_, h21.cl 0 rfl rfl, sp_dec (fun g1 => hb ?_) (fun g1 => ⟨_, h21.cl 0 rfl rfl, sp_dec (fun g2 => hb ?_) (fun g2 => ⟨_, h21.cl 0 rfl rfl, sp_dec (fun g3 => hb ?_) (fun g3 => ⟨_, h21.cl 0 rfl rfl, sp_dec (fun g4 => hb ?_) (fun g4 => ?_)⟩)⟩)⟩)⟩
    · have : ¬ 0 ≤ x.size := by omega
      simp [arrOk, this]
    · have : ¬ x.size ≤ 4096 := by omega
      simp [arrOk, this]
    · have : ¬ 0 ≤ x.hold := by omega
      simp [arrOk, this]
    · have : ¬ x.hold ≤ 2 := by omega
      simp [arrOk, this]
    · refine hK12 _ ⟨na - (j + 1), by omega, j + 1, wrap_succ (by omega), by omega, rfl, h21.drop 1, all_take_step hx harrs ?_⟩
      have e1 : 0 ≤ x.size := by omega
      have e2 : x.size ≤ 4096 := by omega
      have e3 : 0 ≤ x.hold := by omega
      have e4 : x.hold ≤ 2 := by omega
      simp [arrOk, e1, e2, e3, e4]
  · have hjn : j = na := by omega
    have hall := all_done (p := arrOk) harl (by rw [← hjn]; exact harrs)
    intro K28 hK28 K120 hK120
    have hgood : p.mainOk = true → ∀ w29, Hp w w29 [(b4, box)] → K28 w29 := by
      intro hm w29 h29
      have hck : p.check = p.funcs.all (Fnc.fits p) := by rw [Prg.check, hall, hm]; simp
      refine hK28 _ ⟨_, _, _, by subst hbx; exact h29.cl 0 rfl rfl, ?_⟩
      refine ⟨fun i w' c => ∃ j : Nat, i = j ∧ j ≤ nf ∧ c = nf - j ∧ Hp w w' [(b4, box)] ∧ (p.funcs.take j).all (Fnc.fits p) = true, ⟨nf, 0, rfl, by omega, by omega, h29, by simp⟩, ?_⟩
      rintro i w33 c ⟨j, rfl, hj, rfl, h33, hfs⟩
      refine sp_dec (fun hlt => ?_) (fun hge => ?_)
      · have hx : p.funcs[j]? = some p.funcs[j] := List.getElem?_eq_getElem (by omega)
        generalize p.funcs[j] = f at hx
        have hflim := hl.each f (List.mem_of_getElem? hx)
        obtain ⟨bb, ob, vs, ha, hrow, hvl, hRf⟩ := hfun.at_ _ _ hx
        have hRf0 := hRf
        obtain ⟨ab, nb, cb, rfl, hbs⟩ := hRf
        have hbl := hbs.len
        have hble := hbs.le
        have hfb : f.fits p = false → p.check = false := fun hf => by rw [hck, all_bad hx hf]
        refine ⟨by omega, by omega, ptAt_of ha ⟨_, _, _, _, h33.ext.row hrow, ?_⟩⟩
        refine alp h33 fun b40 w41 h41 => ?_
        refine stp h41 0 rfl (by simp) rfl fun w42 h42 => ?_
        have h42 : Hp w w42 [(b40, Cl 29 [.string f.name, .slice ab nb cb]), (b4, box)] := h42
        intro K43 hK43 K107 hK107
        have hb7 : f.fits p = false → ∀ w', Ext w w' → K107 w' := fun hf w' hx => hK107 _ (hbad (hfb hf) _ hx)
        refine ⟨_, _, _, h42.cl 0 rfl rfl, sp_dec (fun g1 => hb7 (by simp [Fnc.fits, show f.blocks.length = 0 by omega]) _ h42.ext) (fun g1 => ⟨_, _, _, _, h42.row 0 rfl, ?_⟩)⟩
        refine (params_w f.name (hbs.ext h42.ext)).mono ?_
        rintro v w113 ⟨a', n', c', rfl, hpar, hx113⟩
        have h113 := h42.step hx113
        have hpl := hpar.len
        refine ⟨_, _, _, rfl, sp_dec (fun g2 => hb7 (by simp [Fnc.fits, show 6 < f.params.length by omega]) _ h113.ext) (fun g2 => ⟨_, _, _, _, h113.row 0 rfl, ?_⟩)⟩
        refine (once_w (hRf0.ext' h113.ext) hflim).mono ?_
        rintro v w118 ⟨rfl, hx118⟩
        have h118 := h113.step hx118
        refine ⟨_, rfl, sp_of (fun g3 => hb7 ?_ _ h118.ext) (fun g3 => ?_)⟩
        · have : once f = false := by simpa using g3
          simp [Fnc.fits, this]
        have hon : once f = true := by simpa using g3
        refine hK43 _ ⟨_, _, _, h118.cl 0 rfl rfl, ?_⟩
        have hfits : f.fits p = (f.blocks.all (fun b => endsOk f.blocks b.fin && !(b.ins.any fun i => !rightOk p i)) &&
            (List.range f.blocks.length).all f.usedAt) := by
          have e1 : ¬ f.blocks.length = 0 := by omega
          have e2 : ¬ 6 < f.params.length := by omega
          rw [Fnc.fits, hon]; simp only [e1, e2, decide_false, Bool.not_false, Bool.true_and]
        refine ⟨fun i w' c => ∃ q : Nat, i = q ∧ q ≤ nb ∧ c = nb - q ∧ Hp w w' [(b40, Cl 29 [.string f.name, .slice ab nb cb]), (b4, box)] ∧ (f.blocks.take q).all (fun b => endsOk f.blocks b.fin && !(b.ins.any fun i => !rightOk p i)) = true,
          ⟨nb, 0, rfl, by omega, by omega, h118, by simp⟩, ?_⟩
        rintro i w48 c ⟨q, rfl, hq, rfl, h48, hbks⟩
        refine sp_dec (fun hlt2 => ?_) (fun hge2 => ?_)
        · intro K51 hK51
          have hy : f.blocks[q]? = some f.blocks[q] := List.getElem?_eq_getElem (by omega)
          generalize f.blocks[q] = b at hy
          obtain ⟨bt, ot, ap, np, cp, ai, ni, ci, ae, ne, ce, hat, hrowt, hp, hi, he⟩ := blkOf hbs hy
          refine ⟨by omega, by omega, ptAt_of hat ⟨_, _, _, _, _, _, _, _, _, _, _, _, h48.ext.row hrowt, ?_⟩⟩
          refine alp h48 fun b61 w62 h62 => ?_
          refine stp h62 0 rfl (by simp) rfl fun w63 h63 => ?_
          have h63 : Hp w w63 [(b61, Cl 47 [.slice ap np cp, .slice ai ni ci, .int .i64 b.fin.kind, .int .i64 b.fin.val, .slice ae ne ce, .int .i64 b.fin.trap]), (b40, Cl 29 [.string f.name, .slice ab nb cb]), (b4, box)] := h63
          intro K64 hK64
          have hb8 : (endsOk f.blocks b.fin && !(b.ins.any fun i => !rightOk p i)) = false → ∀ w', Ext w w' → K64 w' := fun hf w' hx => hK64 _ (hbad (hfb (by rw [hfits, all_bad hy hf]; rfl)) _ hx)
          have hr2 : Row w63 b61 2 [.int .i64 b.fin.kind, .int .i64 b.fin.val, .slice ae ne ce, .int .i64 b.fin.trap] := by
            intro k v hk
            exact h63.row 0 rfl (2 + k) v (by rw [Nat.add_comm]; exact hk) |> fun h => by rw [Nat.zero_add] at h; exact h
          refine ⟨_, _, _, _, h63.row 1 rfl, _, _, _, _, _, _, hr2, ?_⟩
          refine (ends_w (hRf0.ext' h63.ext) (RdWays.ext he h63.ext)).mono ?_
          rintro v w73 ⟨rfl, hx73⟩
          have h73 := h63.step hx73
          refine ⟨_, rfl, sp_of (fun g4 => hb8 ?_ _ h73.ext) (fun g4 => ⟨_, _, _, h73.cl 0 rfl rfl, ?_⟩)⟩
          · have : endsOk f.blocks b.fin = false := by simpa using g4
            rw [this]; rfl
          have he4 : endsOk f.blocks b.fin = true := by simpa using g4
          refine (hasIns_w (fun i => !rightOk p i) (RdInss.ext hi h73.ext) ?_).mono ?_
          · intro x _ us w1 hus hx1
            refine ⟨by kernel_rfl, ?_⟩
            exact check1_w (hP.ext (h73.ext.trans hx1)) hus (hx1.row (h73.row 2 (by subst hbx; rfl)))
          · rintro v w77 ⟨rfl, hx77⟩
            have h77 := h73.step hx77
            refine ⟨_, rfl, sp_of (fun g5 => hb8 ?_ _ h77.ext) (fun g5 => ?_)⟩
            · rw [he4, g5]; rfl
            · exact hK51 _ ⟨nb - (q + 1), by omega, q + 1, wrap_succ (by omega), by omega, rfl, h77.drop 1, all_take_step hy hbks (by rw [he4, g5]; rfl)⟩
        · have hqn : q = nb := by omega
          have hball := all_done (p := fun b : Blk => endsOk f.blocks b.fin && !(b.ins.any fun i => !rightOk p i)) hbl (by rw [← hqn]; exact hbks)
          have hways : ∀ b ∈ f.blocks, b.fin.ways.all (wayOk f.blocks) = true := by
            intro b hb
            have := (List.all_eq_true.1 hball) b hb
            rw [Bool.and_eq_true] at this
            have h1 := this.1
            unfold endsOk at h1
            simp only [Bool.and_eq_true] at h1
            exact h1.2
          rw [hball, Bool.true_and] at hfits
          refine ⟨_, _, _, _, h48.row 0 rfl, ?_⟩
          refine (known_w (hRf0.ext' h48.ext) hflim hways (Fnc.kn_go hways)).mono ?_
          rintro v w82 ⟨bk, rfl, hx82, hkn, hknl, hknlt⟩
          have h82 := h48.step hx82
          rw [hbl] at hknl ⊢
          refine ⟨_, _, _, rfl, ?_⟩
          refine ⟨fun i w' c => ∃ s : Nat, i = s ∧ s ≤ nb ∧ c = nb - s ∧ Hp w w' [(b40, Cl 29 [.string f.name, .slice ab nb cb]), (b4, box)] ∧ Ext w82 w' ∧ ((List.range f.blocks.length).take s).all f.usedAt = true,
            ⟨nb, 0, rfl, by omega, by omega, h82, Ext.refl _, by simp⟩, ?_⟩
          rintro i w86 c ⟨s, rfl, hs, rfl, h86, hx86, hus⟩
          refine sp_dec (fun hlt3 => ?_) (fun hge3 => ?_)
          · intro K89 hK89
            have hz : (List.range f.blocks.length)[s]? = some s := by rw [List.getElem?_range (by omega)]
            have hy : f.blocks[s]? = some f.blocks[s] := List.getElem?_eq_getElem (by omega)
            generalize f.blocks[s] = b at hy
            obtain ⟨r, hr⟩ : ∃ r, f.kn.ins[s]? = some r := ⟨_, List.getElem?_eq_getElem (by omega)⟩
            obtain ⟨pr, hc, hnone, hmap⟩ := hkn s r hr
            obtain ⟨bt, ot, ap, np, cp, ai, ni, ci, ae, ne, ce, hat, hrowt, hp, hi, he⟩ := blkOf hbs hy
            refine ⟨by omega, by omega, ptAt_of rfl ⟨pr, by simpa using hx86.cel hc, !pr.isNone, ?_, sp_of (fun g => ?_) (fun g => ?_)⟩⟩
            · exact neq_map_nil (k := 3) (e := 4) (by kernel_rfl) _ _ _ _
            · obtain ⟨i, rfl⟩ : ∃ i, r = some i := by
                cases r with
                | none => rw [hnone] at g; cases g
                | some i => exact ⟨i, rfl⟩
              have hi' := hknlt s i hr
              have hrm := (hmap i _ rfl (List.getElem?_eq_getElem hi')).ext hx86
              refine ⟨_, _, _, h86.cl 0 rfl rfl, by omega, by omega, ptAt_of hat ⟨_, _, _, _, _, _, _, _, _, _, _, _, h86.ext.row hrowt, ?_⟩⟩
              refine (used_w hrm (b := b) ⟨ap, np, cp, ai, ni, ci, ae, ne, ce, rfl, RdI.ext hp h86.ext, RdInss.ext hi h86.ext, RdWays.ext he h86.ext⟩).mono ?_
              rintro v w105 ⟨rfl, hx105⟩
              have hval : f.usedAt s = used (f.kn.sets[i]) b := by
                simp only [Fnc.usedAt, hr, hy, List.getD_eq_getElem?_getD, List.getElem?_eq_getElem hi', Option.getD_some]
              have h105 := h86.step hx105
              refine ⟨_, rfl, sp_of (fun g6 => ?_) (fun g6 => ?_)⟩
              · exact hbad (hfb (by rw [hfits, all_bad hz (by rw [hval]; simpa using g6)])) _ h105.ext
              · exact hK89 _ ⟨nb - (s + 1), by omega, s + 1, wrap_succ (by omega), by omega, rfl, h105, hx86.trans hx105, all_take_step hz hus (by rw [hval]; simpa using g6)⟩
            · have hrn : r = none := by
                cases r with
                | none => rfl
                | some i => rw [hnone] at g; cases g
              subst hrn
              exact hK89 _ ⟨nb - (s + 1), by omega, s + 1, wrap_succ (by omega), by omega, rfl, h86, hx86, all_take_step hz hus (by simp only [Fnc.usedAt, hr])⟩
          · have hsn : s = nb := by omega
            have hfit : f.fits p = true := by
              rw [hfits]
              exact all_done (n := nb) (by simp [hbl]) (by rw [← hsn]; exact hus)
            exact ⟨nf - (j + 1), by omega, j + 1, wrap_succ (by omega), by omega, rfl, h86.drop 1, all_take_step hx hfs hfit⟩
      · have hjn : j = nf := by omega
        have := all_done hfl (by rw [← hjn]; exact hfs)
        refine ⟨?_, h33.ext⟩
        rw [hck, this]; rfl
    have hb0 : p.mainOk = false → ∀ w', Ext w w' → K120 w' := fun hf w' hx => hK120 _ (hbad (by rw [Prg.check, hall, Bool.true_and, hf]; rfl) _ hx)
    subst hbx
    refine ⟨_, h9.cl 0 rfl rfl, sp_dec (fun g1 => hb0 (by simp [Prg.mainOk, show ¬ 0 ≤ p.main by omega]) _ h9.ext) (fun g1 => ⟨_, h9.cl 0 rfl rfl, _, _, _, h9.cl 0 rfl rfl, sp_dec (fun g2 => hb0 ?_ _ h9.ext) (fun g2 => ?_)⟩)⟩
    · rw [Prg.mainOk, List.getElem?_eq_none (by omega)]; simp
    · have hx : p.funcs[p.main.toNat]? = some p.funcs[p.main.toNat] := List.getElem?_eq_getElem (by omega)
      generalize p.funcs[p.main.toNat] = f at hx
      obtain ⟨bb, ob, vs, ha, hrow, hvl, ab, nb, cb, rfl, hbs⟩ := hfun.at_ _ _ hx
      refine ⟨_, _, _, h9.cl 0 rfl rfl, _, h9.cl 0 rfl rfl, by omega, by omega, ptAt_of ha ⟨_, _, _, _, h9.ext.row hrow, ?_⟩⟩
      refine (params_w f.name (hbs.ext h9.ext)).mono ?_
      rintro v w113 ⟨a', n', c', rfl, hpar, hx113⟩
      have hpl := hpar.len
      have h113 := h9.step hx113
      refine ⟨_, _, _, rfl, sp_dec (fun g3 => hb0 (by simp [Prg.mainOk, hx, show ¬ f.params.length = 0 by omega]) _ h113.ext) (fun g3 => hgood (by simp [Prg.mainOk, hx, show f.params.length = 0 by omega, show 0 ≤ p.main by omega]) _ h113)⟩
end Go.Pl.Try

/- What 'palings/taint.Of' does, read off its translation by gen.py. -/
namespace Go.Pl.Try
set_option linter.unusedVariables false
set_option maxRecDepth 100000
def F12 (ax1 : Option Addr) (nx1 cx1 : Nat) (ax2 : Option Addr) (nx2 cx2 : Nat) (x3 : Int) (ax4 : Option Addr) (nx4 cx4 : Nat) (w : World) (R : Value → World → Prop) : Prop :=
  AlP 32 [.slice ax1 nx1 cx1, .slice ax2 nx2 cx2, .int .i64 x3] w fun b5 w6 =>
  AlP 69 [.slice none 0 0, .slice none 0 0, .slice none 0 0, .slice none 0 0] w6 fun b7 w8 =>
  ∃ (ax9 : Option Addr) (nx9 cx9 : Nat) (ax10 : Option Addr) (nx10 cx10 : Nat) (x11 : Int), Row w8 b5 0 [.slice ax9 nx9 cx9, .slice ax10 nx10 cx10, .int .i64 x11] ∧
  CallP Pg 11 [.agg ⟨[.slice ax9 nx9 cx9, .slice ax10 nx10 cx10, .int .i64 x11]⟩] w8 fun v12 w13 => ∃ (x14 : Int), v12 = .int .i64 x14 ∧
  sp (!decide ((x14 : Int) = 0))
  (StP b7 0 [.slice none 0 0, .slice none 0 0, .slice none 0 0, .slice none 0 0] w13 fun w15 =>
  ∃ (ax16 : Option Addr) (nx16 cx16 : Nat) (ax17 : Option Addr) (nx17 cx17 : Nat) (ax18 : Option Addr) (nx18 cx18 : Nat) (ax19 : Option Addr) (nx19 cx19 : Nat), Row w15 b7 0 [.slice ax16 nx16 cx16, .slice ax17 nx17 cx17, .slice ax18 nx18 cx18, .slice ax19 nx19 cx19] ∧
  R (.tuple ⟨[.agg ⟨[.slice ax16 nx16 cx16, .slice ax17 nx17 cx17, .slice ax18 nx18 cx18, .slice ax19 nx19 cx19]⟩, .int .i64 40]⟩) w15)
  (∃ (ax20 : Option Addr) (nx20 cx20 : Nat) (ax21 : Option Addr) (nx21 cx21 : Nat) (x22 : Int), Row w13.drew b5 0 [.slice ax20 nx20 cx20, .slice ax21 nx21 cx21, .int .i64 x22] ∧
  ∃ (ax23 : Option Addr) (nx23 cx23 : Nat) (ax24 : Option Addr) (nx24 cx24 : Nat) (x25 : Int), Row w13.drew b5 0 [.slice ax23 nx23 cx23, .slice ax24 nx24 cx24, .int .i64 x25] ∧
  CallP Pg 15 [.agg ⟨[.slice ax23 nx23 cx23, .slice ax24 nx24 cx24, .int .i64 x25]⟩] w13.drew fun v26 w27 => ∃ (ax28 : Option Addr) (nx28 cx28 : Nat), v26 = .slice ax28 nx28 cx28 ∧
  Ext w13.drew w27 ∧
  AlP 110 [.slice ax20 nx20 cx20, .slice ax21 nx21 cx21, .int .i64 x22, .slice none 0 0, .slice none 0 0, .slice none 0 0, .slice none 0 0, .slice ax28 nx28 cx28, .bool false] w27 fun b29 w30 =>
  ∃ (ax31 : Option Addr) (nx31 cx31 : Nat), cel w30 b5 1 = some (.slice ax31 nx31 cx31) ∧
  ∃ J32 : Int → World → Nat → Prop, (∃ m35, J32 0 w30 m35) ∧
  ∀ (x33 : Int), ∀ w34 m35, J32 x33 w34 m35 →
  sp (decide ((x33 : Int) < (nx31 : Nat)))
  (∃ (ax37 : Option Addr) (nx37 cx37 : Nat), cel w34 b29 3 = some (.slice ax37 nx37 cx37) ∧
  AlM w34 fun b38 w39 =>
  AlP 80 [.map (some b38)] w39 fun b40 w41 =>
  ∃ (ax42 : Option Addr) (nx42 cx42 : Nat), ∃ w43 : World, Sem.run Pg (Builtin.append_ #[66, 66] 66 ⟨[.slice ax37 nx37 cx37, .slice (some ⟨b40, 0, none⟩) 1 1]⟩) w41 = .ok (.slice ax42 nx42 cx42) w43 ∧
  StP b29 3 [.slice ax42 nx42 cx42] w43 fun w44 =>
  AlM w44 fun b45 w46 =>
  ∀ K47 : World → Prop, (∀ w48, (
  ∃ (ax49 : Option Addr) (nx49 cx49 : Nat), cel w48 b29 6 = some (.slice ax49 nx49 cx49) ∧
  AlP 56 [.map (some b45)] w48 fun b50 w51 =>
  ∃ (ax52 : Option Addr) (nx52 cx52 : Nat), ∃ w53 : World, Sem.run Pg (Builtin.append_ #[48, 48] 48 ⟨[.slice ax49 nx49 cx49, .slice (some ⟨b50, 0, none⟩) 1 1]⟩) w51 = .ok (.slice ax52 nx52 cx52) w53 ∧
  StP b29 6 [.slice ax52 nx52 cx52] w53 fun w54 =>
  ∃ m36, m36 < m35 ∧ J32 (IntKind.wrap .i64 (x33 + 1)) w54 m36) → K47 w48) →
  sp (decide ((x33 : Int) < (nx4 : Nat)))
  (0 ≤ (x33 : Int) ∧ (x33 : Int) < (nx4 : Nat) ∧
  ptAt ax4 fun b55 o56 =>
  ∃ (x57 : Option Nat), cel w46 b55 (o56 + x33.toNat * 1) = some (.map x57) ∧
  ∃ (x58 : Option Addr), ∃ w59 : World, Sem.run Pg (Instr.range 56 (.map x57)) w46 = .ok (.pointer x58) w59 ∧
  ∃ J60 : World → Nat → Prop, (∃ m62, J60 w59 m62) ∧
  ∀ w61 m62, J60 w61 m62 →
  (∃ w64 : World, Sem.run Pg (Instr.next (.pointer x58) false 0) w61 = .ok (.tuple ⟨[.bool false]⟩) w64 ∧
  K47 w64) ∨
  (∃ (k66 v67 : Value) (w65 : World), Sem.run Pg (Instr.next (.pointer x58) false 0) w61 = .ok (.tuple ⟨[.bool true, k66, v67]⟩) w65 ∧
  ∃ (x71 : Int) (x72 : Bool), Sem.run Pg (Instr.entry (.pointer x58)) w65 = .ok (.tuple ⟨[.int .i64 x71, .bool x72]⟩) w65 ∧
  ∃ w73 : World, Sem.run Pg (Instr.mapUpdate 56 (.map (some b45)) (.int .i64 x71) (.bool x72)) w65 = .ok () w73 ∧
  ∃ m63, m63 < m62 ∧ J60 w73 m63))
  (K47 w46))
  (∃ (ax74 : Option Addr) (nx74 cx74 : Nat), cel w34 b5 1 = some (.slice ax74 nx74 cx74) ∧
  ∃ (ax75 : Option Addr) (nx75 cx75 : Nat), ∃ w76 : World, Sem.run Pg (Instr.makeSlice 67 (.int .i64 (nx74 : Nat)) (.int .i64 (nx74 : Nat))) w34 = .ok (.slice ax75 nx75 cx75) w76 ∧
  StP b29 5 [.slice ax75 nx75 cx75] w76 fun w77 =>
  ∃ (ax78 : Option Addr) (nx78 cx78 : Nat), cel w77 b5 0 = some (.slice ax78 nx78 cx78) ∧
  ∃ J79 : Int → World → Nat → Prop, (∃ m82, J79 0 w77 m82) ∧
  ∀ (x80 : Int), ∀ w81 m82, J79 x80 w81 m82 →
  sp (decide ((x80 : Int) < (nx78 : Nat)))
  (0 ≤ (x80 : Int) ∧ (x80 : Int) < (nx78 : Nat) ∧
  ptAt ax78 fun b84 o85 =>
  ∃ (x86 : ByteArray) (x87 : Int) (x88 : Int), Row w81 b84 (o85 + x80.toNat * 3) [.string x86, .int .i64 x87, .int .i64 x88] ∧
  AlP 25 [.string ⟨#[]⟩, .int .i64 0, .int .i64 0] w81 fun b89 w90 =>
  StP b89 0 [.string x86, .int .i64 x87, .int .i64 x88] w90 fun w91 =>
  ∀ K92 : Int → World → Prop, (∀ (x93 : Int), ∀ w94, (
  ∃ (ax95 : Option Addr) (nx95 cx95 : Nat), cel w94 b29 4 = some (.slice ax95 nx95 cx95) ∧
  AlP 79 [.int .i64 x93] w94 fun b96 w97 =>
  ∃ (ax98 : Option Addr) (nx98 cx98 : Nat), ∃ w99 : World, Sem.run Pg (Builtin.append_ #[67, 67] 67 ⟨[.slice ax95 nx95 cx95, .slice (some ⟨b96, 0, none⟩) 1 1]⟩) w97 = .ok (.slice ax98 nx98 cx98) w99 ∧
  StP b29 4 [.slice ax98 nx98 cx98] w99 fun w100 =>
  ∃ m83, m83 < m82 ∧ J79 (IntKind.wrap .i64 (x80 + 1)) w100 m83) → K92 x93 w94) →
  ∃ (x101 : Int), cel w91 b89 1 = some (.int .i64 x101) ∧
  sp (decide ((x101 : Int) = 2))
  (K92 2 w91)
  (K92 0 w91))
  (StP b29 8 [.bool true] w81 fun w102 =>
  ∃ J103 : World → Nat → Prop, (∃ m105, J103 w102 m105) ∧
  ∀ w104 m105, J103 w104 m105 →
  ∃ (x107 : Bool), cel w104 b29 8 = some (.bool x107) ∧
  sp x107
  (StP b29 8 [.bool false] w104 fun w108 =>
  ∃ (ax109 : Option Addr) (nx109 cx109 : Nat), cel w108 b5 1 = some (.slice ax109 nx109 cx109) ∧
  ∃ J110 : Int → World → Nat → Prop, (∃ m113, J110 0 w108 m113) ∧
  ∀ (x111 : Int), ∀ w112 m113, J110 x111 w112 m113 →
  sp (decide ((x111 : Int) < (nx109 : Nat)))
  (0 ≤ (x111 : Int) ∧ (x111 : Int) < (nx109 : Nat) ∧
  ptAt ax109 fun b115 o116 =>
  ∃ (x117 : ByteArray) (ax118 : Option Addr) (nx118 cx118 : Nat), Row w112 b115 (o116 + x111.toNat * 2) [.string x117, .slice ax118 nx118 cx118] ∧
  AlP 29 [.string ⟨#[]⟩, .slice none 0 0] w112 fun b119 w120 =>
  StP b119 0 [.string x117, .slice ax118 nx118 cx118] w120 fun w121 =>
  ∃ (x122 : ByteArray) (ax123 : Option Addr) (nx123 cx123 : Nat), Row w121 b119 0 [.string x122, .slice ax123 nx123 cx123] ∧
  CallP Pg 16 [.agg ⟨[.string x122, .slice ax123 nx123 cx123]⟩] w121 fun v124 w125 => ∃ (ax126 : Option Addr) (nx126 cx126 : Nat), v124 = .slice ax126 nx126 cx126 ∧
  ∃ J127 : Int → World → Nat → Prop, (∃ m130, J127 0 w125 m130) ∧
  ∀ (x128 : Int), ∀ w129 m130, J127 x128 w129 m130 →
  sp (decide ((x128 : Int) < (nx126 : Nat)))
  (∀ K132 : World → Prop, (∀ w133, (
  ∃ m131, m131 < m130 ∧ J127 (IntKind.wrap .i64 (x128 + 1)) w133 m131) → K132 w133) →
  0 ≤ (x128 : Int) ∧ (x128 : Int) < (nx126 : Nat) ∧
  ptAt ax126 fun b134 o135 =>
  ∃ (x136 : Bool), cel w129 b134 (o135 + x128.toNat * 1) = some (.bool x136) ∧
  sp x136
  (∃ (ax137 : Option Addr) (nx137 cx137 : Nat), cel w129 b119 1 = some (.slice ax137 nx137 cx137) ∧
  0 ≤ (x128 : Int) ∧ (x128 : Int) < (nx137 : Nat) ∧
  ptAt ax137 fun b138 o139 =>
  ∃ (ax140 : Option Addr) (nx140 cx140 : Nat) (ax141 : Option Addr) (nx141 cx141 : Nat) (x142 : Int) (x143 : Int) (ax144 : Option Addr) (nx144 cx144 : Nat) (x145 : Int), Row w129 b138 (o139 + x128.toNat * 6) [.slice ax140 nx140 cx140, .slice ax141 nx141 cx141, .int .i64 x142, .int .i64 x143, .slice ax144 nx144 cx144, .int .i64 x145] ∧
  CallP Pg 33 [.pointer (some ⟨b29, 0, none⟩), .int .i64 x111, .agg ⟨[.slice ax140 nx140 cx140, .slice ax141 nx141 cx141, .int .i64 x142, .int .i64 x143, .slice ax144 nx144 cx144, .int .i64 x145]⟩] w129 fun v146 w147 => v146 = .tuple ⟨[]⟩ ∧
  K132 w147)
  (K132 w129))
  (∃ m114, m114 < m113 ∧ J110 (IntKind.wrap .i64 (x111 + 1)) w129 m114))
  (∃ m106, m106 < m105 ∧ J103 w112 m106))
  (∃ (ax148 : Option Addr) (nx148 cx148 : Nat) (ax149 : Option Addr) (nx149 cx149 : Nat) (ax150 : Option Addr) (nx150 cx150 : Nat) (ax151 : Option Addr) (nx151 cx151 : Nat), Row w104 b29 3 [.slice ax148 nx148 cx148, .slice ax149 nx149 cx149, .slice ax150 nx150 cx150, .slice ax151 nx151 cx151] ∧
  StP b7 0 [.slice ax148 nx148 cx148, .slice ax149 nx149 cx149, .slice ax150 nx150 cx150, .slice ax151 nx151 cx151] w104 fun w152 =>
  ∃ (ax153 : Option Addr) (nx153 cx153 : Nat) (ax154 : Option Addr) (nx154 cx154 : Nat) (ax155 : Option Addr) (nx155 cx155 : Nat) (ax156 : Option Addr) (nx156 cx156 : Nat), Row w152 b7 0 [.slice ax153 nx153 cx153, .slice ax154 nx154 cx154, .slice ax155 nx155 cx155, .slice ax156 nx156 cx156] ∧
  R (.tuple ⟨[.agg ⟨[.slice ax153 nx153 cx153, .slice ax154 nx154 cx154, .slice ax155 nx155 cx155, .slice ax156 nx156 cx156]⟩, .int .i64 0]⟩) w152))))
def T12 : List Sh := [.v (.agg [.sl, .sl, (.int .i64)]), .v (.one .sl), .v (.one .ptr), .v (.one .any), .t [(.agg [.sl, .sl, .sl, .sl])], .v (.one (.int .i64)), .v (.one .ptr), .v (.one (.int .i64)), .v (.one .map), .v (.one (.int .i64)), .v (.one .bool), .v (.one .any), .v (.one .ptr), .v (.one (.int .i64)), .v (.one (.int .i64)), .v (.one .ptr), .v (.one (.int .i64)), .v (.one .bool), .v (.agg [.sl, .sl, (.int .i64)]), .v (.one (.int .i64)), .v (.one .bool), .v (.agg [.sl, .sl, .sl, .sl]), .v (.agg [.sl, .sl, (.int .i64)]), .v (.agg [.sl, .sl, (.int .i64)]), .v (.one .sl), .v (.agg [.sl, .sl, (.int .i64), .sl, .sl, .sl, .sl, .sl, .bool]), .v (.one .ptr), .v (.one .ptr), .v (.one .sl), .v (.one (.int .i64)), .v (.one (.int .i64)), .v (.one .bool), .v (.one (.int .i64)), .v (.one .ptr), .v (.one .ptr), .v (.one .ptr), .v (.one .ptr), .v (.one .ptr), .v (.one .sl), .v (.one .map), .v (.one .sl), .v (.one .sl), .v (.one .ptr), .v (.one .ptr), .v (.one .ptr), .v (.one .map), .v (.one (.int .i64)), .v (.one .sl), .v (.one (.int .i64)), .v (.one .bool), .v (.one .sl), .v (.one (.int .i64)), .v (.one .ptr), .v (.one .map), .v (.one .ptr), .v (.one .any), .v (.one .bool), .t [(.one (.int .i64)), (.one .bool)], .v (.one (.int .i64)), .v (.one .bool), .v (.one .map), .v (.one (.int .i64)), .v (.one .bool), .v (.one .ptr), .v (.one .ptr), .v (.one .ptr), .v (.one .ptr), .v (.one .ptr), .v (.one .sl), .v (.one .map), .v (.one .sl), .v (.one .sl), .v (.one .ptr), .v (.one .ptr), .v (.one .ptr), .v (.one (.int .i64)), .v (.one .ptr), .v (.one .ptr), .v (.one .sl), .v (.one (.int .i64)), .v (.one .sl), .v (.one .ptr), .v (.one .ptr), .v (.one .ptr), .v (.one .ptr), .v (.one .sl), .v (.one (.int .i64)), .v (.one (.int .i64)), .v (.one .bool), .v (.one .ptr), .v (.agg [.str, (.int .i64), (.int .i64)]), .v (.one .ptr), .v (.one (.int .i64)), .v (.one .bool), .v (.one .ptr), .v (.one .ptr), .v (.one .ptr), .v (.one .ptr), .v (.one .ptr), .v (.one .sl), .v (.one (.int .i64)), .v (.one .sl), .v (.one .sl), .v (.one .ptr), .v (.one .ptr), .v (.one .ptr), .v (.one (.int .i64)), .v (.one .ptr), .v (.one .ptr), .v (.one .ptr), .v (.one .ptr), .v (.one .ptr), .v (.one .ptr), .v (.one .bool), .v (.one .ptr), .v (.one .ptr), .v (.one .ptr), .v (.one .ptr), .v (.one .sl), .v (.one (.int .i64)), .v (.one (.int .i64)), .v (.one .bool), .v (.one (.int .i64)), .v (.one .ptr), .v (.agg [.str, .sl]), .v (.agg [.str, .sl]), .v (.one .sl), .v (.one (.int .i64)), .v (.one (.int .i64)), .v (.one .bool), .v (.one (.int .i64)), .v (.one .ptr), .v (.one .bool), .v (.one .bool), .v (.one .ptr), .v (.one (.int .i64)), .v (.one .ptr), .v (.one .sl), .v (.one (.int .i64)), .v (.one .ptr), .v (.agg [.sl, .sl, (.int .i64), (.int .i64), .sl, (.int .i64)]), .t [], .v (.one (.int .i64)), .v (.one (.int .i64)), .v (.one .ptr), .v (.one .ptr), .v (.one .ptr), .v (.agg [.sl, .sl, .sl, .sl])]
def A12 : Ann := (.seq none .z (.seq none (.seq none .z (.cond (.seq none .z .z) .z)) (.seq none (.dr [1, 1, 2, 0, 3, 0] [0, 1, 2, 3, 4, 5]) (.seq none (.seq none .z (.block none (.loop [30] (.seq none .z (.seq none (.cond .z .z) (.seq none (.block none (.seq none .z (.seq none .z (.seq none .z (.seq (some []) (.seq none .z (.cond (.seq none .z (.block none (.loop [] (.seq none .z (.seq none (.cond .z .z) (.block none (.seq none .z .z))))))) .z)) .z))))) .z)))))) (.seq none .z (.seq none (.seq none .z (.block none (.loop [87] (.seq none .z (.seq none (.cond .z .z) (.seq none (.block none (.seq none .z (.seq none .z (.seq (some [13]) (.seq none .z (.cond .z .z)) .z)))) .z)))))) (.seq none (.seq none .z (.block none (.loop [] (.seq none (.seq none .z (.cond .z .z)) (.block none (.seq none .z (.seq none .z (.block none (.loop [120] (.seq none .z (.seq none (.cond .z .z) (.seq none (.block none (.seq none .z (.seq none .z (.block none (.loop [128] (.seq none .z (.seq none (.cond .z .z) (.seq none (.block (some []) (.seq none .z (.seq none .z (.cond .z .z)))) .z)))))))) .z)))))))))))) (.seq none .z .z))))))))
theorem F12_eq (ax1 : Option Addr) (nx1 cx1 : Nat) (ax2 : Option Addr) (nx2 cx2 : Nat) (x3 : Int) (ax4 : Option Addr) (nx4 cx4 : Nat) (w : World) (R : Value → World → Prop) : F12 ax1 nx1 cx1 ax2 nx2 cx2 x3 ax4 nx4 cx4 w R = denF Go.Proofs.Try.prog T12 Go.Proofs.Try.f12 A12 [.agg ⟨[.slice ax1 nx1 cx1, .slice ax2 nx2 cx2, .int .i64 x3]⟩, .slice ax4 nx4 cx4] w R := by kernel_rfl
theorem F12_ok (ax1 : Option Addr) (nx1 cx1 : Nat) (ax2 : Option Addr) (nx2 cx2 : Nat) (x3 : Int) (ax4 : Option Addr) (nx4 cx4 : Nat) {w : World} {R : Value → World → Prop} (h : F12 ax1 nx1 cx1 ax2 nx2 cx2 x3 ax4 nx4 cx4 w R) : CallP Go.Proofs.Try.prog 12 [.agg ⟨[.slice ax1 nx1 cx1, .slice ax2 nx2 cx2, .int .i64 x3]⟩, .slice ax4 nx4 cx4] w R :=
  calls_den (fun _ => drawn (by kernel_rfl)) Go.Proofs.Try.func12 (Nat.le_of_ble_eq_true (by kernel_rfl)) ((F12_eq ax1 nx1 cx1 ax2 nx2 cx2 x3 ax4 nx4 cx4 w R).mp h)
end Go.Pl.Try

/- Labels of a program: walked. -/
namespace Go.Pl
open M
theorem Sls.cel_owns {size : Nat} {e : TypeId} {a : Option Addr} {n c : Nat} {vs : List Value} {r : Rw} (hsl : Sls size a n c vs r) {w : World} (h : Owns w (r.L e vs)) {j : Nat} {v : Value} (hj : vs[j]? = some v) :
    ∃ b o, a = some ⟨b, o, none⟩ ∧ cel w b (o + j) = some v := by
  have hjl := (List.getElem?_eq_some_iff.1 hj).1
  cases r with
  | emp =>
    have h1 := hsl.1
    have h2 : n = 0 := hsl.2.1
    subst h2
    simp at h1
    rw [h1] at hjl
    simp at hjl
  | «at» b pre sp =>
    refine ⟨b, pre.length, hsl.2.1, ?_⟩
    have := h (b, Cl e (pre ++ vs ++ sp)) (by simp [Rw.L])
    refine cel_of this ?_
    rw [List.append_assoc, List.getElem?_append_right (by omega), Nat.add_sub_cancel_left, List.getElem?_append_left hjl]
    exact hj
end Go.Pl
namespace Go.Pl.Try
open M
set_option linter.unusedVariables false
/-- Labels of values, as they lie. -/
def LabV (w : World) (a : Option Addr) (n : Nat) (S : TS) : Prop := ∀ f, f < n → ∃ b o pm g, a = some ⟨b, o, none⟩ ∧ cel w b (o + f * 1) = some (.map pm) ∧ RMap w pm g ∧ ∀ k, (g k).getD (.int .i64 0) = .int .i64 (S.get f k)
theorem LabV.ext {w w' : World} {a : Option Addr} {n : Nat} {S : TS} (h : LabV w a n S) (hx : Ext w w') : LabV w' a n S := fun f hf =>
  let ⟨b, o, pm, g, h1, h2, h3, h4⟩ := h f hf
  ⟨b, o, pm, g, h1, hx.cel h2, h3.ext hx, h4⟩
/-- A cut, as it lies. -/
def CutV (w : World) (a : Option Addr) (n : Nat) (nf : Nat) (cut : List (Int → Bool)) : Prop := cut.length = nf ∧ ∀ f, f < nf → (f < n → ∃ b o pm g, a = some ⟨b, o, none⟩ ∧ cel w b (o + f * 1) = some (.map pm) ∧ RMap w pm g ∧ (∀ k v, g k = some v → ∃ x, v = .bool x) ∧ ∀ k, (g k).getD (.bool false) = .bool (cutAt cut f k)) ∧ (n ≤ f → ∀ k, cutAt cut f k = false)
theorem CutV.ext {w w' : World} {a : Option Addr} {n nf : Nat} {cut : List (Int → Bool)} (h : CutV w a n nf cut) (hx : Ext w w') : CutV w' a n nf cut := ⟨h.1, fun f hf => ⟨fun hn =>
  let ⟨b, o, pm, g, h1, h2, h3, h4, h5⟩ := (h.2 f hf).1 hn
  ⟨b, o, pm, g, h1, hx.cel h2, h3.ext hx, h4, h5⟩, (h.2 f hf).2⟩⟩
theorem slLabMaps : slT Pg 66 80 1 8 = true := by kernel_rfl
theorem slLabs : slT Pg 67 79 1 8 = true := by kernel_rfl
theorem zLabs : (zeroOf Pg 79).map (·.cells) = some #[.int .i64 0] := by kernel_rfl
/-- Copying a map of truths. -/
theorem prog_facts {p : Prg} (h : p.check = true) {k : Nat} {f : Fnc} (hf : p.funcs[k]? = some f) : (∀ b ∈ f.blocks, (∀ i ∈ b.ins, rightOk p i = true) ∧ b.fin.ways.all (wayOk f.blocks) = true ∧ endsOk f.blocks b.fin = true) ∧ f.blocks ≠ [] ∧ once f = true ∧ f.params.length ≤ 6 := by
  unfold Prg.check at h
  rw [Bool.and_eq_true] at h
  have h1 := (List.all_eq_true.1 h.2) f (List.mem_of_getElem? hf)
  unfold Fnc.fits at h1
  simp only [Bool.and_eq_true] at h1
  refine ⟨fun b hb => ?_, ?_, h1.1.1.2, ?_⟩
  · have h2 := (List.all_eq_true.1 h1.1.2) b hb
    rw [Bool.and_eq_true] at h2
    refine ⟨fun i hi => ?_, ?_, h2.1⟩
    · have h3 := h2.2
      simp only [Bool.not_eq_true', List.any_eq_false] at h3
      have := h3 i hi
      simpa using this
    · have h3 := h2.1
      unfold endsOk at h3
      simp only [Bool.and_eq_true] at h3
      exact h3.2
  · intro e
    have := h1.1.1.1.1
    rw [e] at this
    simp at this
  · have := h1.1.1.1.2
    simp at this
    omega
theorem two_ends {α : Type} (a b : α) (B V C Z1 Z2 : List α) : (a :: b :: (B ++ (V ++ (C ++ (Z1 ++ Z2))))).Perm (B ++ (V ++ (C ++ ((Z1 ++ [b]) ++ (Z2 ++ [a]))))) := by
  have h1 : (b :: (B ++ (V ++ (C ++ (Z1 ++ Z2))))).Perm ((B ++ (V ++ (C ++ Z1))) ++ b :: Z2) := by
    have := (List.perm_middle (a := b) (l₁ := B ++ (V ++ (C ++ Z1))) (l₂ := Z2)).symm
    simpa only [List.append_assoc] using this
  have h2 := (h1.cons a).trans (List.perm_append_singleton a _).symm
  simpa only [List.append_assoc, List.cons_append, List.nil_append] using h2
theorem to_sl {α : Type} (a s w r q : α) (A V C Z1 Z2 : List α) : ([a, s, w, r, q] ++ (A ++ (V ++ (C ++ (Z1 ++ Z2))))).Perm ([r, q] ++ (s :: a :: (A ++ (Z1 ++ (V ++ (C ++ (Z2 ++ [w]))))))) := by
  have h1 : (V ++ (C ++ (Z1 ++ Z2))).Perm (Z1 ++ (V ++ (C ++ Z2))) := by
    have := (List.perm_append_comm (l₁ := V ++ C) (l₂ := Z1)).append_right Z2
    simpa only [List.append_assoc] using this
  have h2 : ([a, s, w, r, q] ++ (A ++ (V ++ (C ++ (Z1 ++ Z2))))).Perm ([a, s, w, r, q] ++ (A ++ (Z1 ++ (V ++ (C ++ Z2))))) := (h1.append_left A).append_left _
  refine h2.trans ?_
  have h3 : ([a, s, w, r, q] ++ (A ++ (Z1 ++ (V ++ (C ++ Z2))))).Perm (w :: ([r, q] ++ (s :: a :: (A ++ (Z1 ++ (V ++ (C ++ Z2))))))) := by
    generalize A ++ (Z1 ++ (V ++ (C ++ Z2))) = X
    show (a :: s :: w :: r :: q :: X).Perm (w :: r :: q :: s :: a :: X)
    have p1 : (a :: s :: w :: r :: q :: X).Perm (s :: a :: w :: r :: q :: X) := List.Perm.swap _ _ _
    have p2 : ([s, a] ++ ([w, r, q] ++ X)).Perm ([w, r, q] ++ ([s, a] ++ X)) := by
      rw [← List.append_assoc, ← List.append_assoc]
      exact List.perm_append_comm.append_right X
    exact p1.trans p2
  refine h3.trans ?_
  have h4 := (List.perm_append_singleton w ([r, q] ++ (s :: a :: (A ++ (Z1 ++ (V ++ (C ++ Z2))))))).symm
  simpa only [List.append_assoc, List.cons_append, List.nil_append] using h4
theorem solTurnTo {E : SEnv} {p : Prg} {cut : List (Int → Bool)} {writes : List Bool} {w0 : World} {F : List (Nat × Obj)} {os : List Obj} (S : TS) (hE : SOk E p cut writes w0) (t : Bool) : (F ++ SL E S os).set F.length (E.sb, Cl 110 (splice (E.cells S.turned) (0 + 8) [.bool t])) = F ++ SL E { S with turned := t } os := by
  have e2 : splice (E.cells S.turned) (0 + 8) [.bool t] = (E.cells S.turned).set 8 (.bool t) := by
    have := set_splice (fun v : Value => v) (E.cells S.turned) 8 (.bool t) (by simp [SEnv.cells, pv_len hE])
    simpa using this
  rw [e2, List.set_append_right _ _ (Nat.le_refl _), Nat.sub_self]
  have : (E.cells S.turned).set 8 (.bool t) = E.cells t := by
    unfold SEnv.cells
    rw [List.set_append_right _ _ (by rw [pv_len hE]; omega), pv_len hE]
    rfl
  rw [this]
  rfl
theorem taintOf_w {w : World} {p : Prg} {vs : List Value} (h : RProg w vs p) (hl : p.Lim) {ac : Option Addr} {nc cc : Nat} {cut : List (Int → Bool)} (hcut : CutV w ac nc p.funcs.length cut) {fin : TS} (hgo : p.check = true → ∃ k, TS.go p cut p.writes k p.start = some fin) :
    CallP Pg 12 [.agg ⟨vs⟩, .slice ac nc cc] w fun v w' => Ext w w' ∧ (p.check = true → ∃ av cv aa na ca ar nr cr ac' nc' cc', v = .tuple ⟨[.agg ⟨[.slice av p.funcs.length cv, .slice aa na ca, .slice ar nr cr, .slice ac' nc' cc']⟩, .int .i64 0]⟩ ∧ LabV w' av p.funcs.length fin) ∧
      (p.check = false → v = .tuple ⟨[.agg ⟨[.slice none 0 0, .slice none 0 0, .slice none 0 0, .slice none 0 0]⟩, .int .i64 40]⟩) := by
  have hP := h
  obtain ⟨aa0, na0, ca0, af, nf, cf, rfl, harr, hfun⟩ := h
  have harl := harr.len
  have harle := harr.le
  have hfl := hfun.len
  have hfle := hfun.le
  have hla := hl.arrs
  have hlf := hl.funcs
  simp only [lim] at hla hlf
  refine F12_ok _ _ _ _ _ _ _ _ _ _ ?_
  unfold F12
  refine alp (Hp.refl w) fun b5 w6 h6 => ?_
  refine alp h6 fun b7 w8 h8 => ⟨_, _, _, _, _, _, _, h8.row 1 rfl, ?_⟩
  refine (check_w (hP.ext h8.ext) hl).mono ?_
  rintro v w13 ⟨rfl, hx13⟩
  have h13 := h8.step hx13
  refine ⟨_, rfl, sp_of (fun hc => ?_) (fun hc => ?_)⟩
  · have hck : p.check = false := by
      cases hp : p.check with
      | false => rfl
      | true => rw [hp] at hc; simp at hc
    refine stp h13 0 rfl (by simp) rfl fun w15 h15 => ⟨_, _, _, _, _, _, _, _, _, _, _, _, h15.row 0 rfl, h15.ext, fun h => ?_, fun _ => rfl⟩
    rw [hck] at h; cases h
  have hck : p.check = true := by
    cases hp : p.check with
    | true => rfl
    | false => rw [hp] at hc; simp at hc
  obtain ⟨fuel, hgo⟩ := hgo hck
  have hd := h13.drew
  refine ⟨_, _, _, _, _, _, _, hd.row 1 rfl, _, _, _, _, _, _, _, hd.row 1 rfl, ?_⟩
  refine (writes_w (hP.ext hd.ext) hl).mono ?_
  rintro v w27 ⟨bw, rfl, h27'⟩
  have h27 := hd.call h27'
  refine ⟨_, _, _, rfl, h27'.ext, ?_⟩
  rw [harl]
  refine alp h27 fun b29 w30 h30 => ⟨_, _, _, h30.cl 3 rfl rfl, ?_⟩
  generalize hb7 : (b7, Cl 69 [.slice none 0 0, .slice none 0 0, .slice none 0 0, .slice none 0 0]) = B7 at *
  generalize hb5 : (b5, Cl 32 [.slice aa0 na0 ca0, .slice af nf cf, .int .i64 p.main]) = B5 at *
  generalize hbw : (bw, Cl 4 (p.writes.map .bool)) = BW at *
  refine ⟨fun i w' c => ∃ (j : Nat) (av : Option Addr) (cv : Nat) (rv : Rw) (ax : Option Addr) (cx : Nat) (rc : Rw) (ids cids : List Nat) (cos : List Obj), i = j ∧ j ≤ nf ∧ c = nf - j ∧
      Sls 1 av j cv (ids.map fun b => Value.map (some b)) rv ∧ Sls 1 ax j cx (cids.map fun b => Value.map (some b)) rc ∧
      Hp w w' ([(b29, Cl 110 [.slice aa0 na0 ca0, .slice af nf cf, .int .i64 p.main, .slice av j cv, .slice none 0 0, .slice none 0 0, .slice ax j cx, .slice (some ⟨bw, 0, none⟩) na0 na0, .bool false]), BW, B7, B5] ++
        (rv.L 80 (ids.map fun b => Value.map (some b)) ++ (rc.L 56 (cids.map fun b => Value.map (some b)) ++ (ids.zip (List.replicate j (.map #[] 0)) ++ cids.zip cos)))) ∧
      ids.length = j ∧ cids.length = j ∧ cos.length = j ∧ ∀ (f : Nat) (o : Obj), cos[f]? = some o → ∃ g, MapO g o ∧ ∀ k, (g k).getD (.bool false) = .bool (cutAt cut f k),
    ⟨nf, 0, none, 0, .emp, none, 0, .emp, [], [], [], rfl, by omega, by omega, Sls.nil _ _, Sls.nil _ _, h30, rfl, rfl, rfl, fun f o h => by simp at h⟩, ?_⟩
  clear h30 h27 h27' hd h13 hx13 h8 h6
  rintro i w34 c ⟨j, av, cv, rv, ax, cx, rc, ids, cids, cos, rfl, hj, rfl, hsv, hsc, h34, hil, hcil, hcol, hcos⟩
  refine sp_dec (fun hlt => ?_) (fun hge => ?_)
  · have hjn : j < nf := by omega
    refine ⟨_, _, _, h34.cl 0 rfl rfl, ?_⟩
    refine alm h34 fun b38 w39 h39 => ?_
    refine alp h39 fun b40 w41 h41 => ?_
    obtain ⟨av', cv', w43, rv', happ, hsv', h43⟩ := app1 (ty := 66) slLabMaps (by omega) hsv [_, _, _, _, _, _] h41 0 rfl rfl rfl (by simp only [maxLen]; omega) (by omega)
    refine ⟨_, _, _, w43, happ, ?_⟩
    refine stp h43 2 rfl (by simp) rfl fun w44 h44 => ?_
    refine alm h44 fun b45 w46 h46 => ?_
    intro K47 hK47
    have key : ∀ w48 o', Hp w w48 ([(b45, o'), (b40, Cl 80 [.map (some b38)]), (b38, Obj.map #[] 0), (b29, Cl 110 [.slice aa0 na0 ca0, .slice af nf cf, .int .i64 p.main, .slice av' (j + 1) cv', .slice none 0 0, .slice none 0 0, .slice ax j cx, .slice (some ⟨bw, 0, none⟩) na0 na0, .bool false]), BW, B7, B5] ++
        (rv'.L 80 (ids.map (fun b => Value.map (some b)) ++ [.map (some b38)]) ++ (rc.L 56 (cids.map fun b => Value.map (some b)) ++ (ids.zip (List.replicate j (.map #[] 0)) ++ cids.zip cos)))) →
        (∃ g, MapO g o' ∧ ∀ k, (g k).getD (.bool false) = .bool (cutAt cut j k)) → K47 w48 := by
      intro w48 o' h48 hg
      refine hK47 _ ⟨_, _, _, h48.cl 3 rfl rfl, ?_⟩
      refine alp h48 fun b50 w51 h51 => ?_
      have h51' : Hp w w51 (([(b50, Cl 56 [.map (some b45)]), (b45, o'), (b40, Cl 80 [.map (some b38)]), (b38, Obj.map #[] 0), (b29, Cl 110 [.slice aa0 na0 ca0, .slice af nf cf, .int .i64 p.main, .slice av' (j + 1) cv', .slice none 0 0, .slice none 0 0, .slice ax j cx, .slice (some ⟨bw, 0, none⟩) na0 na0, .bool false]), BW, B7, B5] ++
        rv'.L 80 (ids.map (fun b => Value.map (some b)) ++ [.map (some b38)])) ++ (rc.L 56 (cids.map fun b => Value.map (some b)) ++ (ids.zip (List.replicate j (.map #[] 0)) ++ cids.zip cos))) := by
        rw [List.append_assoc]; exact h51
      obtain ⟨ax', cx', w53, rc', happ2, hsc', h53⟩ := app1 (ty := 48) slMaps (by omega) hsc _ h51' 0 rfl rfl rfl (by simp only [maxLen]; omega) (by omega)
      refine ⟨_, _, _, w53, happ2, ?_⟩
      rw [List.append_assoc] at h53
      refine stp h53 4 rfl (by simp) rfl fun w54 h54 => ?_
      refine ⟨nf - (j + 1), by omega, j + 1, av', cv', rv', ax', cx', rc', ids ++ [b38], cids ++ [b45], cos ++ [o'], wrap_succ (by omega), by omega, rfl, by simpa using hsv', by simpa using hsc', ?_, by simp [hil], by simp [hcil], by simp [hcol], ?_⟩
      · rw [List.map_append, List.map_append, List.replicate_succ', List.zip_append (by simp [hil]), List.zip_append (by rw [hcil, hcol])]
        have h55 := h54.sub (L' := (b45, o') :: (b38, Obj.map #[] 0) :: ([(b29, Cl 110 [.slice aa0 na0 ca0, .slice af nf cf, .int .i64 p.main, .slice av' (j + 1) cv', .slice none 0 0, .slice none 0 0, .slice ax' (j + 1) cx', .slice (some ⟨bw, 0, none⟩) na0 na0, .bool false]), BW, B7, B5] ++
          (rv'.L 80 (ids.map (fun b => Value.map (some b)) ++ [.map (some b38)]) ++ (rc'.L 56 (cids.map (fun b => Value.map (some b)) ++ [.map (some b45)]) ++ (ids.zip (List.replicate j (.map #[] 0)) ++ cids.zip cos))))) (by
            refine List.Sublist.cons _ (List.Sublist.cons_cons _ (List.Sublist.cons _ (List.Sublist.cons_cons _ ?_)))
            exact List.Sublist.refl _)
        exact h55.perm (two_ends _ _ _ _ _ _ _)
      · intro f o hf
        by_cases hfj : f < j
        · rw [List.getElem?_append_left (by omega)] at hf
          exact hcos f o hf
        · have hfl := (List.getElem?_eq_some_iff.1 hf).1
          rw [List.length_append, hcol] at hfl
          simp only [List.length_cons, List.length_nil] at hfl
          have : f = j := by omega
          subst this
          rw [List.getElem?_append_right (by omega), hcol, Nat.sub_self] at hf
          cases hf
          exact hg
    refine sp_dec (fun hjc => ?_) (fun hjc => ?_)
    · obtain ⟨bc, oc, pm, g, hac, hcc, hrm, hgb, hgc⟩ := (hcut.2 j (by omega)).1 (by omega)
      refine ⟨by omega, by omega, ptAt_of hac ⟨pm, h46.ext.cel (by simpa using hcc), ?_⟩⟩
      obtain ⟨r, w59, oi, m, hrun, h59, hgoing, hget, hnd, hx59, hne⟩ := go_range mpBool h46 (hrm.ext h46.ext)
      refine ⟨_, w59, hrun, ?_⟩
      refine ⟨fun w' c => ∃ oi' left done o, Hp w w' ((r, oi') :: ([(b45, o), (b40, Cl 80 [.map (some b38)]), (b38, Obj.map #[] 0), (b29, Cl 110 [.slice aa0 na0 ca0, .slice af nf cf, .int .i64 p.main, .slice av' (j + 1) cv', .slice none 0 0, .slice none 0 0, .slice ax j cx, .slice (some ⟨bw, 0, none⟩) na0 na0, .bool false]), BW, B7, B5] ++
        (rv'.L 80 (ids.map (fun b => Value.map (some b)) ++ [.map (some b38)]) ++ (rc.L 56 (cids.map fun b => Value.map (some b)) ++ (ids.zip (List.replicate j (.map #[] 0)) ++ cids.zip cos))))) ∧
          Going w' pm m left oi' ∧ MapO (fun x => if x ∈ done then g x else none) o ∧ (∀ k, k ∈ m.map Prod.fst → k ∈ done ∨ k ∈ left.map Prod.fst) ∧ c = left.length,
        ⟨m.length, oi, m, [], _, h59, hgoing, MapO.empty.congr (fun k => by simp), fun k hk => .inr hk, rfl⟩, ?_⟩
      rintro w61 c ⟨oi', left, done, o, h61, hg61, ho, hS, rfl⟩
      rcases go_next (P := Pg) (ty := 0) h61 0 rfl hne hg61 with ⟨rfl, hn⟩ | ⟨k, v, left', w65, oi2, hperm, hn, h65, hg65, hkm, hent, -, -⟩
      · left
        refine ⟨w61, hn, key _ o (h61.drop 1) ⟨_, ho, fun k => ?_⟩⟩
        by_cases hk : k ∈ done
        · rw [if_pos hk]; exact hgc k
        · rw [if_neg hk, ← hgc k]
          have : g k = none := by
            rw [← hget k, mget_none]
            intro q hq e
            rcases hS k (by rw [← e]; exact List.mem_map_of_mem hq) with h1 | h1
            · exact hk h1
            · simp at h1
          rw [this]
      · right
        have hgk : g k = some v := by rw [← hget k]; exact mget_mem hnd hkm
        obtain ⟨x, rfl⟩ := hgb k v hgk
        obtain ⟨w73, o2, hu, ho2, h73⟩ := upd_map mpBool h65 1 rfl ho k (.bool x)
        refine ⟨_, _, w65, hn, k, x, hent, w73, hu, left'.length, by rw [hperm.length_eq]; simp, oi2, left', done ++ [k], o2, h73, go_keep hrm h65.ext h73.ext hg65, ho2.congr (fun y => ?_), ?_, rfl⟩
        · by_cases hy : y = k
          · subst hy; simp [hgk]
          · simp [hy]
        · intro y hy
          rcases hS y hy with h1 | h1
          · exact .inl (by simp [h1])
          · rw [(hperm.map Prod.fst).mem_iff] at h1
            simp only [List.map_cons, List.mem_cons] at h1
            rcases h1 with h1 | h1
            · exact .inl (by simp [h1])
            · exact .inr h1
    · refine key _ _ h46 ⟨_, MapO.empty, fun k => ?_⟩
      rw [(hcut.2 j (by omega)).2 (by omega) k]; rfl
  · have hjn : j = nf := by omega
    subst hjn
    refine ⟨_, _, _, by subst hb5; exact h34.cl 3 rfl rfl, ?_⟩
    obtain ⟨br, w76, hm, h76⟩ := make_run slLabs zLabs h34 j (by omega) (by simp only [maxLen]; omega)
    refine ⟨_, _, _, w76, hm, ?_⟩
    refine stp h76 1 rfl (by simp) rfl fun w77 h77 => ⟨_, _, _, by subst hb5; exact h77.cl 4 rfl rfl, ?_⟩
    generalize hREST : (rv.L 80 (ids.map fun b => Value.map (some b)) ++ (rc.L 56 (cids.map fun b => Value.map (some b)) ++ (ids.zip (List.replicate j (.map #[] 0)) ++ cids.zip cos))) = REST at *
    refine ⟨fun i w' c => ∃ (q : Nat) (aa : Option Addr) (ca : Nat) (ra : Rw), i = q ∧ q ≤ na0 ∧ c = na0 - q ∧ Sls 1 aa q ca (((p.arrs.take q).map Arr.lab).map (Value.int .i64)) ra ∧
        Hp w w' ([(br, Cl 79 (List.replicate j (.int .i64 0))), (b29, Cl 110 [.slice aa0 na0 ca0, .slice af j cf, .int .i64 p.main, .slice av j cv, .slice aa q ca, .slice (some ⟨br, 0, none⟩) j j, .slice ax j cx, .slice (some ⟨bw, 0, none⟩) na0 na0, .bool false]), BW, B7, B5] ++
          (ra.L 79 (((p.arrs.take q).map Arr.lab).map (Value.int .i64)) ++ REST)),
      ⟨na0, 0, none, 0, .emp, rfl, by omega, by omega, Sls.nil _ _, h77⟩, ?_⟩
    clear h77 h76 h34
    rintro i w81 c ⟨q, aa, ca, ra, rfl, hq, rfl, hsa, h81⟩
    refine sp_dec (fun hlt2 => ?_) (fun hge2 => ?_)
    · obtain ⟨x, hx⟩ := at_some (l := p.arrs) (j := q) (by omega)
      have htk : (p.arrs.take (q + 1)).map Arr.lab = (p.arrs.take q).map Arr.lab ++ [x.lab] := by rw [List.take_add_one, hx]; simp
      obtain ⟨bb, ob, vs, ha, hrow, hvl, rfl⟩ := harr.at_ _ _ hx
      refine ⟨by omega, by omega, ptAt_of ha ⟨_, _, _, h81.ext.row hrow, ?_⟩⟩
      refine alp h81 fun b89 w90 h90 => ?_
      refine stp h90 0 rfl (by simp) rfl fun w91 h91 => ?_
      intro K92 hK92
      have key : ∀ y, y = x.lab → K92 y w91 := by
        intro y hy
        refine hK92 _ _ ⟨_, _, _, h91.cl 2 rfl rfl, ?_⟩
        refine alp h91 fun b96 w97 h97 => ?_
        obtain ⟨a98, c98, w99, r98, happ, hs98, h99⟩ := app1 (ty := 67) slLabs (by omega) hsa [_, _, _, _, _, _, _] h97 0 rfl rfl rfl (by simp only [maxLen]; omega) (by omega)
        refine ⟨_, _, _, w99, happ, ?_⟩
        refine stp h99 3 rfl (by simp) rfl fun w100 h100 => ?_
        subst hy
        refine ⟨na0 - (q + 1), by omega, q + 1, a98, c98, r98, wrap_succ (by omega), by omega, rfl, ?_, ?_⟩
        · rw [htk, List.map_append]; exact hs98
        · rw [htk, List.map_append]; exact h100.drop 2
      refine ⟨_, h91.cl 0 rfl rfl, sp_dec (fun h2 => key _ ?_) (fun h2 => key _ ?_)⟩
      · unfold Arr.lab; rw [if_pos h2]
      · unfold Arr.lab; rw [if_neg h2]
    · have hqn : q = na0 := by omega
      subst hqn
      rw [List.take_of_length_le (by omega)] at hsa h81
      refine stp h81 1 rfl (by simp) rfl fun w102 h102 => ?_
      -- the solver, laid out
      let E : SEnv := { sb := b29, pv := [.slice aa0 q ca0, .slice af j cf, .int .i64 p.main], av := av, nv := j, cv := cv, aa := aa, na := q, ca := ca, ra := ra, br := br, nr := j, ac := ax, nc := j, cc := cx, aw := some ⟨bw, 0, none⟩, nw := q, cw := q, ids := ids, ro := rv.L 80 (ids.map fun b => Value.map (some b)) ++ (rc.L 56 (cids.map fun b => Value.map (some b)) ++ (cids.zip cos ++ [BW])) }
      have hE : SOk E p cut p.writes w := by
        refine ⟨hP, hfl.symm, hfl.symm, hfl.symm, by rw [hfl]; exact hil, ?_, ?_, ?_⟩
        · intro w' ho f mb hmb
          have : Owns w' (rv.L 80 (ids.map fun b => Value.map (some b))) := fun p hp => ho p (by simp only [E]; exact List.mem_append_left _ hp)
          obtain ⟨b, o, h1, h2⟩ := hsv.cel_owns this (j := f) (v := .map (some mb)) (by rw [List.getElem?_map]; simp only [E] at hmb; rw [hmb]; rfl)
          exact ⟨b, o, h1, by simpa using h2⟩
        · intro w' ho f hf
          have ho1 : Owns w' (rc.L 56 (cids.map fun b => Value.map (some b))) := fun p hp => ho p (by simp only [E]; exact List.mem_append_right _ (List.mem_append_left _ hp))
          have ho2 : Owns w' (cids.zip cos) := fun p hp => ho p (by simp only [E]; exact List.mem_append_right _ (List.mem_append_right _ (List.mem_append_left _ hp)))
          obtain ⟨cb, hcb⟩ := at_some (l := cids) (j := f) (by omega)
          obtain ⟨co, hco⟩ := at_some (l := cos) (j := f) (by omega)
          obtain ⟨b, o, h1, h2⟩ := hsc.cel_owns ho1 (j := f) (v := .map (some cb)) (by rw [List.getElem?_map, hcb]; rfl)
          obtain ⟨g, hg1, hg2⟩ := hcos f co hco
          exact ⟨b, o, some cb, g, h1, by simpa using h2, ⟨co, ho2 _ (List.mem_of_getElem? (zip_get cids cos f cb co hcb hco)), hg1⟩, hg2⟩
        · intro w' ho
          have : w'.heap[bw]? = some (Cl 4 (p.writes.map .bool)) := ho (bw, Cl 4 (p.writes.map .bool)) (by simp only [E]; rw [hbw]; simp)
          refine ⟨by simp only [E]; rw [Prg.writes_len, harl], harle, fun i x hi => ⟨bw, 0, [.bool x], rfl, ?_, rfl, rfl⟩⟩
          intro k v hk
          cases k with
          | zero =>
            simp only [List.getElem?_cons_zero, Option.some.injEq] at hk
            subst hk
            exact cel_of this (by simp [hi])
          | succ k => simp at hk
      have hSt0 : SSt E p { p.start with turned := true } (List.replicate j (.map #[] 0)) := by
        refine ⟨by simp [Prg.start], by simp [hfl], fun f o ho => ⟨fun _ => none, ?_, fun k => ?_⟩, by simp [Prg.start], ?_, by simp [Prg.start]⟩
        · have := (List.getElem?_eq_some_iff.1 ho).2
          simp only [List.getElem_replicate] at this
          rw [← this]; exact MapO.empty
        · have hfj := (List.getElem?_eq_some_iff.1 ho).1
          simp at hfj
          simp [TS.get, Prg.start, List.getD_eq_getElem?_getD, List.getElem?_replicate, show f < p.funcs.length by omega]
        · simpa [Prg.start, E] using hsa
      have hL0 : Hp w w102 ([B7, B5] ++ SL E { p.start with turned := true } (List.replicate j (.map #[] 0))) := by
        subst hREST
        have h103 := h102.perm (to_sl _ _ _ _ _ _ _ _ _ _)
        have e1 : (p.start.rets.map (Value.int .i64)) = List.replicate j (.int .i64 0) := by simp [Prg.start, hfl]
        unfold SL
        rw [e1]
        exact h103
      have hv7 : ∀ {w' S os}, Hp w w' ([B7, B5] ++ SL E S os) → ∀ v, [Value.slice aa0 q ca0, .slice af j cf, .int .i64 p.main][1]? = some v → cel w' b5 1 = some v := by
        intro w' S os h' v hv
        subst hb5
        exact h'.cl 1 rfl hv
      refine ⟨fun w' m => ∃ S os, Hp w w' ([B7, B5] ++ SL E S os) ∧ SSt E p S os ∧ TS.go p cut p.writes m S = some fin, ⟨fuel, _, _, hL0, hSt0, hgo⟩, ?_⟩
      rintro w104 m ⟨S, os, h104, hS, hgS⟩
      obtain ⟨m, rfl⟩ : ∃ k, m = k + 1 := by
        cases m with
        | zero => simp [TS.go] at hgS
        | succ k => exact ⟨k, rfl⟩
      rw [TS.go] at hgS
      refine ⟨S.turned, SL.cT hE h104, sp_of (fun ht => ?_) (fun ht => ?_)⟩
      · rw [if_pos ht] at hgS
        refine stp h104 2 (by simp only [SL]; rfl) (by simp [SEnv.cells, E]) rfl fun w108 h108 => ?_
        have e := solTurnTo (F := [B7, B5]) (os := os) S hE false
        have h108 : Hp w w108 ([B7, B5] ++ SL E { S with turned := false } os) := by rw [← e]; exact h108
        refine ⟨_, _, _, hv7 h108 _ rfl, ?_⟩
        obtain ⟨tgt, htgt⟩ : ∃ t, t = TS.round p cut p.writes 0 p.funcs { S with turned := false } := ⟨_, rfl⟩
        rw [← htgt] at hgS
        refine ⟨fun i w' c => ∃ (k : Nat) (S' : TS) (os' : List Obj), i = k ∧ k ≤ j ∧ c = j - k ∧ Hp w w' ([B7, B5] ++ SL E S' os') ∧ SSt E p S' os' ∧ tgt = TS.round p cut p.writes k (p.funcs.drop k) S',
          ⟨j, 0, _, os, rfl, by omega, by omega, h108, ⟨hS.vl, hS.ol, hS.lab, hS.al, hS.arr, hS.rl⟩, htgt⟩, ?_⟩
        clear htgt
        rintro i w112 c ⟨k, S1, os1, rfl, hk, rfl, h112, hS1, htgt⟩
        refine sp_dec (fun hlt3 => ?_) (fun hge3 => ?_)
        · obtain ⟨f, hx⟩ := at_some (l := p.funcs) (j := k) (by omega)
          rw [drop_cons hx, TS.round] at htgt
          have hflim := hl.each f (List.mem_of_getElem? hx)
          obtain ⟨hfok, -, -, -⟩ := prog_facts hck hx
          obtain ⟨bb, ob, vs, ha, hrow, hvl, hRf⟩ := hfun.at_ _ _ hx
          have hRf0 := hRf
          obtain ⟨ab, nb, cb, rfl, hbs⟩ := hRf
          have hbl := hbs.len
          have hble := hbs.le
          refine ⟨by omega, by omega, ptAt_of ha ⟨_, _, _, _, h112.ext.row hrow, ?_⟩⟩
          refine alp h112 fun b119 w120 h120 => ?_
          refine stp h120 0 rfl (by simp) rfl fun w121 h121 => ?_
          have h121 : Hp w w121 ((b119, Cl 29 [.string f.name, .slice ab nb cb]) :: ([B7, B5] ++ SL E S1 os1)) := h121
          refine ⟨_, _, _, _, h121.row 0 rfl, ?_⟩
          refine (reach_w' (hRf0.ext' h121.ext) hflim).mono ?_
          rintro v w125 ⟨b2, rfl, h125'⟩
          have h125 := h121.call h125'
          rw [hbl]
          have hrl := Fnc.reach_length f
          have hzl : (f.reach.zip f.blocks).length = nb := by rw [List.length_zip, hrl]; omega
          refine ⟨_, _, _, rfl, ?_⟩
          refine ⟨fun i w' c => ∃ (s : Nat) (S' : TS) (os' : List Obj), i = s ∧ s ≤ nb ∧ c = nb - s ∧ Hp w w' ([(b2, Cl 4 (f.reach.map .bool)), (b119, Cl 29 [.string f.name, .slice ab nb cb]), B7, B5] ++ SL E S' os') ∧ SSt E p S' os' ∧
              TS.blocks p cut p.writes f.blocks k ((f.reach.zip f.blocks).drop s) S' = TS.blocks p cut p.writes f.blocks k (f.reach.zip f.blocks) S1,
            ⟨nb, 0, S1, os1, rfl, by omega, by omega, h125, hS1, rfl⟩, ?_⟩
          rintro i w129 c ⟨s, S2, os2, rfl, hs, rfl, h129, hS2, hbk⟩
          refine sp_dec (fun hlt4 => ?_) (fun hge4 => ?_)
          · intro K132 hK132
            obtain ⟨rr, hr⟩ := at_some (l := f.reach) (j := s) (by omega)
            obtain ⟨b, hy⟩ := at_some (l := f.blocks) (j := s) (by omega)
            rw [drop_cons (zip_get f.reach f.blocks s rr b hr hy), TS.blocks] at hbk
            obtain ⟨hok1, hok2, -⟩ := hfok b (List.mem_of_getElem? hy)
            refine ⟨by omega, by omega, ptAt_of rfl ⟨rr, h129.cl 0 rfl (by simp [hr]), sp_of (fun hrt => ?_) (fun hrt => ?_)⟩⟩
            · obtain ⟨bt, ot, ap, np, cp, ai, ni, ci, ae, ne, ce, hat, hrowt, hp, hi, he⟩ := blkOf hbs hy
              rw [if_pos hrt] at hbk
              refine ⟨_, _, _, h129.cl 1 rfl rfl, by omega, by omega, ptAt_of hat ⟨_, _, _, _, _, _, _, _, _, _, _, _, h129.ext.row hrowt, ?_⟩⟩
              refine (block_w hE h129 hS2 hx (b := b) ⟨ap, np, cp, ai, ni, ci, ae, ne, ce, rfl, hp, hi, he⟩ hok1 hok2).mono ?_
              rintro v w147 ⟨rfl, os3, h147, hS3⟩
              exact ⟨rfl, hK132 _ ⟨nb - (s + 1), by omega, s + 1, _, os3, wrap_succ (by omega), by omega, rfl, h147, hS3, hbk⟩⟩
            · have hrf : ¬ rr = true := by rw [hrt]; decide
              rw [if_neg hrf] at hbk
              exact hK132 _ ⟨nb - (s + 1), by omega, s + 1, S2, os2, wrap_succ (by omega), by omega, rfl, h129, hS2, hbk⟩
          · rw [List.drop_of_length_le (by omega), TS.blocks] at hbk
            rw [← hbk] at htgt
            exact ⟨j - (k + 1), by omega, k + 1, S2, os2, wrap_succ (by omega), by omega, rfl, h129.drop 2, hS2, htgt⟩
        · rw [List.drop_of_length_le (by omega), TS.round] at htgt
          rw [htgt] at hgS
          exact ⟨m, by omega, S1, os1, h112, hS1, hgS⟩
      · have htf : ¬ S.turned = true := by rw [ht]; decide
        rw [if_neg htf] at hgS
        cases hgS
        have hrow4 : Row w104 b29 3 [.slice av j cv, .slice aa q ca, .slice (some ⟨br, 0, none⟩) j j, .slice ax j cx] := by
          intro k v hk
          rcases k with _ | _ | _ | _ | k
          · cases hk; exact SL.cV hE h104
          · cases hk; exact SL.cA hE h104
          · cases hk; exact SL.cR hE h104
          · cases hk; exact SL.cC hE h104
          · simp at hk
        refine ⟨_, _, _, _, _, _, _, _, _, _, _, _, hrow4, ?_⟩
        refine stp h104 0 (by subst hb7; rfl) (by simp) rfl fun w152 h152 => ⟨_, _, _, _, _, _, _, _, _, _, _, _, h152.row 0 rfl, h152.ext, fun _ => ?_, fun h => ?_⟩
        · refine ⟨av, cv, aa, q, ca, _, j, j, ax, j, cx, by rw [hfl], ?_⟩
          intro f hf
          have h153 := h152.drop 2
          have h153 : Hp w w152 ([] ++ SL E fin os) := h153
          obtain ⟨mb, om, hmb, hom, hlab, hL, -⟩ := SL.map (F := []) hE hS hf
          obtain ⟨bv, ov, hav, hcv⟩ := hE.vals w152 (SL.ro h153) f mb hmb
          obtain ⟨g, hg1, hg2⟩ := hlab
          exact ⟨bv, ov, some mb, g, hav, hcv, ⟨om, h153.at _ hL, hg1⟩, hg2⟩
        · rw [hck] at h; cases h
end Go.Pl.Try

/- What 'palings/taint.Sinks' does, read off its translation by gen.py. -/
namespace Go.Pl.Try
set_option linter.unusedVariables false
set_option maxRecDepth 100000
def F22 (ax1 : Option Addr) (nx1 cx1 : Nat) (ax2 : Option Addr) (nx2 cx2 : Nat) (x3 : Int) (ax4 : Option Addr) (nx4 cx4 : Nat) (ax5 : Option Addr) (nx5 cx5 : Nat) (ax6 : Option Addr) (nx6 cx6 : Nat) (ax7 : Option Addr) (nx7 cx7 : Nat) (w : World) (R : Value → World → Prop) : Prop :=
  AlP 32 [.slice ax1 nx1 cx1, .slice ax2 nx2 cx2, .int .i64 x3] w fun b8 w9 =>
  AlP 69 [.slice ax4 nx4 cx4, .slice ax5 nx5 cx5, .slice ax6 nx6 cx6, .slice ax7 nx7 cx7] w9 fun b10 w11 =>
  ∃ (ax12 : Option Addr) (nx12 cx12 : Nat), cel w11 b8 1 = some (.slice ax12 nx12 cx12) ∧
  ∃ J13 : Option Addr → Nat → Nat → Int → World → Nat → Prop, (∃ m17, J13 none 0 0 0 w11 m17) ∧
  ∀ (ax14 : Option Addr) (nx14 cx14 : Nat) (x15 : Int), ∀ w16 m17, J13 ax14 nx14 cx14 x15 w16 m17 →
  sp (decide ((x15 : Int) < (nx12 : Nat)))
  (0 ≤ (x15 : Int) ∧ (x15 : Int) < (nx12 : Nat) ∧
  ptAt ax12 fun b19 o20 =>
  ∃ (x21 : ByteArray) (ax22 : Option Addr) (nx22 cx22 : Nat), Row w16 b19 (o20 + x15.toNat * 2) [.string x21, .slice ax22 nx22 cx22] ∧
  AlP 29 [.string ⟨#[]⟩, .slice none 0 0] w16 fun b23 w24 =>
  StP b23 0 [.string x21, .slice ax22 nx22 cx22] w24 fun w25 =>
  ∃ (ax26 : Option Addr) (nx26 cx26 : Nat), cel w25 b10 0 = some (.slice ax26 nx26 cx26) ∧
  sp (decide (((nx26 : Nat) : Int) ≤ x15))
  (R (.slice none 0 0) w25)
  (∃ (ax27 : Option Addr) (nx27 cx27 : Nat), cel w25 b23 1 = some (.slice ax27 nx27 cx27) ∧
  ∃ J28 : Option Addr → Nat → Nat → Int → World → Nat → Prop, (∃ m32, J28 ax14 nx14 cx14 0 w25 m32) ∧
  ∀ (ax29 : Option Addr) (nx29 cx29 : Nat) (x30 : Int), ∀ w31 m32, J28 ax29 nx29 cx29 x30 w31 m32 →
  sp (decide ((x30 : Int) < (nx27 : Nat)))
  (∀ K34 : Option Addr → Nat → Nat → World → Prop, (∀ (ax35 : Option Addr) (nx35 cx35 : Nat), ∀ w36, (
  ∃ m33, m33 < m32 ∧ J28 ax35 nx35 cx35 (IntKind.wrap .i64 (x30 + 1)) w36 m33) → K34 ax35 nx35 cx35 w36) →
  0 ≤ (x30 : Int) ∧ (x30 : Int) < (nx27 : Nat) ∧
  ptAt ax27 fun b37 o38 =>
  ∃ (ax39 : Option Addr) (nx39 cx39 : Nat) (ax40 : Option Addr) (nx40 cx40 : Nat) (x41 : Int) (x42 : Int) (ax43 : Option Addr) (nx43 cx43 : Nat) (x44 : Int), Row w31 b37 (o38 + x30.toNat * 6) [.slice ax39 nx39 cx39, .slice ax40 nx40 cx40, .int .i64 x41, .int .i64 x42, .slice ax43 nx43 cx43, .int .i64 x44] ∧
  AlP 47 [.slice none 0 0, .slice none 0 0, .int .i64 0, .int .i64 0, .slice none 0 0, .int .i64 0] w31 fun b45 w46 =>
  StP b45 0 [.slice ax39 nx39 cx39, .slice ax40 nx40 cx40, .int .i64 x41, .int .i64 x42, .slice ax43 nx43 cx43, .int .i64 x44] w46 fun w47 =>
  ∃ (ax48 : Option Addr) (nx48 cx48 : Nat), cel w47 b45 1 = some (.slice ax48 nx48 cx48) ∧
  ∃ J49 : Option Addr → Nat → Nat → Int → World → Nat → Prop, (∃ m53, J49 ax29 nx29 cx29 0 w47 m53) ∧
  ∀ (ax50 : Option Addr) (nx50 cx50 : Nat) (x51 : Int), ∀ w52 m53, J49 ax50 nx50 cx50 x51 w52 m53 →
  sp (decide ((x51 : Int) < (nx48 : Nat)))
  (0 ≤ (x51 : Int) ∧ (x51 : Int) < (nx48 : Nat) ∧
  ptAt ax48 fun b55 o56 =>
  ∃ (x57 : Int) (x58 : Int) (ax59 : Option Addr) (nx59 cx59 : Nat) (x60 : Int) (x61 : Int) (x62 : Int) (x63 : Int), Row w52 b55 (o56 + x51.toNat * 7) [.int .i64 x57, .int .i64 x58, .slice ax59 nx59 cx59, .int .i64 x60, .int .i64 x61, .int .i64 x62, .int .i64 x63] ∧
  AlP 37 [.int .i64 0, .int .i64 0, .slice none 0 0, .int .i64 0, .int .i64 0, .int .i64 0, .int .i64 0] w52 fun b64 w65 =>
  StP b64 0 [.int .i64 x57, .int .i64 x58, .slice ax59 nx59 cx59, .int .i64 x60, .int .i64 x61, .int .i64 x62, .int .i64 x63] w65 fun w66 =>
  ∃ (x67 : Int) (x68 : Int) (ax69 : Option Addr) (nx69 cx69 : Nat) (x70 : Int) (x71 : Int) (x72 : Int) (x73 : Int), Row w66 b64 0 [.int .i64 x67, .int .i64 x68, .slice ax69 nx69 cx69, .int .i64 x70, .int .i64 x71, .int .i64 x72, .int .i64 x73] ∧
  CallP Pg 45 [.agg ⟨[.int .i64 x67, .int .i64 x68, .slice ax69 nx69 cx69, .int .i64 x70, .int .i64 x71, .int .i64 x72, .int .i64 x73]⟩] w66 fun v74 w75 => ∃ (ax76 : Option Addr) (nx76 cx76 : Nat), v74 = .slice ax76 nx76 cx76 ∧
  ∃ J77 : Option Addr → Nat → Nat → Int → World → Nat → Prop, (∃ m81, J77 ax50 nx50 cx50 0 w75 m81) ∧
  ∀ (ax78 : Option Addr) (nx78 cx78 : Nat) (x79 : Int), ∀ w80 m81, J77 ax78 nx78 cx78 x79 w80 m81 →
  sp (decide ((x79 : Int) < (nx76 : Nat)))
  (∀ K83 : Option Addr → Nat → Nat → World → Prop, (∀ (ax84 : Option Addr) (nx84 cx84 : Nat), ∀ w85, (
  ∃ m82, m82 < m81 ∧ J77 ax84 nx84 cx84 (IntKind.wrap .i64 (x79 + 1)) w85 m82) → K83 ax84 nx84 cx84 w85) →
  0 ≤ (x79 : Int) ∧ (x79 : Int) < (nx76 : Nat) ∧
  ptAt ax76 fun b86 o87 =>
  ∃ (x88 : Int), cel w80 b86 (o87 + x79.toNat * 1) = some (.int .i64 x88) ∧
  ∃ (ax89 : Option Addr) (nx89 cx89 : Nat), cel w80 b10 0 = some (.slice ax89 nx89 cx89) ∧
  0 ≤ (x15 : Int) ∧ (x15 : Int) < (nx89 : Nat) ∧
  ptAt ax89 fun b90 o91 =>
  ∃ (x92 : Option Nat), cel w80 b90 (o91 + x15.toNat * 1) = some (.map x92) ∧
  ∃ (x93 : Int), Sem.run Pg (Instr.lookup 80 (.map x92) (.int .i64 x88) false) w80 = .ok (.int .i64 x93) w80 ∧
  sp (!decide ((x93 : Int) = 0))
  (AlP 100 [.int .i64 x15, .int .i64 x30, .int .i64 x51, .int .i64 x88, .int .i64 x93] w80 fun b94 w95 =>
  ∃ (ax96 : Option Addr) (nx96 cx96 : Nat), ∃ w97 : World, Sem.run Pg (Builtin.append_ #[91, 91] 91 ⟨[.slice ax78 nx78 cx78, .slice (some ⟨b94, 0, none⟩) 1 1]⟩) w95 = .ok (.slice ax96 nx96 cx96) w97 ∧
  K83 ax96 nx96 cx96 w97)
  (K83 ax78 nx78 cx78 w80))
  (∃ m54, m54 < m53 ∧ J49 ax78 nx78 cx78 (IntKind.wrap .i64 (x51 + 1)) w80 m54))
  (∀ K98 : Bool → World → Prop, (∀ (x99 : Bool), ∀ w100, (
  sp x99
  (∃ (ax101 : Option Addr) (nx101 cx101 : Nat), cel w100.drew b45 1 = some (.slice ax101 nx101 cx101) ∧
  ∃ (x102 : Int), cel w100.drew b45 3 = some (.int .i64 x102) ∧
  ∃ (ax103 : Option Addr) (nx103 cx103 : Nat), cel w100.drew b10 0 = some (.slice ax103 nx103 cx103) ∧
  0 ≤ (x15 : Int) ∧ (x15 : Int) < (nx103 : Nat) ∧
  ptAt ax103 fun b104 o105 =>
  ∃ (x106 : Option Nat), cel w100.drew b104 (o105 + x15.toNat * 1) = some (.map x106) ∧
  ∃ (x107 : Int), cel w100.drew b45 3 = some (.int .i64 x107) ∧
  ∃ (x108 : Int), (∀ w', Ext w100.drew w' → Sem.run Pg (Instr.lookup 80 (.map x106) (.int .i64 x107) false) w' = .ok (.int .i64 x108) w') ∧
  AlP 100 [.int .i64 x15, .int .i64 x30, .int .i64 (nx101 : Nat), .int .i64 x102, .int .i64 x108] w100.drew fun b109 w110 =>
  ∃ (ax111 : Option Addr) (nx111 cx111 : Nat), ∃ w112 : World, Sem.run Pg (Builtin.append_ #[91, 91] 91 ⟨[.slice ax50 nx50 cx50, .slice (some ⟨b109, 0, none⟩) 1 1]⟩) w110 = .ok (.slice ax111 nx111 cx111) w112 ∧
  K34 ax111 nx111 cx111 w112)
  (K34 ax50 nx50 cx50 w100)) → K98 x99 w100) →
  ∃ (x113 : Int), cel w52.drew b45 2 = some (.int .i64 x113) ∧
  sp (decide ((x113 : Int) = 2))
  (∃ (ax114 : Option Addr) (nx114 cx114 : Nat), cel w52.drew b10 0 = some (.slice ax114 nx114 cx114) ∧
  0 ≤ (x15 : Int) ∧ (x15 : Int) < (nx114 : Nat) ∧
  ptAt ax114 fun b115 o116 =>
  ∃ (x117 : Option Nat), cel w52.drew b115 (o116 + x15.toNat * 1) = some (.map x117) ∧
  ∃ (x118 : Int), cel w52.drew b45 3 = some (.int .i64 x118) ∧
  ∃ (x119 : Int), (∀ w', Ext w52.drew w' → Sem.run Pg (Instr.lookup 80 (.map x117) (.int .i64 x118) false) w' = .ok (.int .i64 x119) w') ∧
  K98 (!decide ((x119 : Int) = 0)) w52.drew)
  (K98 false w52.drew)))
  (∃ m18, m18 < m17 ∧ J13 ax29 nx29 cx29 (IntKind.wrap .i64 (x15 + 1)) w31 m18)))
  (R (.slice ax14 nx14 cx14) w16)
def T22 : List Sh := [.v (.agg [.sl, .sl, (.int .i64)]), .v (.agg [.sl, .sl, .sl, .sl]), .v (.one .ptr), .v (.one .ptr), .v (.one .sl), .v (.one .sl), .v (.one (.int .i64)), .v (.one .ptr), .v (.one (.int .i64)), .v (.one .ptr), .v (.one (.int .i64)), .v (.one .ptr), .v (.one .any), .v (.one (.int .i64)), .v (.one (.int .i64)), .v (.one .ptr), .v (.one .sl), .v (.one (.int .i64)), .v (.one (.int .i64)), .v (.one .bool), .v (.one (.int .i64)), .v (.one .ptr), .v (.agg [.str, .sl]), .v (.one (.int .i64)), .v (.one .ptr), .v (.one .sl), .v (.one (.int .i64)), .v (.one .bool), .v (.one .ptr), .v (.one .sl), .v (.one (.int .i64)), .v (.one (.int .i64)), .v (.one .bool), .v (.one (.int .i64)), .v (.one .ptr), .v (.agg [.sl, .sl, (.int .i64), (.int .i64), .sl, (.int .i64)]), .v (.one .ptr), .v (.one .sl), .v (.one (.int .i64)), .v (.one (.int .i64)), .v (.one .bool), .v (.one (.int .i64)), .v (.one .ptr), .v (.agg [(.int .i64), (.int .i64), .sl, (.int .i64), (.int .i64), (.int .i64), (.int .i64)]), .v (.agg [(.int .i64), (.int .i64), .sl, (.int .i64), (.int .i64), (.int .i64), (.int .i64)]), .v (.one .sl), .v (.one (.int .i64)), .v (.one (.int .i64)), .v (.one .bool), .v (.one .ptr), .v (.one (.int .i64)), .v (.one .ptr), .v (.one .sl), .v (.one (.int .i64)), .v (.one .ptr), .v (.one .map), .v (.one (.int .i64)), .v (.one (.int .i64)), .v (.one (.int .i64)), .v (.one .bool), .v (.one .sl), .v (.one (.int .i64)), .v (.one (.int .i64)), .v (.one (.int .i64)), .v (.one (.int .i64)), .v (.one (.int .i64)), .v (.agg [(.int .i64), (.int .i64), (.int .i64), (.int .i64), (.int .i64)]), .v (.one .sl), .v (.one .sl), .v (.one (.int .i64)), .v (.one (.int .i64)), .v (.one .ptr), .v (.one .ptr), .v (.one (.int .i64)), .v (.one .bool), .v (.one .bool), .v (.one .ptr), .v (.one .sl), .v (.one (.int .i64)), .v (.one .ptr), .v (.one .map), .v (.one .ptr), .v (.one .ptr), .v (.one (.int .i64)), .v (.one (.int .i64)), .v (.one .bool), .v (.one .bool), .v (.one .sl), .v (.one (.int .i64)), .v (.one (.int .i64)), .v (.one .ptr), .v (.one .sl), .v (.one (.int .i64)), .v (.one .ptr), .v (.one .ptr), .v (.one (.int .i64)), .v (.one .ptr), .v (.one .sl), .v (.one (.int .i64)), .v (.one .ptr), .v (.one .map), .v (.one .ptr), .v (.one .ptr), .v (.one (.int .i64)), .v (.one (.int .i64)), .v (.agg [(.int .i64), (.int .i64), (.int .i64), (.int .i64), (.int .i64)]), .v (.one .sl), .v (.one .sl), .v (.one (.int .i64)), .v (.one (.int .i64)), .v (.one .sl)]
def A22 : Ann := (.seq none .z (.seq none .z (.seq none (.seq none .z (.block none (.loop [5, 18] (.seq none .z (.seq none (.cond .z .z) (.seq none (.block none (.seq none .z (.seq none (.seq none .z (.cond (.seq none .z .z) .z)) (.seq none .z (.block none (.loop [5, 31] (.seq none .z (.seq none (.cond .z .z) (.seq none (.block (some [5]) (.seq none .z (.seq none (.seq none .z (.block none (.loop [5, 39] (.seq none .z (.seq none (.cond .z .z) (.seq none (.block none (.seq none .z (.seq none .z (.block none (.loop [5, 47] (.seq none .z (.seq none (.cond .z .z) (.seq none (.block (some [5]) (.seq none .z (.seq none .z (.seq none .z (.cond .z .z))))) .z)))))))) .z)))))) (.seq (some [86]) (.dr [0, 0, 1, 0, 0, 0, 1, 0, 0, 1, 0, 0, 1, 1, 0, 0] [0, 1, 2, 3, 4, 5, 6, 7, 8, 9, 10, 11, 12, 13, 14, 15]) (.cond (.dr [0, 0, 0, 0, 1, 0, 0, 0, 1, 0, 1, 0, 0, 1, 0, 0, 1, 1, 0, 3, 3, 0] [0, 1, 2, 3, 4, 5, 6, 7, 8, 9, 10, 11, 12, 13, 14, 15, 16, 17, 18, 19, 20, 21]) .z))))) .z))))))))) .z)))))) (.seq none .z .z))))
theorem F22_eq (ax1 : Option Addr) (nx1 cx1 : Nat) (ax2 : Option Addr) (nx2 cx2 : Nat) (x3 : Int) (ax4 : Option Addr) (nx4 cx4 : Nat) (ax5 : Option Addr) (nx5 cx5 : Nat) (ax6 : Option Addr) (nx6 cx6 : Nat) (ax7 : Option Addr) (nx7 cx7 : Nat) (w : World) (R : Value → World → Prop) : F22 ax1 nx1 cx1 ax2 nx2 cx2 x3 ax4 nx4 cx4 ax5 nx5 cx5 ax6 nx6 cx6 ax7 nx7 cx7 w R = denF Go.Proofs.Try.prog T22 Go.Proofs.Try.f22 A22 [.agg ⟨[.slice ax1 nx1 cx1, .slice ax2 nx2 cx2, .int .i64 x3]⟩, .agg ⟨[.slice ax4 nx4 cx4, .slice ax5 nx5 cx5, .slice ax6 nx6 cx6, .slice ax7 nx7 cx7]⟩] w R := by kernel_rfl
theorem F22_ok (ax1 : Option Addr) (nx1 cx1 : Nat) (ax2 : Option Addr) (nx2 cx2 : Nat) (x3 : Int) (ax4 : Option Addr) (nx4 cx4 : Nat) (ax5 : Option Addr) (nx5 cx5 : Nat) (ax6 : Option Addr) (nx6 cx6 : Nat) (ax7 : Option Addr) (nx7 cx7 : Nat) {w : World} {R : Value → World → Prop} (h : F22 ax1 nx1 cx1 ax2 nx2 cx2 x3 ax4 nx4 cx4 ax5 nx5 cx5 ax6 nx6 cx6 ax7 nx7 cx7 w R) : CallP Go.Proofs.Try.prog 22 [.agg ⟨[.slice ax1 nx1 cx1, .slice ax2 nx2 cx2, .int .i64 x3]⟩, .agg ⟨[.slice ax4 nx4 cx4, .slice ax5 nx5 cx5, .slice ax6 nx6 cx6, .slice ax7 nx7 cx7]⟩] w R :=
  calls_den (fun _ => drawn (by kernel_rfl)) Go.Proofs.Try.func22 (Nat.le_of_ble_eq_true (by kernel_rfl)) ((F22_eq ax1 nx1 cx1 ax2 nx2 cx2 x3 ax4 nx4 cx4 ax5 nx5 cx5 ax6 nx6 cx6 ax7 nx7 cx7 w R).mp h)
end Go.Pl.Try

/- Where values become known: walked. -/
namespace Go.Pl.Try
open M
set_option linter.unusedVariables false
theorem first_run {t e size bytes : Nat} (hT : slT Pg t e size bytes = true) {a : Option Addr} {n c : Nat} (h1 : 1 ≤ n) (hc : n ≤ c) (w : World) :
    (Instr.sliceAt t (.slice a n c) none (some (.int .i64 1)) (some (.int .i64 1))).run Pg w = .ok (.slice a 1 1) w := by
  obtain ⟨ht, i, z, hi, rfl, rfl, hz, hzs⟩ := slT_inv hT
  have hc1 : (1 : Int) ≤ c := by omega
  simp [Instr.sliceAt, Instr.slice, run_und w ht, Instr.sliceBounds, Instr.sliceBound, asIntOf, hc1, info_of_size hi w]
  cases a with
  | none => rfl
  | some a => simp [Addr.add]
theorem rdI_owns {a : Option Addr} {n c : Nat} {xs : List Int} {r : Rw} {e : TypeId} (hsl : Sls 1 a n c (xs.map (Value.int .i64)) r) {w : World} (h : Owns w (r.L e (xs.map (Value.int .i64)))) : RdI w a n xs := by
  have hn := hsl.n_eq
  rw [List.length_map] at hn
  refine ⟨hn.symm, by have := hsl.c_le; cases r with
    | emp => have := hsl.2.1; omega
    | «at» b pre sp => have := hsl.2.2.2.2; omega, fun i x hi => ?_⟩
  obtain ⟨b, o, h1, h2⟩ := hsl.cel_owns h (j := i) (v := .int .i64 x) (by rw [List.getElem?_map, hi]; rfl)
  refine ⟨b, o, [.int .i64 x], h1, ?_, rfl, rfl⟩
  intro k v hk
  cases k with
  | zero => cases hk; rw [Nat.mul_one]; exact h2
  | succ k => simp at hk
theorem copy_own {w : World} {a : Option Addr} {n c : Nat} {xs : List Int} (h : RdI w a n xs) (hn : n ≤ 4294967296) :
    ∃ a' c' w' r', (Builtin.append_ #[34, 34] 34 ⟨[.slice none 0 0, .slice a n c]⟩).run Pg w = .ok (.slice a' n c') w' ∧ Sls 1 a' n c' (xs.map (Value.int .i64)) r' ∧ Hp w w' (r'.L 3 (xs.map (Value.int .i64))) := by
  obtain ⟨a', c', w', r', h1, h2, h3⟩ := app2 (ty := 34) slInts (by omega) (Sls.nil 1 none) [] (L := []) (Hp.refl w) (srcI h) (one_ints xs) (by simp only [maxLen]; omega) (by omega) (cx := c)
  refine ⟨a', c', w', r', by simpa using h1, by simpa using h2, ?_⟩
  simpa using h3
theorem knownv_w {w0 w : World} (hx0 : Ext w0 w) {i : Ins} {us : List Value} (hi : RIns w0 us i) (hl : i.args.length ≤ lim) :
    CallP Pg 45 [.agg ⟨us⟩] w fun v w' => ∃ a n c L, v = .slice a n c ∧ Hp w w' L ∧ ∀ w2, Owns w2 L → Ext w0 w2 → RdI w2 a n (known i) := by
  obtain ⟨ai, ni, ci, rfl, hargs⟩ := hi
  have hal := hargs.len
  simp only [lim] at hl
  refine F45_ok _ _ _ _ _ _ _ _ _ ?_
  unfold F45
  refine alp (Hp.refl w) fun b8 w9 h9 => ?_
  intro K10 hK10 K12 hK12 K16 hK16
  have hnil : known i = [] → K10 w9 := fun hk => hK10 _ ⟨none, 0, 0, [], rfl, h9.drop 1, fun _ _ _ => by rw [hk]; exact RdS.nil _ _ _ _⟩
  have hone : (i.op = 5 ∨ i.op = 6) → 0 < ni → K12 w9 := by
    intro ho hn
    refine hK12 _ ⟨_, _, _, h9.cl 0 rfl rfl, ai, 1, 1, first_run slInts (by omega) hargs.cap w9, ai, 1, 1, [], rfl, h9.drop 1, fun w2 _ hx2 => ?_⟩
    have hne : i.args ≠ [] := by intro e; rw [e] at hal; simp at hal; omega
    have hk : known i = i.args.take 1 := by unfold known; rw [if_pos ⟨ho, hne⟩]
    rw [hk]
    refine ⟨by simp; omega, by simp only [maxLen]; omega, fun j x hx => ?_⟩
    have hx' : i.args[j]? = some x := by
      rw [List.getElem?_take] at hx
      split at hx
      · exact hx
      · cases hx
    exact (RdI.ext hargs.rd hx2).at_ j x hx'
  have hrest : ¬ ((i.op = 5 ∨ i.op = 6) ∧ i.args ≠ []) → K16 w9 := by
    intro hno
    have hk : known i = if i.op = 2 ∧ divides i.bin = true then i.args else [] := by unfold known; rw [if_neg hno]
    refine hK16 _ ⟨_, h9.cl 0 rfl rfl, sp_dec (fun h2 => ⟨_, h9.cl 0 rfl rfl, (divides_w i.bin w9).mono ?_⟩) (fun h2 => hnil (by rw [hk, if_neg (fun h => h2 h.1)]))⟩
    rintro v w21 ⟨rfl, rfl⟩
    refine ⟨_, rfl, sp_of (fun hd => ⟨_, _, _, h9.cl 0 rfl rfl, ?_⟩) (fun hd => hnil (by rw [hk, if_neg (fun h => by rw [hd] at h; cases h.2)]))⟩
    obtain ⟨a2, c2, w2, r2, hrun, hs2, h2'⟩ := copy_own (c := ci) (RdI.ext hargs.rd (hx0.trans h9.ext)) (by omega)
    refine ⟨_, _, _, w2, hrun, a2, ni, c2, r2.L 3 (i.args.map (Value.int .i64)), rfl, (h9.call h2').sub (by simp), fun w3 ho _ => ?_⟩
    rw [hk, if_pos ⟨h2, hd⟩]
    exact rdI_owns hs2 ho
  have hempty : ¬ (0 : Int) < (ni : Nat) → i.args = [] := fun h => List.eq_nil_of_length_eq_zero (by omega)
  refine ⟨_, h9.cl 0 rfl rfl, sp_dec (fun h5 => ⟨_, _, _, h9.cl 0 rfl rfl, sp_dec (fun hn => hone (.inl h5) (by omega)) (fun hn => hrest (fun h => h.2 (hempty hn)))⟩) (fun h5 => ⟨_, h9.cl 0 rfl rfl, sp_dec (fun h6 => ⟨_, _, _, h9.cl 0 rfl rfl, sp_dec (fun hn => hone (.inr h6) (by omega)) (fun hn => hrest (fun h => h.2 (hempty hn)))⟩) (fun h6 => hrest (fun h => h.1.elim h5 h6))⟩)⟩
theorem slSnks : slT Pg 91 100 5 40 = true := by kernel_rfl
def snkCells (s : Snk) : List Value := [.int .i64 s.fn, .int .i64 s.blk, .int .i64 s.at_, .int .i64 s.val, .int .i64 s.lab]
theorem snkCells_len (l : List Snk) : (l.flatMap snkCells).length = l.length * 5 := by
  induction l with
  | nil => rfl
  | cons a l ih => rw [List.flatMap_cons, List.length_append, ih]; simp [snkCells]; omega
theorem sinks_w {w : World} {p : Prg} {vs : List Value} (h : RProg w vs p) (hl : p.Lim) {S : TS} {av a2 a3 a4 : Option Addr} {cv n2 c2 n3 c3 n4 c4 : Nat} (hlab : LabV w av p.funcs.length S) :
    CallP Pg 22 [.agg ⟨vs⟩, .agg ⟨[.slice av p.funcs.length cv, .slice a2 n2 c2, .slice a3 n3 c3, .slice a4 n4 c4]⟩] w fun v w' => ∃ a c r, v = .slice a (p.sinks S).length c ∧ Sls 5 a (p.sinks S).length c ((p.sinks S).flatMap snkCells) r ∧ Hp w w' (r.L 100 ((p.sinks S).flatMap snkCells)) := by
  obtain ⟨aa, na, ca, af, nf, cf, rfl, harr, hfun⟩ := h
  have hfl := hfun.len
  have hfle := hfun.le
  have htl := Prg.sinks_len S hl
  refine F22_ok _ _ _ _ _ _ _ _ _ _ _ _ _ _ _ _ _ _ _ ?_
  unfold F22
  refine alp (Hp.refl w) fun b8 w9 h9 => ?_
  refine alp h9 fun b10 w11 h11 => ⟨_, _, _, h11.cl 1 rfl rfl, ?_⟩
  generalize hb8 : (b8, Cl 32 [.slice aa na ca, .slice af nf cf, .int .i64 p.main]) = B8 at *
  obtain ⟨tot, htot⟩ : ∃ t, t = p.sinks S := ⟨_, rfl⟩
  rw [← htot] at htl ⊢
  generalize hb10 : (b10, Cl 69 [.slice av p.funcs.length cv, .slice a2 n2 c2, .slice a3 n3 c3, .slice a4 n4 c4]) = B10 at *
  have hone : ∀ l : List Snk, (l.flatMap snkCells).all (·.oneCell') = true := by
    intro l
    rw [List.all_eq_true]
    intro v hv
    obtain ⟨s, -, hs⟩ := List.mem_flatMap.1 hv
    simp only [snkCells, List.mem_cons, List.not_mem_nil, or_false] at hs
    rcases hs with rfl | rfl | rfl | rfl | rfl <;> rfl
  refine ⟨fun a n c i w' m => ∃ (j : Nat) (out : List Snk) (r : Rw), i = j ∧ j ≤ nf ∧ m = nf - j ∧ n = out.length ∧ Sls 5 a n c (out.flatMap snkCells) r ∧ Hp w w' ([B10, B8] ++ (r.L 100 (out.flatMap snkCells) ++ [])) ∧ out ++ snkFn S j (p.funcs.drop j) = tot,
    ⟨nf, 0, [], .emp, rfl, by omega, by omega, rfl, Sls.nil _ _, h11, by rw [htot]; rfl⟩, ?_⟩
  rintro a n c i w16 m ⟨j, out, r, rfl, hj, rfl, rfl, hs, h16, hout⟩
  refine sp_dec (fun hlt => ?_) (fun hge => ?_)
  · obtain ⟨f, hx⟩ := at_some (l := p.funcs) (j := j) (by omega)
    rw [drop_cons hx, snkFn] at hout
    obtain ⟨bb, ob, vs, ha, hrow, hvl, ab, nb, cb, rfl, hbs⟩ := hfun.at_ _ _ hx
    have hbl := hbs.len
    have hble := hbs.le
    have hflim := hl.each f (List.mem_of_getElem? hx)
    refine ⟨by omega, by omega, ptAt_of ha ⟨_, _, _, _, h16.ext.row hrow, ?_⟩⟩
    refine alp h16 fun b23 w24 h24 => ?_
    refine stp h24 0 rfl (by simp) rfl fun w25 h25 => ⟨_, _, _, by subst hb10; exact h25.cl 1 rfl rfl, sp_dec (fun hno => absurd hno (by omega)) (fun _ => ⟨_, _, _, h25.cl 0 rfl rfl, ?_⟩)⟩
    generalize hb23 : (b23, Cl 29 (splice [.string ⟨#[]⟩, .slice none 0 0] 0 [.string f.name, .slice ab nb cb])) = B23 at *
    refine ⟨fun a n c i w' m => ∃ (q : Nat) (out : List Snk) (r : Rw), i = q ∧ q ≤ nb ∧ m = nb - q ∧ n = out.length ∧ Sls 5 a n c (out.flatMap snkCells) r ∧ Hp w w' ([B23, B10, B8] ++ (r.L 100 (out.flatMap snkCells) ++ [])) ∧ out ++ (snkBlk S j q (f.blocks.drop q) ++ snkFn S (j + 1) (p.funcs.drop (j + 1))) = tot,
      ⟨nb, 0, out, r, rfl, by omega, by omega, rfl, hs, h25, hout⟩, ?_⟩
    clear hs h16 h24 h25 hout
    rintro a n c i w31 m ⟨q, out, r, rfl, hq, rfl, rfl, hs, h31, hout⟩
    refine sp_dec (fun hlt2 => ?_) (fun hge2 => ?_)
    · intro K34 hK34
      obtain ⟨b, hy⟩ := at_some (l := f.blocks) (j := q) (by omega)
      rw [drop_cons hy, snkBlk] at hout
      have hblim := hflim.each b (List.mem_of_getElem? hy)
      obtain ⟨bt, ot, ap, np, cp, ai, ni, ci, ae, ne, ce, hat, hrowt, hp, hi, he⟩ := blkOf hbs hy
      have hil := hi.len
      have hile := hi.le
      refine ⟨by omega, by omega, ptAt_of hat ⟨_, _, _, _, _, _, _, _, _, _, _, _, h31.ext.row hrowt, ?_⟩⟩
      refine alp h31 fun b45 w46 h46 => ?_
      refine stp h46 0 rfl (by simp) rfl fun w47 h47 => ⟨_, _, _, h47.cl 0 rfl rfl, ?_⟩
      generalize hb45 : (b45, Cl 47 (splice [.slice none 0 0, .slice none 0 0, .int .i64 0, .int .i64 0, .slice none 0 0, .int .i64 0] 0 [.slice ap np cp, .slice ai ni ci, .int .i64 b.fin.kind, .int .i64 b.fin.val, .slice ae ne ce, .int .i64 b.fin.trap])) = B45 at *
      obtain ⟨rest, hrest⟩ : ∃ r, r = snkBlk S j (q + 1) (f.blocks.drop (q + 1)) ++ snkFn S (j + 1) (p.funcs.drop (j + 1)) := ⟨_, rfl⟩
      rw [List.append_assoc, List.append_assoc, ← hrest] at hout
      refine ⟨fun a n c i w' m => ∃ (s : Nat) (out : List Snk) (r : Rw), i = s ∧ s ≤ ni ∧ m = ni - s ∧ n = out.length ∧ Sls 5 a n c (out.flatMap snkCells) r ∧ Hp w w' ([B45, B23, B10, B8] ++ (r.L 100 (out.flatMap snkCells) ++ [])) ∧ out ++ (snkIns S j q s (b.ins.drop s) ++ (snkEnd S j q b ++ rest)) = tot,
        ⟨ni, 0, out, r, rfl, by omega, by omega, rfl, hs, h47, hout⟩, ?_⟩
      clear hs h31 h46 h47 hout
      rintro a n c i w52 m ⟨s, out, r, rfl, hs', rfl, rfl, hs, h52, hout⟩
      refine sp_dec (fun hlt3 => ?_) (fun hge3 => ?_)
      · obtain ⟨x, hz⟩ := at_some (l := b.ins) (j := s) (by omega)
        rw [drop_cons hz, snkIns, List.append_assoc] at hout
        obtain ⟨bi, oi, vs, hai, hrowi, hvli, hRx⟩ := hi.at_ _ _ hz
        have hRx0 := hRx
        obtain ⟨aa', na', ca', rfl, hargs⟩ := hRx
        refine ⟨by omega, by omega, ptAt_of hai ⟨_, _, _, _, _, _, _, _, _, h52.ext.row hrowi, ?_⟩⟩
        refine alp h52 fun b64 w65 h65 => ?_
        refine stp h65 0 rfl (by simp) rfl fun w66 h66 => ⟨_, _, _, _, _, _, _, _, _, h66.row 0 rfl, ?_⟩
        refine (knownv_w h66.ext hRx0 (hblim.iargs x (List.mem_of_getElem? hz))).mono ?_
        rintro v w75 ⟨ak, nk, ck, LK, rfl, hLK, hkr⟩
        have h75 := h66.call hLK
        have hk := hkr w75 (fun p hp => (hLK.own p hp).2) (h66.ext.trans hLK.ext)
        have hkl := hk.len
        have hkle := hk.le
        refine ⟨_, _, _, rfl, ?_⟩
        generalize hb64 : (b64, Cl 37 (splice [.int .i64 0, .int .i64 0, .slice none 0 0, .int .i64 0, .int .i64 0, .int .i64 0, .int .i64 0] 0 [.int .i64 x.op, .int .i64 x.dst, .slice aa' na' ca', .int .i64 x.num, .int .i64 x.bin, .int .i64 x.arr, .int .i64 x.fn])) = B64 at *
        have h75 : Hp w w75 ((LK ++ [B64, B45, B23, B10, B8]) ++ (r.L 100 (out.flatMap snkCells) ++ [])) := by rw [List.append_assoc]; exact h75
        obtain ⟨kl, hkl0⟩ : ∃ l, l = known x := ⟨_, rfl⟩
        rw [← hkl0] at hk hkl hout hkr
        have hx66 := h66.ext
        refine ⟨fun a n c i w' m => ∃ (u : Nat) (out : List Snk) (r : Rw), i = u ∧ u ≤ nk ∧ m = nk - u ∧ n = out.length ∧ Sls 5 a n c (out.flatMap snkCells) r ∧ Hp w w' ((LK ++ [B64, B45, B23, B10, B8]) ++ (r.L 100 (out.flatMap snkCells) ++ [])) ∧ RdI w' ak nk kl ∧
            out ++ (snkVals S j q s (kl.drop u) ++ (snkIns S j q (s + 1) (b.ins.drop (s + 1)) ++ (snkEnd S j q b ++ rest))) = tot,
          ⟨nk, 0, out, r, rfl, by omega, by omega, rfl, hs, h75, hk, hout⟩, ?_⟩
        clear hs h52 h65 h66 h75 hLK hout hk
        rintro a n c i w80 m ⟨u, out, r, rfl, hu, rfl, rfl, hs, h80, hrd, hout⟩
        obtain ⟨bl, ol, pm, g, hav, hcl, hrm, hg⟩ := hlab j (by omega)
        refine sp_dec (fun hlt4 => ?_) (fun hge4 => ?_)
        · intro K83 hK83
          obtain ⟨v, hv⟩ := at_some (l := kl) (j := u) (by omega)
          rw [drop_cons hv, snkVals, List.append_assoc] at hout
          obtain ⟨bk, ok, hak, hck⟩ := RdI.at hrd hv
          have hc10 : cel w80 b10 0 = some (.slice av p.funcs.length cv) := by
            subst hb10
            refine h80.cl (LK.length + 3) (e := 69) (vs := [.slice av p.funcs.length cv, .slice a2 n2 c2, .slice a3 n3 c3, .slice a4 n4 c4]) ?_ rfl
            rw [List.append_assoc, List.getElem?_append_right (by omega), show LK.length + 3 - LK.length = 3 by omega]; rfl
          refine ⟨by omega, by omega, ptAt_of hak ⟨v, hck, _, _, _, hc10, by omega, by omega, ptAt_of hav ⟨pm, h80.ext.cel (by simpa using hcl), S.get j v, ?_, sp_of (fun h0 => ?_) (fun h0 => ?_)⟩⟩⟩
          · rw [look_map mpLab zLab (hrm.ext h80.ext), hg]
          · have h0' : S.get j v ≠ 0 := by simpa using h0
            rw [if_neg h0'] at hout
            refine alp h80 fun b94 w95 h95 => ?_
            have h95 : Hp w w95 (((b94, Cl 100 (snkCells ⟨j, q, s, v, S.get j v⟩)) :: (LK ++ [B64, B45, B23, B10, B8])) ++ (r.L 100 (out.flatMap snkCells) ++ [])) := h95
            have hol : out.length + 1 ≤ tot.length := by rw [← hout]; simp
            obtain ⟨a96, c96, w97, r96, happ, hs96, h97⟩ := app1 (ty := 91) slSnks (by omega) hs _ h95 0 rfl rfl (by rfl) (by simp only [maxLen]; omega) (by omega)
            have hfl2 : out.flatMap snkCells ++ snkCells ⟨j, q, s, v, S.get j v⟩ = (out ++ [(⟨j, q, s, v, S.get j v⟩ : Snk)]).flatMap snkCells := by simp
            rw [hfl2] at hs96 h97
            refine ⟨_, _, _, w97, happ, hK83 _ _ _ _ ⟨nk - (u + 1), by omega, u + 1, out ++ [(⟨j, q, s, v, S.get j v⟩ : Snk)], r96, wrap_succ (by omega), by omega, rfl, by simp, hs96, h97.drop 1, hkr w97 (h97.owns fun p hp => by simp [hp]) h97.ext, by rw [← hout]; simp⟩⟩
          · have h0' : S.get j v = 0 := by simpa using h0
            rw [if_pos h0', List.nil_append] at hout
            exact hK83 _ _ _ _ ⟨nk - (u + 1), by omega, u + 1, out, r, wrap_succ (by omega), by omega, rfl, rfl, hs, h80, hrd, hout⟩
        · rw [List.drop_of_length_le (by omega), snkVals, List.nil_append] at hout
          have h81 : Hp w w80 ([B45, B23, B10, B8] ++ (r.L 100 (out.flatMap snkCells) ++ [])) := by
            have := h80.drop (LK.length + 1)
            rw [List.append_assoc, List.drop_append, List.drop_of_length_le (by omega), show LK.length + 1 - LK.length = 1 by omega] at this
            exact this
          exact ⟨ni - (s + 1), by omega, s + 1, out, r, wrap_succ (by omega), by omega, rfl, rfl, hs, h81, hout⟩
      · rw [List.drop_of_length_le (by omega), snkIns, List.nil_append] at hout
        obtain ⟨bl, ol, pm, g, hav, hcl, hrm, hg⟩ := hlab j (by omega)
        intro K98 hK98
        have hd := h52.drew
        have hdd := hd.drew
        have hB : ∀ {w'}, Hp w w' ([B45, B23, B10, B8] ++ (r.L 100 (out.flatMap snkCells) ++ [])) → ∀ {o : Nat} {v : Value}, [Value.slice ap np cp, .slice ai ni ci, .int .i64 b.fin.kind, .int .i64 b.fin.val, .slice ae ne ce, .int .i64 b.fin.trap][o]? = some v → cel w' b45 o = some v := by
          intro w' h' o v hv
          subst hb45
          exact h'.cl 0 rfl hv
        have hC : ∀ {w'}, Hp w w' ([B45, B23, B10, B8] ++ (r.L 100 (out.flatMap snkCells) ++ [])) → cel w' b10 0 = some (.slice av p.funcs.length cv) := by
          intro w' h'
          subst hb10
          exact h'.cl 2 rfl rfl
        have hlk : ∀ w', Ext w w' → (Instr.lookup 80 (.map pm) (.int .i64 b.fin.val) false).run Pg w' = .ok (.int .i64 (S.get j b.fin.val)) w' := fun w' hx => by rw [look_map mpLab zLab (hrm.ext hx), hg]
        have key : ∀ x, x = decide (b.fin.kind = 2 ∧ S.get j b.fin.val ≠ 0) → K98 x w52.drew := by
          intro x hx
          refine hK98 x _ ?_
          subst hx
          refine sp_dec (fun hk => ?_) (fun hk => ?_)
          · rw [snkEnd, if_pos hk] at hout
            refine ⟨_, _, _, hB hdd rfl, _, hB hdd rfl, _, _, _, hC hdd, by omega, by omega, ptAt_of hav ⟨pm, hdd.ext.cel (by simpa using hcl), _, hB hdd rfl, _, fun w' hx => hlk w' (hdd.ext.trans hx), ?_⟩⟩
            refine alp hdd fun b94 w95 h95 => ?_
            have h95 : Hp w w95 (((b94, Cl 100 (snkCells ⟨j, q, ni, b.fin.val, S.get j b.fin.val⟩)) :: [B45, B23, B10, B8]) ++ (r.L 100 (out.flatMap snkCells) ++ [])) := h95
            have hol : out.length + 1 ≤ tot.length := by rw [← hout]; simp
            obtain ⟨a96, c96, w97, r96, happ, hs96, h97⟩ := app1 (ty := 91) slSnks (by omega) hs _ h95 0 rfl rfl (by rfl) (by simp only [maxLen]; omega) (by omega)
            have hfl2 : out.flatMap snkCells ++ snkCells ⟨j, q, ni, b.fin.val, S.get j b.fin.val⟩ = (out ++ [(⟨j, q, ni, b.fin.val, S.get j b.fin.val⟩ : Snk)]).flatMap snkCells := by simp
            rw [hfl2] at hs96 h97
            refine ⟨_, _, _, w97, happ, hK34 _ _ _ _ ⟨nb - (q + 1), by omega, q + 1, out ++ [(⟨j, q, ni, b.fin.val, S.get j b.fin.val⟩ : Snk)], r96, wrap_succ (by omega), by omega, rfl, by simp, hs96, h97.drop 2, ?_⟩⟩
            rw [← hout, hil, ← hrest]; simp
          · rw [snkEnd, if_neg hk, List.nil_append, hrest] at hout
            exact hK34 _ _ _ _ ⟨nb - (q + 1), by omega, q + 1, out, r, wrap_succ (by omega), by omega, rfl, rfl, hs, hd.drop 1, hout⟩
        refine ⟨_, hB hd rfl, sp_dec (fun h2 => ⟨_, _, _, hC hd, by omega, by omega, ptAt_of hav ⟨pm, hd.ext.cel (by simpa using hcl), _, hB hd rfl, _, fun w' hx => hlk w' (hd.ext.trans hx), key _ (by simp [h2])⟩⟩) (fun h2 => key _ (by simp [h2]))⟩
    · rw [List.drop_of_length_le (by omega), snkBlk, List.nil_append] at hout
      exact ⟨nf - (j + 1), by omega, j + 1, out, r, wrap_succ (by omega), by omega, rfl, rfl, hs, h31.drop 1, hout⟩
  · rw [List.drop_of_length_le (by omega), snkFn, List.append_nil] at hout
    subst hout
    refine ⟨a, c, r, rfl, hs, h16.sub ?_⟩
    simp
end Go.Pl.Try
