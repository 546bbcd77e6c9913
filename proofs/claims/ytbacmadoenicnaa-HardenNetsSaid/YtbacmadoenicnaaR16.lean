/- Joined texts of the proof, part 16: F4, WNets. -/
import Derived.Test.YtbacmadoenicnaaR15
set_option maxRecDepth 2000
set_option linter.unusedVariables false
set_option linter.unusedSimpArgs false
set_option linter.unusedSectionVars false
/- What 'palings/palingslaw14.HardenNets' does, read off its translation by gen.py. -/
namespace Go.Pl.Try
set_option linter.unusedVariables false
set_option maxRecDepth 100000
def F4 (ax1 : Option Addr) (nx1 cx1 : Nat) (ax2 : Option Addr) (nx2 cx2 : Nat) (x3 : Int) (x4 : Int) (w : World) (R : Value → World → Prop) : Prop :=
  AlP 32 [.slice ax1 nx1 cx1, .slice ax2 nx2 cx2, .int .i64 x3] w fun b5 w6 =>
  CallP Pg 6 [] w6 fun v7 w8 => ∃ (x9 : Bool), v7 = .bool x9 ∧
  sp (!x9)
  (R (.bool false) w8)
  (∃ (ax10 : Option Addr) (nx10 cx10 : Nat) (ax11 : Option Addr) (nx11 cx11 : Nat) (x12 : Int), Row w8 b5 0 [.slice ax10 nx10 cx10, .slice ax11 nx11 cx11, .int .i64 x12] ∧
  CallP Pg 9 [.agg ⟨[.slice ax10 nx10 cx10, .slice ax11 nx11 cx11, .int .i64 x12]⟩] w8 fun v13 w14 => ∃ (x15 : Bool), v13 = .bool x15 ∧
  sp (!x15)
  (R (.bool true) w14)
  (∃ (ax16 : Option Addr) (nx16 cx16 : Nat) (ax17 : Option Addr) (nx17 cx17 : Nat) (x18 : Int), Row w14 b5 0 [.slice ax16 nx16 cx16, .slice ax17 nx17 cx17, .int .i64 x18] ∧
  CallP Pg 10 [.agg ⟨[.slice ax16 nx16 cx16, .slice ax17 nx17 cx17, .int .i64 x18]⟩, .int .i64 x4] w14 fun v19 w20 => ∃ (ax21 : Option Addr) (nx21 cx21 : Nat) (ax22 : Option Addr) (nx22 cx22 : Nat) (ax23 : Option Addr) (nx23 cx23 : Nat) (ax24 : Option Addr) (nx24 cx24 : Nat) (ax25 : Option Addr) (nx25 cx25 : Nat) (x26 : Int), v19 = .tuple ⟨[.agg ⟨[.slice ax21 nx21 cx21, .slice ax22 nx22 cx22, .slice ax23 nx23 cx23, .slice ax24 nx24 cx24]⟩, .slice ax25 nx25 cx25, .int .i64 x26]⟩ ∧
  AlP 62 [.slice none 0 0, .slice none 0 0, .slice none 0 0, .slice none 0 0] w20 fun b27 w28 =>
  StP b27 0 [.slice ax21 nx21 cx21, .slice ax22 nx22 cx22, .slice ax23 nx23 cx23, .slice ax24 nx24 cx24] w28 fun w29 =>
  ∀ K30 : World → Prop, (∀ w31, (
  ∃ (ax32 : Option Addr) (nx32 cx32 : Nat) (ax33 : Option Addr) (nx33 cx33 : Nat) (x34 : Int), Row w31 b5 0 [.slice ax32 nx32 cx32, .slice ax33 nx33 cx33, .int .i64 x34] ∧
  CallP Pg 12 [.agg ⟨[.slice ax32 nx32 cx32, .slice ax33 nx33 cx33, .int .i64 x34]⟩, .slice none 0 0] w31 fun v35 w36 => ∃ (ax37 : Option Addr) (nx37 cx37 : Nat) (ax38 : Option Addr) (nx38 cx38 : Nat) (ax39 : Option Addr) (nx39 cx39 : Nat) (ax40 : Option Addr) (nx40 cx40 : Nat) (x41 : Int), v35 = .tuple ⟨[.agg ⟨[.slice ax37 nx37 cx37, .slice ax38 nx38 cx38, .slice ax39 nx39 cx39, .slice ax40 nx40 cx40]⟩, .int .i64 x41]⟩ ∧
  AlP 69 [.slice none 0 0, .slice none 0 0, .slice none 0 0, .slice none 0 0] w36 fun b42 w43 =>
  StP b42 0 [.slice ax37 nx37 cx37, .slice ax38 nx38 cx38, .slice ax39 nx39 cx39, .slice ax40 nx40 cx40] w43 fun w44 =>
  ∀ K45 : World → Prop, (∀ w46, (
  ∃ (ax47 : Option Addr) (nx47 cx47 : Nat), cel w46 b5 1 = some (.slice ax47 nx47 cx47) ∧
  0 ≤ (x4 : Int) ∧ (x4 : Int) < (nx47 : Nat) ∧
  ptAt ax47 fun b48 o49 =>
  ∃ (x50 : ByteArray) (ax51 : Option Addr) (nx51 cx51 : Nat), Row w46 b48 (o49 + x4.toNat * 2) [.string x50, .slice ax51 nx51 cx51] ∧
  AlP 29 [.string ⟨#[]⟩, .slice none 0 0] w46 fun b52 w53 =>
  StP b52 0 [.string x50, .slice ax51 nx51 cx51] w53 fun w54 =>
  ∃ (x55 : ByteArray) (ax56 : Option Addr) (nx56 cx56 : Nat), Row w54 b52 0 [.string x55, .slice ax56 nx56 cx56] ∧
  CallP Pg 13 [.agg ⟨[.string x55, .slice ax56 nx56 cx56]⟩] w54 fun v57 w58 => ∃ (x59 : Option Addr), v57 = .pointer x59 ∧
  CallP Pg 14 [.pointer x59] w58 fun v60 w61 => ∃ (ax62 : Option Addr) (nx62 cx62 : Nat), v60 = .slice ax62 nx62 cx62 ∧
  ∃ (ax63 : Option Addr) (nx63 cx63 : Nat) (ax64 : Option Addr) (nx64 cx64 : Nat) (x65 : Int), Row w61 b5 0 [.slice ax63 nx63 cx63, .slice ax64 nx64 cx64, .int .i64 x65] ∧
  CallP Pg 15 [.agg ⟨[.slice ax63 nx63 cx63, .slice ax64 nx64 cx64, .int .i64 x65]⟩] w61 fun v66 w67 => ∃ (ax68 : Option Addr) (nx68 cx68 : Nat), v66 = .slice ax68 nx68 cx68 ∧
  AlM w67 fun b69 w70 =>
  AlP 77 [.map none] w70 fun b71 w72 =>
  StP b71 0 [.map (some b69)] w72 fun w73 =>
  AlM w73 fun b74 w75 =>
  ∃ (ax76 : Option Addr) (nx76 cx76 : Nat), cel w75 b52 1 = some (.slice ax76 nx76 cx76) ∧
  ∃ J77 : Int → Int → World → Nat → Prop, (∃ m81, J77 0 0 w75 m81) ∧
  ∀ (x78 : Int) (x79 : Int), ∀ w80 m81, J77 x78 x79 w80 m81 →
  sp (decide ((x79 : Int) < (nx76 : Nat)))
  (∀ K83 : Int → World → Prop, (∀ (x84 : Int), ∀ w85, (
  ∃ m82, m82 < m81 ∧ J77 x84 (IntKind.wrap .i64 (x79 + 1)) w85 m82) → K83 x84 w85) →
  0 ≤ (x79 : Int) ∧ (x79 : Int) < (nx76 : Nat) ∧
  ptAt ax76 fun b86 o87 =>
  ∃ (ax88 : Option Addr) (nx88 cx88 : Nat) (ax89 : Option Addr) (nx89 cx89 : Nat) (x90 : Int) (x91 : Int) (ax92 : Option Addr) (nx92 cx92 : Nat) (x93 : Int), Row w80 b86 (o87 + x79.toNat * 6) [.slice ax88 nx88 cx88, .slice ax89 nx89 cx89, .int .i64 x90, .int .i64 x91, .slice ax92 nx92 cx92, .int .i64 x93] ∧
  AlP 47 [.slice none 0 0, .slice none 0 0, .int .i64 0, .int .i64 0, .slice none 0 0, .int .i64 0] w80 fun b94 w95 =>
  StP b94 0 [.slice ax88 nx88 cx88, .slice ax89 nx89 cx89, .int .i64 x90, .int .i64 x91, .slice ax92 nx92 cx92, .int .i64 x93] w95 fun w96 =>
  ∃ (x97 : ByteArray) (ax98 : Option Addr) (nx98 cx98 : Nat), Row w96 b52 0 [.string x97, .slice ax98 nx98 cx98] ∧
  CallP Pg 16 [.agg ⟨[.string x97, .slice ax98 nx98 cx98]⟩] w96 fun v99 w100 => ∃ (ax101 : Option Addr) (nx101 cx101 : Nat), v99 = .slice ax101 nx101 cx101 ∧
  0 ≤ (x79 : Int) ∧ (x79 : Int) < (nx101 : Nat) ∧
  ptAt ax101 fun b102 o103 =>
  ∃ (x104 : Bool), cel w100 b102 (o103 + x79.toNat * 1) = some (.bool x104) ∧
  sp (!x104)
  (K83 x78 w100)
  (AlP 3 [] w100 fun b105 w106 =>
  ∃ (ax107 : Option Addr) (nx107 cx107 : Nat), cel w106 b94 0 = some (.slice ax107 nx107 cx107) ∧
  ∃ (ax108 : Option Addr) (nx108 cx108 : Nat), ∃ w109 : World, Sem.run Pg (Builtin.append_ #[34, 34] 34 ⟨[.slice (some ⟨b105, 0, none⟩) 0 0, .slice ax107 nx107 cx107]⟩) w106 = .ok (.slice ax108 nx108 cx108) w109 ∧
  ∃ (ax110 : Option Addr) (nx110 cx110 : Nat), cel w109 b94 1 = some (.slice ax110 nx110 cx110) ∧
  ∃ J111 : Option Addr → Nat → Nat → Int → World → Nat → Prop, (∃ m115, J111 ax108 nx108 cx108 0 w109 m115) ∧
  ∀ (ax112 : Option Addr) (nx112 cx112 : Nat) (x113 : Int), ∀ w114 m115, J111 ax112 nx112 cx112 x113 w114 m115 →
  sp (decide ((x113 : Int) < (nx110 : Nat)))
  (∀ K117 : Option Addr → Nat → Nat → World → Prop, (∀ (ax118 : Option Addr) (nx118 cx118 : Nat), ∀ w119, (
  ∃ m116, m116 < m115 ∧ J111 ax118 nx118 cx118 (IntKind.wrap .i64 (x113 + 1)) w119 m116) → K117 ax118 nx118 cx118 w119) →
  0 ≤ (x113 : Int) ∧ (x113 : Int) < (nx110 : Nat) ∧
  ptAt ax110 fun b120 o121 =>
  ∃ (x122 : Int) (x123 : Int) (ax124 : Option Addr) (nx124 cx124 : Nat) (x125 : Int) (x126 : Int) (x127 : Int) (x128 : Int), Row w114 b120 (o121 + x113.toNat * 7) [.int .i64 x122, .int .i64 x123, .slice ax124 nx124 cx124, .int .i64 x125, .int .i64 x126, .int .i64 x127, .int .i64 x128] ∧
  AlP 37 [.int .i64 0, .int .i64 0, .slice none 0 0, .int .i64 0, .int .i64 0, .int .i64 0, .int .i64 0] w114 fun b129 w130 =>
  StP b129 0 [.int .i64 x122, .int .i64 x123, .slice ax124 nx124 cx124, .int .i64 x125, .int .i64 x126, .int .i64 x127, .int .i64 x128] w130 fun w131 =>
  ∃ (x132 : Int), cel w131 b129 1 = some (.int .i64 x132) ∧
  sp (!decide ((x132 : Int) = 0))
  (∃ (x133 : Int), cel w131 b129 1 = some (.int .i64 x133) ∧
  AlP 3 [.int .i64 x133] w131 fun b134 w135 =>
  ∃ (ax136 : Option Addr) (nx136 cx136 : Nat), ∃ w137 : World, Sem.run Pg (Builtin.append_ #[34, 34] 34 ⟨[.slice ax112 nx112 cx112, .slice (some ⟨b134, 0, none⟩) 1 1]⟩) w135 = .ok (.slice ax136 nx136 cx136) w137 ∧
  K117 ax136 nx136 cx136 w137)
  (K117 ax112 nx112 cx112 w131))
  (∃ J138 : Int → Int → World → Nat → Prop, (∃ m142, J138 1 0 w114 m142) ∧
  ∀ (x139 : Int) (x140 : Int), ∀ w141 m142, J138 x139 x140 w141 m142 →
  ∀ K144 : World → Prop, (∀ w145, (
  ∃ m143, m143 < m142 ∧ J138 (IntKind.wrap .i64 (x139 * 10)) (IntKind.wrap .i64 (x140 + 1)) w145 m143) → K144 w145) →
  ∀ K146 : World → Prop, (∀ w147, (
  ∃ J148 : Int → Int → World → Nat → Prop, (∃ m152, J148 x78 0 w147 m152) ∧
  ∀ (x149 : Int) (x150 : Int), ∀ w151 m152, J148 x149 x150 w151 m152 →
  sp (decide ((x150 : Int) < (nx112 : Nat)))
  (∀ K154 : Int → World → Prop, (∀ (x155 : Int), ∀ w156, (
  ∃ m153, m153 < m152 ∧ J148 x155 (IntKind.wrap .i64 (x150 + 1)) w156 m153) → K154 x155 w156) →
  0 ≤ (x150 : Int) ∧ (x150 : Int) < (nx112 : Nat) ∧
  ptAt ax112 fun b157 o158 =>
  ∃ (x159 : Int), cel w151 b157 (o158 + x150.toNat * 1) = some (.int .i64 x159) ∧
  ∃ (ax160 : Option Addr) (nx160 cx160 : Nat), cel w151 b42 0 = some (.slice ax160 nx160 cx160) ∧
  0 ≤ (x4 : Int) ∧ (x4 : Int) < (nx160 : Nat) ∧
  ptAt ax160 fun b161 o162 =>
  ∃ (x163 : Option Nat), cel w151 b161 (o162 + x4.toNat * 1) = some (.map x163) ∧
  ∃ (x164 : Int), Sem.run Pg (Instr.lookup 80 (.map x163) (.int .i64 x159) false) w151 = .ok (.int .i64 x164) w151 ∧
  sp (!decide ((x164 : Int) = 1))
  (K154 x149 w151)
  (∀ K165 : World → Prop, (∀ w166, (
  ∃ (x167 : Option Nat), cel w166 b71 0 = some (.map x167) ∧
  ∃ w168 : World, Sem.run Pg (Instr.mapUpdate 77 (.map x167) (.int .i64 x159) (.int .i64 x149)) w166 = .ok () w168 ∧
  K154 (IntKind.wrap .i64 (x149 + 1)) w168) → K165 w166) →
  ∀ K169 : World → Prop, (∀ w170, (
  R (.bool false) w170) → K169 w170) →
  sp (decide (((nx25 : Nat) : Int) ≤ x149))
  (K169 w151)
  (0 ≤ (x149 : Int) ∧ (x149 : Int) < (nx25 : Nat) ∧
  ptAt ax25 fun b171 o172 =>
  ∃ (x173 : Int), cel w151 b171 (o172 + x149.toNat * 1) = some (.int .i64 x173) ∧
  sp (!decide ((x173 : Int) = x159))
  (K169 w151)
  (∃ (ax174 : Option Addr) (nx174 cx174 : Nat), cel w151 b27 0 = some (.slice ax174 nx174 cx174) ∧
  0 ≤ (x149 : Int) ∧ (x149 : Int) < (nx174 : Nat) ∧
  ptAt ax174 fun b175 o176 =>
  ∃ (x177 : Int), cel w151 b175 (o176 + x149.toNat * 1) = some (.int .i64 x177) ∧
  sp (!decide ((x177 : Int) = x139))
  (K169 w151)
  (K165 w151)))))
  (∃ (ax178 : Option Addr) (nx178 cx178 : Nat), cel w151 b94 1 = some (.slice ax178 nx178 cx178) ∧
  ∃ J179 : Int → World → Nat → Prop, (∃ m182, J179 0 w151 m182) ∧
  ∀ (x180 : Int), ∀ w181 m182, J179 x180 w181 m182 →
  sp (decide ((x180 : Int) < (nx178 : Nat)))
  (∀ K184 : World → Prop, (∀ w185, (
  ∃ m183, m183 < m182 ∧ J179 (IntKind.wrap .i64 (x180 + 1)) w185 m183) → K184 w185) →
  0 ≤ (x180 : Int) ∧ (x180 : Int) < (nx178 : Nat) ∧
  ptAt ax178 fun b186 o187 =>
  ∃ (x188 : Int) (x189 : Int) (ax190 : Option Addr) (nx190 cx190 : Nat) (x191 : Int) (x192 : Int) (x193 : Int) (x194 : Int), Row w181 b186 (o187 + x180.toNat * 7) [.int .i64 x188, .int .i64 x189, .slice ax190 nx190 cx190, .int .i64 x191, .int .i64 x192, .int .i64 x193, .int .i64 x194] ∧
  AlP 37 [.int .i64 0, .int .i64 0, .slice none 0 0, .int .i64 0, .int .i64 0, .int .i64 0, .int .i64 0] w181 fun b195 w196 =>
  StP b195 0 [.int .i64 x188, .int .i64 x189, .slice ax190 nx190 cx190, .int .i64 x191, .int .i64 x192, .int .i64 x193, .int .i64 x194] w196 fun w197 =>
  ∀ K198 : Bool → World → Prop, (∀ (x199 : Bool), ∀ w200, (
  sp x199
  (∃ (x201 : Int), cel w200 b195 1 = some (.int .i64 x201) ∧
  ∃ w202 : World, Sem.run Pg (Instr.mapUpdate 56 (.map (some b74)) (.int .i64 x201) (.bool true)) w200 = .ok () w202 ∧
  K184 w202)
  (K184 w200)) → K198 x199 w200) →
  ∃ (x203 : Int), cel w197.drew b195 1 = some (.int .i64 x203) ∧
  sp (!decide ((x203 : Int) = 0))
  (∃ (ax204 : Option Addr) (nx204 cx204 : Nat), cel w197.drew b42 0 = some (.slice ax204 nx204 cx204) ∧
  0 ≤ (x4 : Int) ∧ (x4 : Int) < (nx204 : Nat) ∧
  ptAt ax204 fun b205 o206 =>
  ∃ (x207 : Option Nat), cel w197.drew b205 (o206 + x4.toNat * 1) = some (.map x207) ∧
  ∃ (x208 : Int), cel w197.drew b195 1 = some (.int .i64 x208) ∧
  ∃ (x209 : Int), (∀ w', Ext w197.drew w' → Sem.run Pg (Instr.lookup 80 (.map x207) (.int .i64 x208) false) w' = .ok (.int .i64 x209) w') ∧
  sp (decide ((x209 : Int) = 1))
  (∃ (x210 : Int) (x211 : Int) (ax212 : Option Addr) (nx212 cx212 : Nat) (x213 : Int) (x214 : Int) (x215 : Int) (x216 : Int), Row w197.drew b195 0 [.int .i64 x210, .int .i64 x211, .slice ax212 nx212 cx212, .int .i64 x213, .int .i64 x214, .int .i64 x215, .int .i64 x216] ∧
  CallP Pg 17 [.slice ax68 nx68 cx68, .agg ⟨[.int .i64 x210, .int .i64 x211, .slice ax212 nx212 cx212, .int .i64 x213, .int .i64 x214, .int .i64 x215, .int .i64 x216]⟩] w197.drew fun v217 w218 => ∃ (x219 : Int), v217 = .int .i64 x219 ∧
  K198 (decide ((x219 : Int) = 1)) w218)
  (K198 false w197.drew))
  (K198 false w197.drew))
  (K83 x149 w181))) → K146 w147) →
  0 ≤ (x79 : Int) ∧ (x79 : Int) < (nx62 : Nat) ∧
  ptAt ax62 fun b220 o221 =>
  ∃ (x222 : Int), cel w141 b220 (o221 + x79.toNat * 1) = some (.int .i64 x222) ∧
  sp (decide ((x140 : Int) < x222))
  (sp (decide ((x140 : Int) < 4))
  (K144 w141)
  (K146 w141))
  (K146 w141))))
  (sp (!decide ((x78 : Int) = (nx25 : Nat)))
  (R (.bool false) w80)
  (∃ (ax223 : Option Addr) (nx223 cx223 : Nat), cel w80 b27 2 = some (.slice ax223 nx223 cx223) ∧
  ∃ J224 : Int → World → Nat → Prop, (∃ m227, J224 0 w80 m227) ∧
  ∀ (x225 : Int), ∀ w226 m227, J224 x225 w226 m227 →
  sp (decide ((x225 : Int) < (nx223 : Nat)))
  (0 ≤ (x225 : Int) ∧ (x225 : Int) < (nx223 : Nat) ∧
  ptAt ax223 fun b229 o230 =>
  ∃ (x231 : Int), cel w226 b229 (o230 + x225.toNat * 1) = some (.int .i64 x231) ∧
  0 ≤ (x231 : Int) ∧ (x231 : Int) < (nx25 : Nat) ∧
  ptAt ax25 fun b232 o233 =>
  ∃ (x234 : Int), cel w226 b232 (o233 + x231.toNat * 1) = some (.int .i64 x234) ∧
  ∃ (x235 : Bool), Sem.run Pg (Instr.lookup 56 (.map (some b74)) (.int .i64 x234) false) w226 = .ok (.bool x235) w226 ∧
  sp (!x235)
  (R (.bool false) w226)
  (∃ m228, m228 < m227 ∧ J224 (IntKind.wrap .i64 (x225 + 1)) w226 m228))
  (∃ (x236 : Option Addr), ∃ w237 : World, Sem.run Pg (Instr.range 56 (.map (some b74))) w226 = .ok (.pointer x236) w237 ∧
  ∃ J238 : World → Nat → Prop, (∃ m240, J238 w237 m240) ∧
  ∀ w239 m240, J238 w239 m240 →
  (∃ w242 : World, Sem.run Pg (Instr.next (.pointer x236) false 0) w239 = .ok (.tuple ⟨[.bool false]⟩) w242 ∧
  AlM w242 fun b264 w265 =>
  AlP 82 [.map none] w265 fun b266 w267 =>
  StP b266 0 [.map (some b264)] w267 fun w268 =>
  ∃ (ax269 : Option Addr) (nx269 cx269 : Nat), cel w268 b52 1 = some (.slice ax269 nx269 cx269) ∧
  ∃ J270 : Int → World → Nat → Prop, (∃ m273, J270 0 w268 m273) ∧
  ∀ (x271 : Int), ∀ w272 m273, J270 x271 w272 m273 →
  sp (decide ((x271 : Int) < (nx269 : Nat)))
  (0 ≤ (x271 : Int) ∧ (x271 : Int) < (nx269 : Nat) ∧
  ptAt ax269 fun b275 o276 =>
  ∃ (ax277 : Option Addr) (nx277 cx277 : Nat) (ax278 : Option Addr) (nx278 cx278 : Nat) (x279 : Int) (x280 : Int) (ax281 : Option Addr) (nx281 cx281 : Nat) (x282 : Int), Row w272 b275 (o276 + x271.toNat * 6) [.slice ax277 nx277 cx277, .slice ax278 nx278 cx278, .int .i64 x279, .int .i64 x280, .slice ax281 nx281 cx281, .int .i64 x282] ∧
  AlP 47 [.slice none 0 0, .slice none 0 0, .int .i64 0, .int .i64 0, .slice none 0 0, .int .i64 0] w272 fun b283 w284 =>
  StP b283 0 [.slice ax277 nx277 cx277, .slice ax278 nx278 cx278, .int .i64 x279, .int .i64 x280, .slice ax281 nx281 cx281, .int .i64 x282] w284 fun w285 =>
  ∃ (ax286 : Option Addr) (nx286 cx286 : Nat), cel w285 b283 1 = some (.slice ax286 nx286 cx286) ∧
  ∃ J287 : Int → World → Nat → Prop, (∃ m290, J287 0 w285 m290) ∧
  ∀ (x288 : Int), ∀ w289 m290, J287 x288 w289 m290 →
  sp (decide ((x288 : Int) < (nx286 : Nat)))
  (0 ≤ (x288 : Int) ∧ (x288 : Int) < (nx286 : Nat) ∧
  ptAt ax286 fun b292 o293 =>
  ∃ (x294 : Int) (x295 : Int) (ax296 : Option Addr) (nx296 cx296 : Nat) (x297 : Int) (x298 : Int) (x299 : Int) (x300 : Int), Row w289 b292 (o293 + x288.toNat * 7) [.int .i64 x294, .int .i64 x295, .slice ax296 nx296 cx296, .int .i64 x297, .int .i64 x298, .int .i64 x299, .int .i64 x300] ∧
  AlP 37 [.int .i64 0, .int .i64 0, .slice none 0 0, .int .i64 0, .int .i64 0, .int .i64 0, .int .i64 0] w289 fun b301 w302 =>
  StP b301 0 [.int .i64 x294, .int .i64 x295, .slice ax296 nx296 cx296, .int .i64 x297, .int .i64 x298, .int .i64 x299, .int .i64 x300] w302 fun w303 =>
  ∃ (ax304 : Option Addr) (nx304 cx304 : Nat), cel w303 b301 2 = some (.slice ax304 nx304 cx304) ∧
  ∃ J305 : Int → World → Nat → Prop, (∃ m308, J305 0 w303 m308) ∧
  ∀ (x306 : Int), ∀ w307 m308, J305 x306 w307 m308 →
  sp (decide ((x306 : Int) < (nx304 : Nat)))
  (0 ≤ (x306 : Int) ∧ (x306 : Int) < (nx304 : Nat) ∧
  ptAt ax304 fun b310 o311 =>
  ∃ (x312 : Int), cel w307 b310 (o311 + x306.toNat * 1) = some (.int .i64 x312) ∧
  ∃ (x313 : Int), cel w307 b301 1 = some (.int .i64 x313) ∧
  CallV Pg (.func (.func 18) ⟨[]⟩ ⟨[.pointer (some ⟨b71, 0, none⟩), .pointer (some ⟨b266, 0, none⟩)]⟩) [.int .i64 x312, .int .i64 x313] w307 fun v314 w315 => v314 = .tuple ⟨[]⟩ ∧
  ∃ m309, m309 < m308 ∧ J305 (IntKind.wrap .i64 (x306 + 1)) w315 m309)
  (∃ m291, m291 < m290 ∧ J287 (IntKind.wrap .i64 (x288 + 1)) w307 m291))
  (∃ (ax316 : Option Addr) (nx316 cx316 : Nat), cel w289 b283 4 = some (.slice ax316 nx316 cx316) ∧
  ∃ J317 : Int → World → Nat → Prop, (∃ m320, J317 0 w289 m320) ∧
  ∀ (x318 : Int), ∀ w319 m320, J317 x318 w319 m320 →
  sp (decide ((x318 : Int) < (nx316 : Nat)))
  (0 ≤ (x318 : Int) ∧ (x318 : Int) < (nx316 : Nat) ∧
  ptAt ax316 fun b322 o323 =>
  ∃ (x324 : Int) (ax325 : Option Addr) (nx325 cx325 : Nat), Row w319 b322 (o323 + x318.toNat * 2) [.int .i64 x324, .slice ax325 nx325 cx325] ∧
  AlP 41 [.int .i64 0, .slice none 0 0] w319 fun b326 w327 =>
  StP b326 0 [.int .i64 x324, .slice ax325 nx325 cx325] w327 fun w328 =>
  ∃ (ax329 : Option Addr) (nx329 cx329 : Nat), cel w328 b52 1 = some (.slice ax329 nx329 cx329) ∧
  ∃ (x330 : Int), cel w328 b326 0 = some (.int .i64 x330) ∧
  0 ≤ (x330 : Int) ∧ (x330 : Int) < (nx329 : Nat) ∧
  ptAt ax329 fun b331 o332 =>
  ∃ (ax333 : Option Addr) (nx333 cx333 : Nat), cel w328 b331 (o332 + x330.toNat * 6) = some (.slice ax333 nx333 cx333) ∧
  ∃ J334 : Int → World → Nat → Prop, (∃ m337, J334 0 w328 m337) ∧
  ∀ (x335 : Int), ∀ w336 m337, J334 x335 w336 m337 →
  sp (decide ((x335 : Int) < (nx333 : Nat)))
  (0 ≤ (x335 : Int) ∧ (x335 : Int) < (nx333 : Nat) ∧
  ptAt ax333 fun b339 o340 =>
  ∃ (x341 : Int), cel w336 b339 (o340 + x335.toNat * 1) = some (.int .i64 x341) ∧
  ∃ (ax342 : Option Addr) (nx342 cx342 : Nat), cel w336 b326 1 = some (.slice ax342 nx342 cx342) ∧
  0 ≤ (x335 : Int) ∧ (x335 : Int) < (nx342 : Nat) ∧
  ptAt ax342 fun b343 o344 =>
  ∃ (x345 : Int), cel w336 b343 (o344 + x335.toNat * 1) = some (.int .i64 x345) ∧
  CallV Pg (.func (.func 18) ⟨[]⟩ ⟨[.pointer (some ⟨b71, 0, none⟩), .pointer (some ⟨b266, 0, none⟩)]⟩) [.int .i64 x345, .int .i64 x341] w336 fun v346 w347 => v346 = .tuple ⟨[]⟩ ∧
  ∃ m338, m338 < m337 ∧ J334 (IntKind.wrap .i64 (x335 + 1)) w347 m338)
  (∃ m321, m321 < m320 ∧ J317 (IntKind.wrap .i64 (x318 + 1)) w336 m321))
  (∃ m274, m274 < m273 ∧ J270 (IntKind.wrap .i64 (x271 + 1)) w319 m274)))
  (AlM w272 fun b348 w349 =>
  ∃ (ax350 : Option Addr) (nx350 cx350 : Nat), cel w349 b27 1 = some (.slice ax350 nx350 cx350) ∧
  ∃ J351 : Int → World → Nat → Prop, (∃ m354, J351 0 w349 m354) ∧
  ∀ (x352 : Int), ∀ w353 m354, J351 x352 w353 m354 →
  sp (decide ((x352 : Int) < (nx350 : Nat)))
  (0 ≤ (x352 : Int) ∧ (x352 : Int) < (nx350 : Nat) ∧
  ptAt ax350 fun b356 o357 =>
  ∃ (x358 : Int) (x359 : Int), Row w353 b356 (o357 + x352.toNat * 2) [.int .i64 x358, .int .i64 x359] ∧
  AlP 84 [.int .i64 0, .int .i64 0] w353 fun b360 w361 =>
  StP b360 0 [.int .i64 x358, .int .i64 x359] w361 fun w362 =>
  ∃ (x363 : Option Nat), cel w362 b266 0 = some (.map x363) ∧
  ∃ (x364 : Int) (x365 : Int), Row w362 b360 0 [.int .i64 x364, .int .i64 x365] ∧
  ∃ (x366 : Bool), Sem.run Pg (Instr.lookup 82 (.map x363) (.agg ⟨[.int .i64 x364, .int .i64 x365]⟩) false) w362 = .ok (.bool x366) w362 ∧
  sp (!x366)
  (R (.bool false) w362)
  (∃ (x367 : Int) (x368 : Int), Row w362 b360 0 [.int .i64 x367, .int .i64 x368] ∧
  ∃ w369 : World, Sem.run Pg (Instr.mapUpdate 82 (.map (some b348)) (.agg ⟨[.int .i64 x367, .int .i64 x368]⟩) (.bool true)) w362 = .ok () w369 ∧
  ∃ m355, m355 < m354 ∧ J351 (IntKind.wrap .i64 (x352 + 1)) w369 m355))
  (∃ (x370 : Int), Sem.run Pg (Builtin.len_ #[82] 3 ⟨[.map (some b348)]⟩) w353 = .ok (.int .i64 x370) w353 ∧
  ∃ (x371 : Option Nat), cel w353 b266 0 = some (.map x371) ∧
  ∃ (x372 : Int), Sem.run Pg (Builtin.len_ #[82] 3 ⟨[.map x371]⟩) w353 = .ok (.int .i64 x372) w353 ∧
  R (.bool (decide ((x370 : Int) = x372))) w353))) ∨
  (∃ (k244 v245 : Value) (w243 : World), Sem.run Pg (Instr.next (.pointer x236) false 0) w239 = .ok (.tuple ⟨[.bool true, k244, v245]⟩) w243 ∧
  ∃ (x373 : Int) (x374 : Bool), Sem.run Pg (Instr.entry (.pointer x236)) w243 = .ok (.tuple ⟨[.int .i64 x373, .bool x374]⟩) w243 ∧
  ∃ (ax375 : Option Addr) (nx375 cx375 : Nat), cel w243 b27 2 = some (.slice ax375 nx375 cx375) ∧
  ∃ J376 : Bool → Int → World → Nat → Prop, (∃ m380, J376 false 0 w243 m380) ∧
  ∀ (x377 : Bool) (x378 : Int), ∀ w379 m380, J376 x377 x378 w379 m380 →
  sp (decide ((x378 : Int) < (nx375 : Nat)))
  (∀ K382 : Bool → World → Prop, (∀ (x383 : Bool), ∀ w384, (
  ∃ m381, m381 < m380 ∧ J376 x383 (IntKind.wrap .i64 (x378 + 1)) w384 m381) → K382 x383 w384) →
  0 ≤ (x378 : Int) ∧ (x378 : Int) < (nx375 : Nat) ∧
  ptAt ax375 fun b385 o386 =>
  ∃ (x387 : Int), cel w379 b385 (o386 + x378.toNat * 1) = some (.int .i64 x387) ∧
  sp x377
  (K382 true w379)
  (0 ≤ (x387 : Int) ∧ (x387 : Int) < (nx25 : Nat) ∧
  ptAt ax25 fun b388 o389 =>
  ∃ (x390 : Int), cel w379 b388 (o389 + x387.toNat * 1) = some (.int .i64 x390) ∧
  K382 (decide ((x390 : Int) = x373)) w379))
  (sp (!x377)
  (R (.bool false) w379)
  (∃ m241, m241 < m240 ∧ J238 w379 m241))))))) → K45 w46) →
  ∀ K500 : World → Prop, (∀ w501, (
  R (.bool false) w501) → K500 w501) →
  sp (!decide ((x26 : Int) = 0))
  (K500 w44)
  (sp (!decide ((x41 : Int) = 0))
  (K500 w44)
  (∃ (ax502 : Option Addr) (nx502 cx502 : Nat), cel w44 b27 0 = some (.slice ax502 nx502 cx502) ∧
  sp (!decide (((nx502 : Nat) : Int) = (nx25 : Nat)))
  (K500 w44)
  (K45 w44)))) → K30 w31) →
  ∀ K503 : World → Prop, (∀ w504, (
  sp (decide ((x26 : Int) = 40))
  (R (.bool (decide (((nx25 : Nat) : Int) = 0))) w504)
  (R (.bool false) w504)) → K503 w504) →
  ∃ (ax505 : Option Addr) (nx505 cx505 : Nat) (ax506 : Option Addr) (nx506 cx506 : Nat) (x507 : Int), Row w29 b5 0 [.slice ax505 nx505 cx505, .slice ax506 nx506 cx506, .int .i64 x507] ∧
  CallP Pg 11 [.agg ⟨[.slice ax505 nx505 cx505, .slice ax506 nx506 cx506, .int .i64 x507]⟩] w29 fun v508 w509 => ∃ (x510 : Int), v508 = .int .i64 x510 ∧
  sp (!decide ((x510 : Int) = 0))
  (K503 w509)
  (sp (decide ((x4 : Int) < 0))
  (K503 w509)
  (∃ (ax511 : Option Addr) (nx511 cx511 : Nat), cel w509 b5 1 = some (.slice ax511 nx511 cx511) ∧
  sp (decide (((nx511 : Nat) : Int) ≤ x4))
  (K503 w509)
  (K30 w509)))))
def T4 : List Sh := [.v (.agg [.sl, .sl, (.int .i64)]), .v (.one (.int .i64)), .v (.one .ptr), .v (.one .any), .v (.one .bool), .v (.one .ptr), .v (.one .sl), .v (.one (.int .i64)), .v (.one .ptr), .v (.one (.int .i64)), .v (.one .ptr), .v (.one .sl), .v (.one .sl), .v (.one .ptr), .v (.one .map), .v (.one (.int .i64)), .v (.one (.int .i64)), .v (.one .ptr), .v (.one .sl), .v (.one .any), .v (.one .ptr), .v (.one (.int .i64)), .v (.one (.int .i64)), .v (.one .any), .v (.one (.int .i64)), .v (.one .any), .v (.one .ptr), .v (.one .any), .v (.one (.int .i64)), .v (.one (.int .i64)), .v (.one .bool), .v (.one .any), .v (.one (.int .i64)), .v (.one .ptr), .v (.one .any), .v (.one .any), .v (.one .ptr), .v (.one .any), .v (.one .ptr), .v (.one .any), .v (.one (.int .i64)), .v (.one .any), .v (.one .ptr), .v (.one (.int .i64)), .v (.one (.int .i64)), .v (.one .map), .v (.one .any), .v (.one .ptr), .v (.one .bool), .v (.one .bool), .v (.agg [.sl, .sl, (.int .i64)]), .v (.one .bool), .v (.one .bool), .t [(.agg [.sl, .sl, .sl, .sl]), (.one .sl), (.one (.int .i64))], .v (.agg [.sl, .sl, (.int .i64)]), .v (.one (.int .i64)), .t [(.agg [.sl, .sl, .sl, .sl]), (.one .sl), (.one (.int .i64))], .v (.agg [.sl, .sl, .sl, .sl]), .v (.one .sl), .v (.one (.int .i64)), .v (.agg [.sl, .sl, (.int .i64)]), .v (.one (.int .i64)), .v (.one .bool), .v (.one .bool), .v (.one (.int .i64)), .v (.one .bool), .v (.one .bool), .v (.one .bool), .v (.one (.int .i64)), .v (.one .ptr), .v (.one .sl), .v (.one (.int .i64)), .v (.one .bool), .v (.one .bool), .v (.one (.int .i64)), .v (.one .bool), .v (.one .bool), .v (.one .sl), .v (.one (.int .i64)), .v (.one .bool), .v (.one .bool), .t [(.agg [.sl, .sl, .sl, .sl]), (.one (.int .i64))], .v (.agg [.sl, .sl, (.int .i64)]), .t [(.agg [.sl, .sl, .sl, .sl]), (.one (.int .i64))], .v (.agg [.sl, .sl, .sl, .sl]), .v (.one (.int .i64)), .v (.one (.int .i64)), .v (.one .bool), .v (.one .bool), .v (.one (.int .i64)), .v (.one .bool), .v (.one .bool), .v (.one .bool), .v (.one .ptr), .v (.one .sl), .v (.one (.int .i64)), .v (.one .sl), .v (.one (.int .i64)), .v (.one .bool), .v (.one .bool), .v (.one .ptr), .v (.one .sl), .v (.one (.int .i64)), .v (.one .ptr), .v (.agg [.str, .sl]), .v (.agg [.str, .sl]), .v (.one .ptr), .v (.one .sl), .v (.agg [.sl, .sl, (.int .i64)]), .v (.one .sl), .v (.one .map), .v (.one .map), .v (.one .ptr), .v (.one .sl), .v (.one (.int .i64)), .v (.one (.int .i64)), .v (.one .bool), .v (.one (.int .i64)), .v (.one .ptr), .v (.agg [.sl, .sl, (.int .i64), (.int .i64), .sl, (.int .i64)]), .v (.agg [.str, .sl]), .v (.one .sl), .v (.one (.int .i64)), .v (.one .ptr), .v (.one .bool), .v (.one .bool), .v (.one .sl), .v (.one .ptr), .v (.one .sl), .v (.one .sl), .v (.one .ptr), .v (.one .sl), .v (.one (.int .i64)), .v (.one (.int .i64)), .v (.one .bool), .v (.one .ptr), .v (.agg [(.int .i64), (.int .i64), .sl, (.int .i64), (.int .i64), (.int .i64), (.int .i64)]), .v (.one .ptr), .v (.one (.int .i64)), .v (.one .bool), .v (.one .sl), .v (.one .ptr), .v (.one (.int .i64)), .v (.one .sl), .v (.one .sl), .v (.one (.int .i64)), .v (.one (.int .i64)), .v (.one .sl), .v (.one (.int .i64)), .v (.one .ptr), .v (.one (.int .i64)), .v (.one .bool), .v (.one .bool), .v (.one (.int .i64)), .v (.one .bool), .v (.one .bool), .v (.one (.int .i64)), .v (.one (.int .i64)), .v (.one (.int .i64)), .v (.one (.int .i64)), .v (.one .sl), .v (.one (.int .i64)), .v (.one (.int .i64)), .v (.one .bool), .v (.one .ptr), .v (.one (.int .i64)), .v (.one .ptr), .v (.one .sl), .v (.one (.int .i64)), .v (.one .ptr), .v (.one .map), .v (.one (.int .i64)), .v (.one (.int .i64)), .v (.one .bool), .v (.one (.int .i64)), .v (.one .sl), .v (.one (.int .i64)), .v (.one .bool), .v (.one .bool), .v (.one .sl), .v (.one (.int .i64)), .v (.one .ptr), .v (.one (.int .i64)), .v (.one (.int .i64)), .v (.one .bool), .v (.one .bool), .v (.one .bool), .v (.one .ptr), .v (.one .sl), .v (.one (.int .i64)), .v (.one .ptr), .v (.one (.int .i64)), .v (.one (.int .i64)), .v (.one .bool), .v (.one .bool), .v (.one .map), .v (.one (.int .i64)), .v (.one (.int .i64)), .v (.one (.int .i64)), .v (.one (.int .i64)), .v (.one (.int .i64)), .v (.one .ptr), .v (.one .sl), .v (.one (.int .i64)), .v (.one (.int .i64)), .v (.one .bool), .v (.one .ptr), .v (.agg [(.int .i64), (.int .i64), .sl, (.int .i64), (.int .i64), (.int .i64), (.int .i64)]), .v (.one .ptr), .v (.one (.int .i64)), .v (.one .bool), .v (.one .bool), .v (.one .ptr), .v (.one .sl), .v (.one (.int .i64)), .v (.one .ptr), .v (.one .map), .v (.one .ptr), .v (.one (.int .i64)), .v (.one (.int .i64)), .v (.one .bool), .v (.one .bool), .v (.one .bool), .v (.one .sl), .v (.agg [(.int .i64), (.int .i64), .sl, (.int .i64), (.int .i64), (.int .i64), (.int .i64)]), .v (.one (.int .i64)), .v (.one .bool), .v (.one .bool), .v (.one .map), .v (.one .ptr), .v (.one (.int .i64)), .v (.one (.int .i64)), .v (.one (.int .i64)), .v (.one (.int .i64)), .v (.one .sl), .v (.one (.int .i64)), .v (.one .bool), .v (.one .ptr), .v (.one .sl), .v (.one (.int .i64)), .v (.one (.int .i64)), .v (.one .bool), .v (.one .ptr), .v (.one (.int .i64)), .v (.one .map), .v (.one .sl), .v (.one (.int .i64)), .v (.one .ptr), .v (.one (.int .i64)), .v (.one .bool), .v (.one .bool), .v (.one (.int .i64)), .v (.one .map), .v (.one .ptr), .v (.one .any), .v (.one .bool), .t [(.one (.int .i64)), (.one .bool)], .v (.one (.int .i64)), .v (.one .ptr), .v (.one .sl), .v (.one (.int .i64)), .v (.one (.int .i64)), .v (.one .bool), .v (.one .ptr), .v (.one (.int .i64)), .v (.one .bool), .v (.one .bool), .v (.one .sl), .v (.one (.int .i64)), .v (.one .ptr), .v (.one (.int .i64)), .v (.one (.int .i64)), .v (.one .bool), .v (.one .bool), .v (.one (.int .i64)), .v (.one .bool), .v (.one .bool), .v (.one .map), .v (.one .any), .v (.one .ptr), .v (.one .sl), .v (.one (.int .i64)), .v (.one (.int .i64)), .v (.one .bool), .v (.one .ptr), .v (.agg [.sl, .sl, (.int .i64), (.int .i64), .sl, (.int .i64)]), .v (.one .ptr), .v (.one .sl), .v (.one (.int .i64)), .v (.one (.int .i64)), .v (.one .bool), .v (.one .ptr), .v (.agg [(.int .i64), (.int .i64), .sl, (.int .i64), (.int .i64), (.int .i64), (.int .i64)]), .v (.one .ptr), .v (.one .sl), .v (.one (.int .i64)), .v (.one (.int .i64)), .v (.one .bool), .v (.one .ptr), .v (.one (.int .i64)), .v (.one .any), .v (.one (.int .i64)), .v (.one .ptr), .v (.one (.int .i64)), .t [], .v (.one (.int .i64)), .v (.one (.int .i64)), .v (.one .ptr), .v (.one .ptr), .v (.one .sl), .v (.one (.int .i64)), .v (.one (.int .i64)), .v (.one .bool), .v (.one .ptr), .v (.agg [(.int .i64), .sl]), .v (.one .ptr), .v (.one .sl), .v (.one .ptr), .v (.one (.int .i64)), .v (.one .ptr), .v (.one .ptr), .v (.one .sl), .v (.one (.int .i64)), .v (.one (.int .i64)), .v (.one .bool), .v (.one (.int .i64)), .v (.one .ptr), .v (.one (.int .i64)), .v (.one .any), .v (.one .ptr), .v (.one .sl), .v (.one (.int .i64)), .v (.one .ptr), .v (.one (.int .i64)), .v (.one (.int .i64)), .t [], .v (.one (.int .i64)), .v (.one (.int .i64)), .v (.one (.int .i64)), .v (.one .map), .v (.one .ptr), .v (.one .sl), .v (.one (.int .i64)), .v (.one (.int .i64)), .v (.one .bool), .v (.one .ptr), .v (.agg [(.int .i64), (.int .i64)]), .v (.one .map), .v (.agg [(.int .i64), (.int .i64)]), .v (.one .bool), .v (.one .bool), .v (.one .map), .v (.agg [(.int .i64), (.int .i64)]), .v (.one (.int .i64)), .v (.one .map), .v (.one (.int .i64)), .v (.one .map), .v (.one (.int .i64)), .v (.one .bool)]
def A4 : Ann := (.seq none .z (.seq none (.seq none .z (.cond (.seq none .z .z) .z)) (.seq none (.seq none .z (.cond (.seq none .z .z) .z)) (.seq none .z (.seq (some []) (.ifs (some []) none (.seq none .z .z) .z) (.seq none .z (.seq (some []) (.ifs (some []) none (.seq none .z .z) .z) (.seq none .z (.seq none .z (.seq none .z (.seq none .z (.seq none .z (.seq none .z (.seq none (.seq none .z (.block none (.loop [15, 115] (.seq none .z (.seq none (.cond .z .z) (.seq none (.block (some [15]) (.seq none .z (.seq none (.seq none .z (.cond .z .z)) (.seq none .z (.seq none (.seq none .z (.block none (.loop [18, 133] (.seq none .z (.seq none (.cond .z .z) (.seq none (.block (some [18]) (.seq none .z (.seq none .z (.cond .z .z)))) .z)))))) (.seq none .z (.seq none (.seq none .z (.block none (.loop [21, 22] (.seq (some []) (.ifs none (some []) .z .z) (.seq none (.block none .z) .z))))) (.seq none (.seq none .z (.block none (.loop [15, 162] (.seq none .z (.seq none (.cond .z .z) (.seq none (.block (some [15]) (.seq none .z (.seq none (.seq none .z (.cond .z .z)) (.seq (some []) (.ifs (some []) none (.seq none .z .z) .z) (.seq none .z .z))))) .z)))))) (.seq none .z (.block none (.loop [204] (.seq none .z (.seq none (.cond .z .z) (.seq none (.block (some []) (.seq none .z (.seq (some [227]) (.dr [0, 1, 0, 0, 0, 1, 0, 0, 1, 0, 1, 1, 0, 0, 0, 0, 1, 3, 0, 0] [0, 1, 2, 3, 4, 5, 6, 7, 8, 9, 10, 11, 12, 13, 14, 15, 16, 17, 18, 19]) (.cond .z .z)))) .z)))))))))))))) .z)))))) (.seq none (.seq none .z (.cond (.seq none .z .z) .z)) (.seq none (.seq none .z (.block none (.loop [240] (.seq none .z (.seq none (.cond .z .z) (.seq none (.block none (.seq none .z (.seq none .z (.cond (.seq none .z .z) .z)))) .z)))))) (.seq none (.seq none .z (.block none (.loop [] (.seq none .z (.seq none (.cond .z .z) (.block none (.seq none .z (.seq none .z (.seq none (.seq none .z (.block none (.loop [30, 261] (.seq none .z (.seq none (.cond .z .z) (.seq none (.block (some [30]) (.seq none .z .z)) .z)))))) (.seq none .z (.cond (.seq none .z .z) .z))))))))))) (.seq none .z (.seq none .z (.seq none (.seq none .z (.block none (.loop [282] (.seq none .z (.seq none (.cond .z .z) (.seq none (.block none (.seq none .z (.seq none (.seq none .z (.block none (.loop [289] (.seq none .z (.seq none (.cond .z .z) (.seq none (.block none (.seq none .z (.seq none .z (.block none (.loop [296] (.seq none .z (.seq none (.cond .z .z) (.seq none (.block none (.seq none .z .z)) .z)))))))) .z)))))) (.seq none .z (.block none (.loop [311] (.seq none .z (.seq none (.cond .z .z) (.seq none (.block none (.seq none .z (.seq none .z (.block none (.loop [323] (.seq none .z (.seq none (.cond .z .z) (.seq none (.block none (.seq none .z .z)) .z)))))))) .z))))))))) .z)))))) (.seq none .z (.seq none (.seq none .z (.block none (.loop [343] (.seq none .z (.seq none (.cond .z .z) (.seq none (.block none (.seq none .z (.seq none (.seq none .z (.cond (.seq none .z .z) .z)) .z))) .z)))))) (.seq none .z .z)))))))))))))))))))))))
theorem F4_eq (ax1 : Option Addr) (nx1 cx1 : Nat) (ax2 : Option Addr) (nx2 cx2 : Nat) (x3 : Int) (x4 : Int) (w : World) (R : Value → World → Prop) : F4 ax1 nx1 cx1 ax2 nx2 cx2 x3 x4 w R = denF Go.Proofs.Try.prog T4 Go.Proofs.Try.f4 A4 [.agg ⟨[.slice ax1 nx1 cx1, .slice ax2 nx2 cx2, .int .i64 x3]⟩, .int .i64 x4] w R := by kernel_rfl
theorem F4_ok (ax1 : Option Addr) (nx1 cx1 : Nat) (ax2 : Option Addr) (nx2 cx2 : Nat) (x3 : Int) (x4 : Int) {w : World} {R : Value → World → Prop} (h : F4 ax1 nx1 cx1 ax2 nx2 cx2 x3 x4 w R) : CallP Go.Proofs.Try.prog 4 [.agg ⟨[.slice ax1 nx1 cx1, .slice ax2 nx2 cx2, .int .i64 x3]⟩, .int .i64 x4] w R :=
  calls_den (fun _ => drawn (by kernel_rfl)) Go.Proofs.Try.func4 (Nat.le_of_ble_eq_true (by kernel_rfl)) ((F4_eq ax1 nx1 cx1 ax2 nx2 cx2 x3 x4 w R).mp h)
end Go.Pl.Try

/- 'HardenNets': walked. -/
namespace Go.Pl.Try
open M
set_option linter.unusedVariables false
theorem fix_of {p : Prg} (hc : p.check = true) (cut : List (Int → Bool)) : ∃ S k, TS.go p cut p.writes k p.start = some S := by
  have ha : p.arrs.all arrOk = true := by
    unfold Prg.check at hc
    simp only [Bool.and_eq_true] at hc
    exact hc.1.1
  obtain ⟨S, hS⟩ := go_ends (p := p) (cut := cut) (writes := p.writes) (fun f hf b hb i hi => by
    obtain ⟨k, hk⟩ := List.mem_iff_getElem?.1 hf
    exact ((prog_facts hc hk).1 b hb).1 i hi) _ p.start (start_ok ha) (Nat.le_refl _)
  exact ⟨S, _, hS⟩
def Tr (w : World) (v : Value) (w' : World) : Prop := v = .bool true ∧ Ext w w'
theorem nets_w {w : World} {p : Prg} {vs : List Value} (h : RProg w vs p) (fn : Int) :
    CallP Pg 4 [.agg ⟨vs⟩, .int .i64 fn] w (Tr w) := by
  have hP := h
  obtain ⟨aa, na, ca, af, nf, cf, rfl, harr, hfun⟩ := h
  have hfl := hfun.len
  refine F4_ok _ _ _ _ _ _ _ _ ?_
  unfold F4
  refine alp (Hp.refl w) fun b5 w6 h6 => ?_
  refine (head_w w6).mono ?_
  rintro _ w8 ⟨rfl, hx8⟩
  have h8 := h6.step hx8
  refine ⟨true, rfl, sp_false rfl ⟨_, _, _, _, _, _, _, h8.row 0 rfl, ?_⟩⟩
  refine (few_w (hP.ext h8.ext)).mono ?_
  rintro _ w14 ⟨q, rfl, hx14, hfew⟩
  have h14 := h8.step hx14
  refine ⟨q, rfl, ?_⟩
  cases q with
  | false => exact sp_true rfl ⟨rfl, h14.ext⟩
  | true =>
  have hl := (hfew rfl).lim
  refine sp_false rfl ⟨_, _, _, _, _, _, _, h14.row 0 rfl, ?_⟩
  obtain ⟨S1, hgo⟩ : ∃ S1, p.check = true → ∃ k, TS.go p p.noCut p.writes k p.start = some S1 := by
    rcases Bool.eq_false_or_eq_true p.check with hck | hck
    · obtain ⟨S, k, hk⟩ := fix_of hck p.noCut
      exact ⟨S, fun _ => ⟨k, hk⟩⟩
    · exact ⟨p.start, fun h => by rw [hck] at h; cases h⟩
  refine (net_w (hP.ext h14.ext) hl fn hgo).mono ?_
  rintro v19 w20 hN
  have h20 := h14.step hN.ext
  have hP20 := hP.ext h20.ext
  by_cases hok : p.check = true ∧ 0 ≤ fn ∧ fn < (p.funcs.length : Nat)
  rotate_left
  · obtain rfl := hN.bad hok
    refine ⟨_, _, _, _, _, _, _, _, _, _, _, _, _, _, _, _, rfl, ?_⟩
    refine alp h20 fun b27 w28 h28 => ?_
    refine stp h28 0 rfl (by simp) rfl fun w29 h29 => ?_
    intro K30 hK30 K503 hK503
    have bad : ∀ w', Ext w w' → K503 w' := fun w' hx => hK503 w' (sp_true rfl ⟨rfl, hx⟩)
    refine ⟨_, _, _, _, _, _, _, h29.row 1 rfl, ?_⟩
    refine (check_w (hP.ext h29.ext) hl).mono ?_
    rintro _ w509 ⟨rfl, hx⟩
    have h509 := h29.step hx
    refine ⟨_, rfl, sp_of (fun _ => bad _ h509.ext) (fun h0 => sp_dec (fun _ => bad _ h509.ext) (fun h1 => ⟨_, _, _, h509.cl 1 rfl rfl, sp_dec (fun _ => bad _ h509.ext) (fun h2 => absurd ⟨?_, by omega, by omega⟩ hok)⟩))⟩
    rcases Bool.eq_false_or_eq_true p.check with hck | hck
    · exact hck
    · rw [hck] at h0; simp at h0
  obtain ⟨hck, hf0, hf1⟩ := hok
  obtain ⟨k, rfl⟩ : ∃ k : Nat, fn = k := ⟨fn.toNat, by omega⟩
  obtain ⟨us, a25, n25, c25, rfl, hnet, hvals⟩ := hN.good hck hf0 hf1
  rw [Int.toNat_natCast] at hnet hvals
  have hsane := sane_of hl hck
  obtain ⟨f, hf⟩ := at_some (l := p.funcs) (j := k) (by omega)
  obtain ⟨hfb, hfne, honce, -⟩ := prog_facts hck hf
  have hflim := hl.each f (List.mem_of_getElem? hf)
  have hfend := hsane.ends f (List.mem_of_getElem? hf)
  obtain ⟨Z, hZ⟩ : ∃ Z, Z = p.hz S1 k := ⟨_, rfl⟩
  have hZf : Z = hzFn f (S1.get k) p.writes k (p.sinks S1) := by rw [hZ, Prg.hz, hf]
  rw [← hZ] at hnet hvals
  obtain ⟨aw, nw, cw, ay, ny, cy, ar, nr, cr, at_, nt, ct, rfl, hwts, hways, hfrm, hto⟩ := hnet
  change RdI w20 aw nw Z.weights at hwts
  change RdS 2 RTwo w20 ay ny Z.ways at hways
  change RdI w20 ar nr Z.frm at hfrm
  have hvl := hvals.len
  have hvle := hvals.le
  have hwl := hwts.len
  have hwv : Z.weights.length = Z.vals.length := by rw [hZ]; exact p.hz_wv S1 k
  refine ⟨_, _, _, _, _, _, _, _, _, _, _, _, _, _, _, _, rfl, ?_⟩
  refine alp (Hp.refl w20) fun b27 w28 h28 => ?_
  refine stp h28 0 rfl (by simp) rfl fun w29 h29 => ?_
  have hx29 := h29.ext
  have h29 := h20.call h29
  intro K30 hK30 K503 hK503
  refine ⟨_, _, _, _, _, _, _, h29.row 1 rfl, ?_⟩
  refine (check_w (hP.ext h29.ext) hl).mono ?_
  rintro _ w509 ⟨rfl, hx⟩
  have hx509 := hx29.trans hx
  have h509 := h29.step hx
  refine ⟨_, rfl, sp_of (fun h0 => ?_) (fun h0 => sp_dec (fun _ => by omega) (fun h1 => ⟨_, _, _, h509.cl 1 rfl rfl, sp_dec (fun _ => by omega) (fun h2 => hK30 _ ?_)⟩))⟩
  · rw [hck] at h0; simp at h0
  clear hK30 hK503 h0 K30 K503 hx29
  refine ⟨_, _, _, _, _, _, _, h509.row 1 rfl, ?_⟩
  refine (taintOf_w (hP.ext h509.ext) hl (cc := 0) cutV_no (fin := S1) hgo).mono ?_
  rintro v35 w36 ⟨hx36, hyes, -⟩
  obtain ⟨av, cv, a2, n2, c2, a3, n3, c3, a4, n4, c4, rfl, hlab⟩ := hyes hck
  have hx36' := hx509.trans hx36
  have h36 := h509.step hx36
  refine ⟨_, _, _, _, _, _, _, _, _, _, _, _, _, rfl, ?_⟩
  refine alp (Hp.refl w36) fun b42 w43 h43 => ?_
  refine stp h43 0 rfl (by simp) rfl fun w44 h44 => ?_
  have hlab44 := hlab.ext h44.ext
  have hx44 := hx36'.trans h44.ext
  have h44 := h36.call h44
  clear hlab
  intro K45 hK45 K500 hK500
  refine sp_false rfl (sp_false rfl ⟨_, _, _, h44.cl 1 rfl rfl, sp_of (fun h0 => ?_) (fun h0 => hK45 _ ?_)⟩)
  · have : (nw : Int) = (n25 : Int) := by omega
    simp [this] at h0
  clear hK45 hK500 K45 K500 h0
  have hbfun := hfun.at_ _ _ hf
  obtain ⟨bb, ob, vsf, haf, hrowf, hvlf, ab, nb, cb, rfl, hbs⟩ := hbfun
  have hbl := hbs.len
  have hbllim := hflim.blocks
  rw [hbl] at hbllim
  simp only [lim] at hbllim
  refine ⟨_, _, _, h44.cl 2 rfl rfl, by omega, by omega, ptAt_of haf ⟨_, _, _, _, h44.ext.row hrowf, ?_⟩⟩
  refine alp (Hp.refl w44) fun b52 w53 h53 => ?_
  refine stp h53 0 rfl (by simp) rfl fun w54 h54 => ?_
  have hlab54 := hlab44.ext h54.ext
  have hx54 := hx44.trans h54.ext
  have h54 := h44.call h54
  clear hlab44
  refine ⟨_, _, _, _, h54.row 0 rfl, ?_⟩
  refine (new_w f.name (RdBlocks.ext h54.ext hbs) hflim).mono ?_
  rintro _ w58 ⟨pg, Lg, rfl, h58', hrg⟩
  have hgf := f.gr_facts hflim
  have hgo2 : GOk nb f.gr := ⟨by rw [hgf.1, hbl], by rw [hgf.2.1, hbl], by rw [hgf.2.2.1, hbl]⟩
  obtain ⟨D, hD⟩ : ∃ D, D = f.gr.depths := ⟨_, rfl⟩
  have hDle : ∀ d ∈ D, d ≤ nb := fun d hd => by rw [hD] at hd; have := f.gr.depths_le d hd; rw [hgo2.ol] at this; exact this
  have hx58 := hx54.trans h58'.ext
  have hlab58 := hlab54.ext h58'.ext
  refine ⟨_, rfl, ?_⟩
  rw [hbl] at hfend
  refine (depths_w hgo2 (hrg w58 fun q hq => (h58'.own q hq).2) (by simp only [lim]; omega) hfend.ok hfend.sz hfend.doms hfend.loops).mono ?_
  rintro _ w61 ⟨bd, rfl, h61', hdl⟩
  rw [← hD] at h61' hdl
  have h58 := h54.step h58'.ext
  have hx61 := hx58.trans h61'.ext
  have hlab61 := hlab58.ext h61'.ext
  have hdep : ∀ {w1 : World}, Ext w61 w1 → ∀ (j : Nat) (d : Nat), D[j]? = some d → cel w1 bd (0 + j * 1) = some (.int .i64 d) := by
    intro w1 hx j d hj
    refine hx.cel (h61'.cl 0 rfl ?_)
    simp [intsD, hj]
  have h61 := h58.step h61'.ext
  clear hlab54 hlab58 h58'
  refine ⟨_, _, _, rfl, _, _, _, _, _, _, _, h61.row 3 rfl, ?_⟩
  refine (writes_w (hP.ext h61.ext) hl).mono ?_
  rintro _ w67 ⟨bw, rfl, h67'⟩
  have hwr : RdBs w67 (some ⟨bw, 0, none⟩) p.arrs.length p.writes := by
    have hal := hl.arrs
    simp only [lim] at hal
    refine ⟨p.writes_len, by simp only [maxLen]; omega, fun i x hi => ⟨bw, 0, [.bool x], rfl, fun k v hk => ?_, rfl, rfl⟩⟩
    cases k with
    | zero =>
      cases hk
      refine h67'.cl 0 rfl ?_
      simp [hi]
    | succ k => simp at hk
  have hx67 := hx61.trans h67'.ext
  have hlab67 := hlab61.ext h67'.ext
  have h67 := h61.step h67'.ext
  refine ⟨_, _, _, rfl, ?_⟩
  -- what stays
  have r52 : ∀ {w1 : World}, Ext w67 w1 → Row w1 b52 0 [.string f.name, .slice ab nb cb] ∧ cel w1 b52 1 = some (.slice ab nb cb) := fun hx => ⟨hx.row (h67.row 0 rfl), hx.cel (h67.cl 0 rfl rfl)⟩
  have c42 : ∀ {w1 : World}, Ext w67 w1 → cel w1 b42 0 = some (.slice av p.funcs.length cv) := fun hx => hx.cel (h67.cl 1 rfl rfl)
  have c27 : ∀ {w1 : World}, Ext w67 w1 → cel w1 b27 0 = some (.slice aw nw cw) ∧ cel w1 b27 1 = some (.slice ay ny cy) ∧ cel w1 b27 2 = some (.slice ar nr cr) := fun hx => ⟨hx.cel (h67.cl 2 rfl rfl), hx.cel (h67.cl 2 rfl rfl), hx.cel (h67.cl 2 rfl rfl)⟩
  have hbs67 := RdBlocks.ext h67.ext hbs
  have hdep67 : ∀ {w1 : World}, Ext w67 w1 → ∀ (j : Nat) (d : Nat), D[j]? = some d → cel w1 bd (0 + j * 1) = some (.int .i64 d) := fun hx => hdep (h67'.ext.trans hx)
  have hvals67 := hvals.ext hx67
  have hwts67 := hwts.ext hx67
  have hfrm67 := hfrm.ext hx67
  have hways67 := RdTwo.ext hways hx67
  obtain ⟨bl, ol, pm, g, rfl, hcl, hmg, hg⟩ := hlab67 k (by omega)
  have hx67w : Ext w w67 := h67.ext
  obtain ⟨lab, hlabd⟩ : ∃ l, l = S1.get k := ⟨_, rfl⟩
  rw [← hlabd] at hg hZf
  obtain ⟨z1, hz1⟩ : ∃ z, z = f.z1 lab := ⟨_, rfl⟩
  have hsame : Hz.Same z1 Z := by rw [hz1, hZf]; exact hzFn_same _ _ _ _ _
  have hz1' : hzBlks lab D f.reach 0 f.blocks Hz.new = z1 := by rw [hD, hz1]
  obtain ⟨FK, hFK⟩ : ∃ l, l = f.fk lab p.writes := ⟨_, rfl⟩
  have hFK' : frBlks lab p.writes f.reach 0 f.blocks [] = FK := hFK.symm
  have lk : ∀ {w1 : World}, Ext w67 w1 → ∀ v : Int, Sem.run Pg (Instr.lookup 80 (.map pm) (.int .i64 v) false) w1 = .ok (.int .i64 (lab v)) w1 := by
    intro w1 hx v
    rw [look_map mpLab zLab (hmg.ext hx), hg]
  clear h54 h58 h61 h67' hvals hwts hfrm hways hto hlab61 hlab67 hdep h44 h36 h509 h29 h20 h14 h8 h6 hgo hrg hg
  refine alm (Hp.refl w67) fun b69 w70 h70 => alp h70 fun b71 w72 h72 => ?_
  refine stp h72 0 rfl (by simp) rfl fun w73 h73 => alm h73 fun b74 w75 h75 => ⟨_, _, _, (r52 h75.ext).2, ?_⟩
  obtain ⟨BA, hBA⟩ : ∃ B : Nat × Obj, B = (b71, Cl 77 [.map (some b69)]) := ⟨_, rfl⟩
  have h75 : Hp w67 w75 [(b74, .map #[] 0), BA, (b69, .map #[] 0)] := by subst hBA; exact h75
  refine ⟨fun kk i w' c => ∃ (q : Nat) (z : Hz) (ks : List Int) (oa of : Obj), i = q ∧ q ≤ nb ∧ c = nb - q ∧ kk = (z.vals.length : Nat) ∧ Hp w67 w' [(b74, of), BA, (b69, oa)] ∧ MapO (atF z.at_) oa ∧ MpO (trues ks) of ∧ z.weights.length = z.vals.length ∧
      hzBlks lab D f.reach q (f.blocks.drop q) z = z1 ∧ frBlks lab p.writes f.reach q (f.blocks.drop q) ks = FK,
    ⟨nb, 0, Hz.new, [], _, _, rfl, by omega, by omega, rfl, h75, MapO.empty, MpO.empty, rfl, hz1', hFK'⟩, ?_⟩
  clear h75 h73 h72 h70
  rintro kk i w80 c ⟨q, z, ks, oa, of, rfl, hq, rfl, rfl, h80, hoa, hof, hzw, hgz, hgf2⟩
  refine sp_dec (fun hlt => ?_) (fun hge => ?_)
  · intro K83 hK83
    obtain ⟨b, hy⟩ := at_some (l := f.blocks) (j := q) (by omega)
    rw [drop_cons hy, hzBlks] at hgz
    rw [drop_cons hy, frBlks] at hgf2
    have hblim := hflim.each b (List.mem_of_getElem? hy)
    obtain ⟨bt, ot, ap, np, cp, ai, ni, ci, ae, ne, ce, hat, hrowt, hp, hi, he⟩ := blkOf hbs67 hy
    have hpl := hp.len
    have hil := hi.len
    have hile := hi.le
    have hpm := hblim.params
    have him := hblim.ins
    simp only [lim] at hpm him
    obtain ⟨rx, hrx⟩ := at_some (l := f.reach) (j := q) (by rw [Fnc.reach_length]; omega)
    obtain ⟨dx, hdx⟩ := at_some (l := D) (j := q) (by omega)
    have hrd : f.reach.getD q false = rx := by rw [List.getD_eq_getElem?_getD, hrx]; rfl
    have hdd : D.getD q 0 = dx := by rw [List.getD_eq_getElem?_getD, hdx]; rfl
    have hdle : dx ≤ nb := hDle dx (List.mem_of_getElem? hdx)
    rw [hrd] at hgf2
    rw [hrd, hdd] at hgz
    refine ⟨by omega, by omega, ptAt_of hat ⟨_, _, _, _, _, _, _, _, _, _, _, _, h80.ext.row hrowt, ?_⟩⟩
    refine alp h80 fun b94 w95 h95 => ?_
    refine stp h95 0 rfl (by simp) rfl fun w96 h96 => ⟨_, _, _, _, (r52 h96.ext).1, ?_⟩
    obtain ⟨BB, hBB⟩ : ∃ B : Nat × Obj, B = (b94, Cl 47 [.slice ap np cp, .slice ai ni ci, .int .i64 b.fin.kind, .int .i64 b.fin.val, .slice ae ne ce, .int .i64 b.fin.trap]) := ⟨_, rfl⟩
    have h96 : Hp w67 w96 [BB, (b74, of), BA, (b69, oa)] := by subst hBB; exact h96
    have cBB : ∀ {w1 : World} {L : List (Nat × Obj)}, Hp w67 w1 L → BB ∈ L → cel w1 b94 0 = some (.slice ap np cp) ∧ cel w1 b94 1 = some (.slice ai ni ci) := by
      intro w1 L h1 hm
      subst hBB
      exact ⟨cel_of (h1.own _ hm).2 rfl, cel_of (h1.own _ hm).2 rfl⟩
    refine (reach_w' (f := f) ⟨ab, nb, cb, rfl, RdBlocks.ext h96.ext hbs67⟩ hflim).mono ?_
    rintro _ w100 ⟨br, rfl, h100'⟩
    have hb0 : cel w100 br (0 + q * 1) = some (.bool rx) := h100'.cl 0 rfl (by simp [hrx])
    have h100 := h96.step h100'.ext
    clear h100' h96 h95
    refine ⟨_, _, _, rfl, by omega, by omega, ptAt_of rfl ⟨rx, hb0, sp_of (fun hno => ?_) (fun hyes => ?_)⟩⟩
    · have hno : rx = false := by simpa using hno
      rw [if_neg (by rw [hno]; simp)] at hgz hgf2
      exact hK83 _ _ ⟨nb - (q + 1), by omega, q + 1, z, ks, oa, of, wrap_succ (by simp only [maxLen]; omega), by omega, rfl, rfl, h100.drop 1, hoa, hof, hzw, hgz, hgf2⟩
    have hyes : rx = true := by simpa using hyes
    rw [if_pos hyes] at hgz hgf2
    refine alp h100 fun b105 w106 h106 => ⟨_, _, _, (cBB h106 (by simp)).1, ?_⟩
    obtain ⟨aq, cq, w109, rq, hrun, hsq, h109⟩ := app2 (ty := 34) slInts (by omega) (Sls.nil 1 (some ⟨b105, 0, none⟩)) [] (L := (b105, Cl 3 []) :: [BB, (b74, of), BA, (b69, oa)]) h106 (srcI (RdI.ext hp h106.ext)) (one_ints b.params) (by simp only [maxLen]; omega) (by omega) (cx := cp)
    rw [Nat.zero_add] at hrun hsq
    have h109 : Hp w67 w109 (rq.L 3 (ints b.params) ++ [BB, (b74, of), BA, (b69, oa)]) := by
      refine h109.sub ?_
      exact List.Sublist.append_left (List.sublist_cons_self _ _) _
    refine ⟨_, _, _, w109, hrun, _, _, _, (cBB h109 (by simp)).2, ?_⟩
    have hdst : ∀ u, dsts (b.ins.drop u) = if u < b.ins.length then (match b.ins[u]? with | some i => (if i.dst = 0 then dsts (b.ins.drop (u + 1)) else i.dst :: dsts (b.ins.drop (u + 1))) | none => []) else [] := by
      intro u
      by_cases hu : u < b.ins.length
      · obtain ⟨x, hx⟩ := at_some hu
        rw [if_pos hu, drop_cons hx, hx]
        unfold dsts
        simp only [List.map_cons, List.filter_cons]
        by_cases h0 : x.dst = 0
        · simp [h0]
        · simp [h0]
      · rw [if_neg hu, List.drop_of_length_le (by omega)]; rfl
    refine ⟨fun aq nq cq i w' c => ∃ (u : Nat) (l : List Int) (rq : Rw), i = u ∧ u ≤ ni ∧ c = ni - u ∧ nq = l.length ∧ nq ≤ np + u ∧ Sls 1 aq nq cq (ints l) rq ∧ Hp w67 w' (rq.L 3 (ints l) ++ [BB, (b74, of), BA, (b69, oa)]) ∧ l ++ dsts (b.ins.drop u) = b.made,
      ⟨ni, 0, b.params, rq, rfl, by omega, by omega, hpl.symm, by omega, hsq, h109, rfl⟩, ?_⟩
    clear hsq h109 h106 h100 hrun hb0
    rintro aq nq cq i w114 c ⟨u, l, rq, rfl, hu, rfl, rfl, hlu, hsq, h114, hmade⟩
    refine sp_dec (fun hlt2 => ?_) (fun hge2 => ?_)
    · intro K117 hK117
      obtain ⟨x, hx⟩ := at_some (l := b.ins) (j := u) (by omega)
      rw [hdst u, if_pos (by omega), hx] at hmade
      simp only at hmade
      obtain ⟨bi, oi, vs, hai, hrowi, hvli, aa', na', ca', rfl, hargs⟩ := hi.at_ _ _ hx
      refine ⟨by omega, by omega, ptAt_of hai ⟨_, _, _, _, _, _, _, _, _, h114.ext.row hrowi, ?_⟩⟩
      refine alp h114 fun b129 w130 h130 => ?_
      refine stp h130 0 rfl (by simp) rfl fun w131 h131 => ⟨_, h131.cl 0 rfl rfl, sp_of (fun hd => ?_) (fun hd => ?_)⟩
      · have hd : x.dst ≠ 0 := by simpa using hd
        rw [if_neg hd] at hmade
        refine ⟨_, h131.cl 0 rfl rfl, ?_⟩
        refine alp h131 fun b134 w135 h135 => ?_
        obtain ⟨a', c', w137, r', hrun, hs, h137⟩ := app1 (ty := 34) slInts (by omega) hsq [(b134, Cl 3 [.int .i64 x.dst]), (b129, Cl 37 (splice [.int .i64 0, .int .i64 0, .slice none 0 0, .int .i64 0, .int .i64 0, .int .i64 0, .int .i64 0] 0 [.int .i64 x.op, .int .i64 x.dst, .slice aa' na' ca', .int .i64 x.num, .int .i64 x.bin, .int .i64 x.arr, .int .i64 x.fn]))]
          (L := [BB, (b74, of), BA, (b69, oa)]) h135 0 rfl rfl rfl (by simp only [maxLen]; omega) (by omega)
        have he1 : ints l ++ [.int .i64 x.dst] = ints (l ++ [x.dst]) := by simp
        rw [he1] at hs h137
        refine ⟨_, _, _, w137, hrun, hK117 _ _ _ _ ⟨ni - (u + 1), by omega, u + 1, l ++ [x.dst], r', wrap_succ (by omega), by omega, rfl, by simp, by omega, hs, h137.drop 2, by rw [← hmade]; simp⟩⟩
      · have hd : x.dst = 0 := by simpa using hd
        rw [if_pos hd] at hmade
        exact hK117 _ _ _ _ ⟨ni - (u + 1), by omega, u + 1, l, rq, wrap_succ (by omega), by omega, rfl, rfl, by omega, hsq, h131.drop 1, hmade⟩
    rw [hdst u, if_neg (by omega), List.append_nil] at hmade
    subst hmade
    have hml : b.made.length ≤ 2048 := by omega
    refine ⟨fun x y w' c => ∃ (d : Nat), y = d ∧ d ≤ 4 ∧ d ≤ dx ∧ x = 10 ^ d ∧ c = 4 - d ∧ Hp w67 w' (rq.L 3 (ints b.made) ++ [BB, (b74, of), BA, (b69, oa)]),
      ⟨4, 0, rfl, by omega, by omega, by simp, rfl, h114⟩, ?_⟩
    clear h114
    rintro x y w141 c ⟨d, rfl, hd4, hddx, rfl, rfl, h141⟩
    intro K144 hK144 K146 hK146
    have fin : (10 : Int) ^ d = weigh dx → K146 w141 := by
      intro hw
      rw [hw] at hK146
      obtain ⟨wt, hwt⟩ : ∃ x, x = weigh dx := ⟨_, rfl⟩
      rw [← hwt] at hK146 hgz
      obtain ⟨zz, hzz⟩ : ∃ zz, zz = hzVals lab wt b.made z := ⟨_, rfl⟩
      rw [← hzz] at hgz
      refine hK146 _ ?_
      refine ⟨fun kk i w' c => ∃ (t : Nat) (z2 : Hz) (oa2 : Obj), i = t ∧ t ≤ b.made.length ∧ c = b.made.length - t ∧ kk = (z2.vals.length : Nat) ∧ Hp w67 w' (rq.L 3 (ints b.made) ++ [BB, (b74, of), BA, (b69, oa2)]) ∧ MapO (atF z2.at_) oa2 ∧ z2.weights.length = z2.vals.length ∧
          hzVals lab wt (b.made.drop t) z2 = zz,
        ⟨b.made.length, 0, z, oa, rfl, by omega, by omega, rfl, h141, hoa, hzw, hzz.symm⟩, ?_⟩
      clear hK144 hK146 h141 hoa
      rintro kk i w151 c ⟨t, z2, oa2, rfl, ht, rfl, rfl, h151, hoa2, hzw2, hgo3⟩
      refine sp_dec (fun hlt3 => ?_) (fun hge3 => ?_)
      · intro K154 hK154
        obtain ⟨x, hx⟩ := at_some (l := b.made) (j := t) (by omega)
        rw [drop_cons hx, hzVals] at hgo3
        obtain ⟨bx, ox, hax, hcx⟩ := RdI.at (rdI_owns (e := 3) hsq (fun q hq => (h151.own q (List.mem_append_left _ hq)).2)) hx
        refine ⟨by omega, by omega, ptAt_of hax ⟨x, hcx, _, _, _, c42 h151.ext, by omega, by omega, ptAt_of rfl ⟨pm, h151.ext.cel hcl, lab x, lk h151.ext x, sp_of (fun hno => ?_) (fun hyes => ?_)⟩⟩⟩
        · have h1 : lab x ≠ 1 := by simpa using hno
          have hv : z2.value lab wt x = z2 := by unfold Hz.value; rw [if_neg h1]
          rw [hv] at hgo3
          exact hK154 _ _ ⟨b.made.length - (t + 1), by omega, t + 1, z2, oa2, wrap_succ (by simp only [maxLen]; omega), by omega, rfl, rfl, h151, hoa2, hzw2, hgo3⟩
        have h1 : lab x = 1 := by simpa using hyes
        have hpre : Pre (z2.value lab wt x) z1 := by
          rw [← hgz, ← hgo3]
          exact (hzVals_pre _ _ _ _).trans (hzBlks_pre _ _ _ _ _ _)
        obtain ⟨hnv, hnw⟩ := note_now h1 hpre
        rw [← hsame.v] at hnv
        rw [← hsame.w, hzw2] at hnw
        have hkl := (List.getElem?_eq_some_iff.1 hnv).1
        intro K165 hK165 K169 hK169
        obtain ⟨bv, ov, hav, hcv⟩ := RdI.at (hvals67.ext h151.ext) hnv
        obtain ⟨bu, ou, hau, hcu⟩ := RdI.at (hwts67.ext h151.ext) hnw
        refine sp_dec (fun hle => by omega) (fun _ => ⟨by omega, by omega, ptAt_of hav ⟨x, hcv, sp_of (fun h => by simp at h) (fun _ => ⟨_, _, _, (c27 h151.ext).1, by omega, by omega, ptAt_of hau ⟨wt, hcu, sp_of (fun h => by simp at h) (fun _ => hK165 _ ?_)⟩⟩)⟩⟩)
        have hcA : cel w151 b71 0 = some (.map (some b69)) := by
          have := (h151.own BA (by simp)).2
          rw [hBA] at this
          exact cel_of this rfl
        obtain ⟨w168, o', hrun, hmo, h168⟩ := upd_map mpNt h151 ((rq.L 3 (ints b.made)).length + 3) (b := b69) (o := oa2) (by rw [List.getElem?_append_right (by omega), Nat.add_sub_cancel_left]; rfl) hoa2 x (.int .i64 (z2.vals.length : Nat))
        rw [List.set_append_right _ _ (by omega), Nat.add_sub_cancel_left] at h168
        have hvl2 : (z2.value lab wt x).vals.length = z2.vals.length + 1 := by unfold Hz.value; rw [if_pos h1]; simp
        have hwl2 : (z2.value lab wt x).weights.length = z2.weights.length + 1 := by unfold Hz.value; rw [if_pos h1]; simp
        refine ⟨_, hcA, w168, hrun, hK154 _ _ ⟨b.made.length - (t + 1), by omega, t + 1, z2.value lab wt x, o', wrap_succ (by simp only [maxLen]; omega), by omega, rfl, ?_, h168, hmo.congr fun y => ?_, by omega, hgo3⟩⟩
        · rw [hvl2]; exact wrap_succ (by omega)
        · unfold atF Hz.value
          rw [if_pos h1]
          simp only
          split <;> rfl
      · rw [List.drop_of_length_le (by omega), hzVals] at hgo3
        subst hgo3
        have h151 : Hp w67 w151 [BB, (b74, of), BA, (b69, oa2)] := h151.sub (List.sublist_append_right _ _)
        refine ⟨_, _, _, (cBB h151 (by simp)).2, ?_⟩
        obtain ⟨ksE, hksE⟩ : ∃ l, l = b.ins.foldl (frStep lab p.writes) ks := ⟨_, rfl⟩
        rw [← hksE] at hgf2
        refine ⟨fun i w' c => ∃ (u : Nat) (of2 : Obj) (ks2 : List Int), i = u ∧ u ≤ ni ∧ c = ni - u ∧ Hp w67 w' [BB, (b74, of2), BA, (b69, oa2)] ∧ MpO (trues ks2) of2 ∧ (b.ins.drop u).foldl (frStep lab p.writes) ks2 = ksE,
          ⟨ni, 0, of, ks, rfl, by omega, by omega, h151, hof, hksE.symm⟩, ?_⟩
        clear h151 hof
        rintro i w181 c ⟨u, of2, ks2, rfl, hu2, rfl, h181, hof2, hgo4⟩
        refine sp_dec (fun hlt4 => ?_) (fun hge4 => ?_)
        · intro K184 hK184
          obtain ⟨x, hx⟩ := at_some (l := b.ins) (j := u) (by omega)
          rw [drop_cons hx, List.foldl_cons] at hgo4
          obtain ⟨bi, oi, vs, hai, hrowi, hvli, aa', na', ca', rfl, hargs⟩ := hi.at_ _ _ hx
          refine ⟨by omega, by omega, ptAt_of hai ⟨_, _, _, _, _, _, _, _, _, h181.ext.row hrowi, ?_⟩⟩
          refine alp h181 fun b195 w196 h196 => ?_
          refine stp h196 0 rfl (by simp) rfl fun w197 h197 => ?_
          obtain ⟨BI, hBI⟩ : ∃ B : Nat × Obj, B = (b195, Cl 37 [.int .i64 x.op, .int .i64 x.dst, .slice aa' na' ca', .int .i64 x.num, .int .i64 x.bin, .int .i64 x.arr, .int .i64 x.fn]) := ⟨_, rfl⟩
          have h197 : Hp w67 w197 [BI, BB, (b74, of2), BA, (b69, oa2)] := by subst hBI; exact h197
          have cBI : ∀ {w1 : World} {L : List (Nat × Obj)}, Hp w67 w1 L → BI ∈ L → cel w1 b195 1 = some (.int .i64 x.dst) ∧ Row w1 b195 0 [.int .i64 x.op, .int .i64 x.dst, .slice aa' na' ca', .int .i64 x.num, .int .i64 x.bin, .int .i64 x.arr, .int .i64 x.fn] := by
            intro w1 L h1 hm
            subst hBI
            refine ⟨cel_of (h1.own _ hm).2 rfl, fun j v hj => ?_⟩
            rw [Nat.zero_add]
            exact cel_of (h1.own _ hm).2 hj
          intro K198 hK198
          have hd := h197.drew
          have nx : ∀ (fl : Bool) (w' : World), Hp w67 w' [BI, BB, (b74, of2), BA, (b69, oa2)] → fl = decide (x.dst ≠ 0 ∧ lab x.dst = 1 ∧ may p.writes x = 1) → K198 fl w' := by
            intro fl w' h' hfl
            refine hK198 fl w' (sp_of (fun e => ?_) (fun e => ?_))
            · rw [e] at hfl
              have hc := of_decide_eq_true hfl.symm
              obtain ⟨w202, o', hrun, hmo, h202⟩ := upd_run mpCut h' 2 rfl hof2 x.dst (.bool true)
              rw [trues_put] at hmo
              refine ⟨_, (cBI h' (by simp)).1, w202, hrun, hK184 _ ⟨ni - (u + 1), by omega, u + 1, o', kput ks2 x.dst, wrap_succ (by omega), by omega, rfl, h202.drop 1, hmo, ?_⟩⟩
              rw [frStep, if_pos hc] at hgo4
              exact hgo4
            · rw [e] at hfl
              have hc := of_decide_eq_false hfl.symm
              rw [frStep, if_neg hc] at hgo4
              exact hK184 _ ⟨ni - (u + 1), by omega, u + 1, of2, ks2, wrap_succ (by omega), by omega, rfl, h'.drop 1, hof2, hgo4⟩
          refine ⟨_, (cBI hd (by simp)).1, sp_of (fun h0 => ?_) (fun h0 => nx _ _ hd ?_)⟩
          · have h0 : x.dst ≠ 0 := by simpa using h0
            refine ⟨_, _, _, c42 hd.ext, by omega, by omega, ptAt_of rfl ⟨pm, hd.ext.cel hcl, _, (cBI hd (by simp)).1, lab x.dst, fun w' hx' => lk (hd.ext.trans hx') x.dst, sp_dec (fun h1 => ?_) (fun h1 => nx _ _ hd ?_)⟩⟩
            · refine ⟨_, _, _, _, _, _, _, _, _, (cBI hd (by simp)).2, ?_⟩
              refine (may_w x (RdBs.ext hwr hd.ext)).mono ?_
              rintro _ w218 ⟨rfl, hx218⟩
              exact ⟨_, rfl, nx _ _ (hd.step hx218) (by simp [h0, h1])⟩
            · simp [h1]
          · have h0 : x.dst = 0 := by simpa using h0
            simp [h0]
        · rw [List.drop_of_length_le (by omega), List.foldl_nil] at hgo4
          subst hgo4
          have hzwz : (hzVals lab wt [] z2).weights.length = (hzVals lab wt [] z2).vals.length := hzw2
          exact hK83 _ _ ⟨nb - (q + 1), by omega, q + 1, z2, ks2, oa2, of2, wrap_succ (by simp only [maxLen]; omega), by omega, rfl, rfl, h181.drop 1, hoa2, hof2, hzw2, hgz, hgf2⟩
    have hpow : ∀ e : Nat, e ≤ 4 → (0 : Int) ≤ 10 ^ e ∧ (10 : Int) ^ e ≤ 10000 := by
      intro e he
      rcases (by omega : e = 0 ∨ e = 1 ∨ e = 2 ∨ e = 3 ∨ e = 4) with rfl | rfl | rfl | rfl | rfl <;> decide
    refine ⟨by omega, by omega, ptAt_of rfl ⟨_, hdep67 h141.ext _ _ hdx, sp_dec (fun h1 => sp_dec (fun h2 => hK144 _ ⟨4 - (d + 1), by omega, d + 1, wrap_succ (by simp only [maxLen]; omega), by omega, by omega, ?_, rfl, h141⟩) (fun h2 => fin ?_)) (fun h1 => fin ?_)⟩⟩
    · have := hpow d hd4
      rw [wrap_in (by omega) (by omega), Int.pow_succ]
    · have : d = 4 := by omega
      subst this
      rw [weigh, Nat.min_eq_right (by omega)]
    · rw [weigh, show min dx 4 = d by omega]
  rw [List.drop_of_length_le (by omega), hzBlks] at hgz
  rw [List.drop_of_length_le (by omega), frBlks] at hgf2
  subst hgz hgf2
  clear hz1' hFK' lk c42 hdep67
  have hkvl : z.vals.length = n25 := by rw [← hvl, hsame.v]
  refine sp_of (fun h0 => by simp [hkvl] at h0) (fun _ => ⟨_, _, _, (c27 h80.ext).2.2, ?_⟩)
  have hnrl := hfrm67.len
  have hnrle := hfrm67.le
  have hbeg : ∀ {u : Nat} {x : Int}, Z.frm[u]? = some x → ∃ (m : Nat) (v : Int), x = m ∧ Z.vals[m]? = some v ∧ v ∈ ks := by
    intro u x hx
    have := List.mem_of_getElem? hx
    rw [hZf] at this
    obtain ⟨m, v, h1, h2, h3⟩ := frm_fk honce this
    exact ⟨m, v, h1, by rw [hZf]; exact h2, by rw [hFK]; exact h3⟩
  refine ⟨fun i w' c => ∃ (u : Nat), i = u ∧ u ≤ nr ∧ c = nr - u ∧ w' = w80, ⟨nr, 0, rfl, by omega, by omega, rfl⟩, ?_⟩
  rintro i _ c ⟨u, rfl, hu, rfl, rfl⟩
  refine sp_dec (fun hlt => ?_) (fun hge2 => ?_)
  · obtain ⟨x, hx⟩ := at_some (l := Z.frm) (j := u) (by omega)
    obtain ⟨m, v, rfl, hv, hvk⟩ := hbeg hx
    have hml := (List.getElem?_eq_some_iff.1 hv).1
    obtain ⟨bx, ox, hax, hcx⟩ := RdI.at (hfrm67.ext h80.ext) hx
    obtain ⟨bv, ov, hav, hcv⟩ := RdI.at (hvals67.ext h80.ext) hv
    have hlook := look_map (P := Pg) (t := 56) mpCut (z := .bool false) (by kernel_rfl) (p := some b74) (f := fun k => mget (trues ks) k) ⟨of, h80.at 0 rfl, _, hof, fun _ => rfl⟩ v
    rw [trues_get, if_pos hvk] at hlook
    exact ⟨by omega, by omega, ptAt_of hax ⟨_, hcx, by omega, by omega, ptAt_of hav ⟨v, hcv, true, hlook, sp_false rfl ⟨nr - (u + 1), by omega, u + 1, wrap_succ (by omega), by omega, rfl, rfl⟩⟩⟩⟩
  obtain ⟨r, w237, oi, hrng, h237, hrg0, hx237⟩ := range_run (P := Pg) mpCut h80 (h80.at 0 rfl) hof
  refine ⟨_, w237, hrng, ?_⟩
  refine ⟨fun w' c => ∃ (left : List (Int × Value)) (oi : Obj), c = left.length ∧ Hp w67 w' [(r, oi), (b74, of), BA, (b69, oa)] ∧ Rg b74 (trues ks) left of oi, ⟨_, _, oi, rfl, h237, hrg0⟩, ?_⟩
  clear hrng h237 hrg0 hx237 h80
  rintro w239 c ⟨left, oi, rfl, h239, hrg⟩
  have hrb : r ≠ b74 := by
    have := h239.nd
    simp only [List.map_cons, List.nodup_cons, List.mem_cons, not_or] at this
    exact this.1.1
  rcases next_run (P := Pg) (ty := 0) h239 0 rfl (h239.at 1 rfl) hrb hrg with ⟨hl0, hnx⟩ | ⟨key, v, left', w243, oi', hperm, hnx, h243, hrg', hkv, hent, -, -⟩
  rotate_left
  · right
    obtain ⟨y, hyk, hye⟩ := List.mem_map.1 hkv
    cases hye
    refine ⟨_, _, w243, hnx, key, true, hent, _, _, _, (c27 h243.ext).2.2, ?_⟩
    obtain ⟨x0, m0, hx0, rfl, hm0⟩ := fk_frm (fn := k) (sinks := p.sinks S1) (by rw [hFK] at hyk; exact hyk)
    rw [← hZf] at hx0 hm0
    refine ⟨fun fl i w' c => ∃ (u : Nat), i = u ∧ u ≤ nr ∧ c = nr - u ∧ w' = w243 ∧ (fl = true ∨ ∃ x ∈ Z.frm.drop u, ∃ m : Nat, x = m ∧ Z.vals[m]? = some key), ⟨nr, 0, rfl, by omega, by omega, rfl, .inr ⟨_, hx0, m0, rfl, hm0⟩⟩, ?_⟩
    rintro fl i _ c ⟨u, rfl, hu3, rfl, rfl, hfl⟩
    refine sp_dec (fun hlt => ?_) (fun hge3 => ?_)
    · intro K382 hK382
      obtain ⟨x, hx⟩ := at_some (l := Z.frm) (j := u) (by omega)
      obtain ⟨m, v, rfl, hv, hvk⟩ := hbeg hx
      have hml := (List.getElem?_eq_some_iff.1 hv).1
      obtain ⟨bx, ox, hax, hcx⟩ := RdI.at (hfrm67.ext h243.ext) hx
      obtain ⟨bv, ov, hav, hcv⟩ := RdI.at (hvals67.ext h243.ext) hv
      refine ⟨by omega, by omega, ptAt_of hax ⟨_, hcx, sp_of (fun e => hK382 _ _ ⟨nr - (u + 1), by omega, u + 1, wrap_succ (by omega), by omega, rfl, rfl, .inl rfl⟩) (fun e => ⟨by omega, by omega, ptAt_of hav ⟨v, hcv, hK382 _ _ ⟨nr - (u + 1), by omega, u + 1, wrap_succ (by omega), by omega, rfl, rfl, ?_⟩⟩⟩)⟩⟩
      rcases hfl with hfl | ⟨x, hxm, m2, rfl, hm2⟩
      · rw [e] at hfl; cases hfl
      · rw [drop_cons hx] at hxm
        rcases List.mem_cons.1 hxm with hxe | hxm
        · have : m2 = m := by omega
          subst this
          rw [hv] at hm2
          cases hm2
          exact .inl (by simp)
        · exact .inr ⟨_, hxm, m2, rfl, hm2⟩
    · have : fl = true := by
        rcases hfl with hfl | ⟨x, hxm, _⟩
        · exact hfl
        · rw [List.drop_of_length_le (by omega)] at hxm; cases hxm
      subst this
      have hle := hperm.length_eq
      simp only [List.length_cons] at hle
      exact sp_false rfl ⟨left'.length, by omega, left', oi', rfl, h243, hrg'⟩
  left
  refine ⟨w239, hnx, ?_⟩
  clear hnx hrg hbeg hof hrb
  have h239 : Hp w67 w239 [BA, (b69, oa)] := h239.drop 2
  refine alm h239 fun b264 w265 h265 => alp h265 fun b266 w267 h267 => ?_
  refine stp h267 0 rfl (by simp) rfl fun w268 h268 => ⟨_, _, _, (r52 h268.ext).2, ?_⟩
  obtain ⟨BW, hBW⟩ : ∃ B : Nat × Obj, B = (b266, Cl 82 [.map (some b264)]) := ⟨_, rfl⟩
  have h268 : Hp w67 w268 [BW, (b264, .map #[] 0), BA, (b69, oa)] := by subst hBW; exact h268
  obtain ⟨zW, hzW⟩ : ∃ zW, zW = hzWays p.writes f.blocks f.blocks z := ⟨_, rfl⟩
  have hzw0 : z.ways = [] := by rw [hz1]; exact z1_ways
  have hZw : Z.ways = zW.ways := by rw [hZf, hz_ways, hzW, hz1]
  have hatok : ∀ (k : Int) (x : Int), z.at_ k = some x → -9223372036854775808 ≤ x ∧ x ≤ 9223372036854775807 := by
    intro y x hx
    rw [hz1] at hx
    obtain ⟨m, rfl, hm⟩ := z1_i _ _ hx
    rw [← hz1] at hm
    have := (List.getElem?_eq_some_iff.1 hm).1
    simp only [maxLen] at hvle
    omega
  refine ⟨fun i w' c => ∃ (u : Nat) (zz : Hz) (ow : Obj), i = u ∧ u ≤ nb ∧ c = nb - u ∧ Hp w67 w' [BW, (b264, ow), BA, (b69, oa)] ∧ MpP (pputs zz.ways) ow ∧ zz.at_ = z.at_ ∧ hzWays p.writes f.blocks (f.blocks.drop u) zz = zW,
    ⟨nb, 0, z, _, rfl, by omega, by omega, h268, by rw [hzw0]; exact MpP.empty, rfl, hzW.symm⟩, ?_⟩
  clear h268 h267 h265 h239
  rintro i w272 c ⟨u, zz, ow, rfl, hu4, rfl, h272, how, hzat, hgoW⟩
  have cBW : ∀ {w1 : World} {L : List (Nat × Obj)}, Hp w67 w1 L → BW ∈ L → (b266, Cl 82 [.map (some b264)]) ∈ L := by
    intro w1 L h1 hm
    rw [hBW] at hm
    exact hm
  refine sp_dec (fun hlt => ?_) (fun hge4 => ?_)
  · obtain ⟨b, hy⟩ := at_some (l := f.blocks) (j := u) (by omega)
    rw [drop_cons hy, hzWays] at hgoW
    have hbm := List.mem_of_getElem? hy
    have hblim := hflim.each b hbm
    obtain ⟨bt, ot, ap, np, cp, ai, ni, ci, ae, ne, ce, hat, hrowt, hp, hi, he⟩ := blkOf hbs67 hy
    have hil := hi.len
    have hile := hi.le
    have hel := he.len
    have hele := he.le
    refine ⟨by omega, by omega, ptAt_of hat ⟨_, _, _, _, _, _, _, _, _, _, _, _, h272.ext.row hrowt, ?_⟩⟩
    refine alp h272 fun b283 w284 h284 => ?_
    refine stp h284 0 rfl (by simp) rfl fun w285 h285 => ?_
    obtain ⟨BK, hBK⟩ : ∃ B : Nat × Obj, B = (b283, Cl 47 [.slice ap np cp, .slice ai ni ci, .int .i64 b.fin.kind, .int .i64 b.fin.val, .slice ae ne ce, .int .i64 b.fin.trap]) := ⟨_, rfl⟩
    have h285 : Hp w67 w285 [BK, BW, (b264, ow), BA, (b69, oa)] := by subst hBK; exact h285
    have cBK : ∀ {w1 : World} {L : List (Nat × Obj)}, Hp w67 w1 L → BK ∈ L → cel w1 b283 1 = some (.slice ai ni ci) ∧ cel w1 b283 4 = some (.slice ae ne ce) := by
      intro w1 L h1 hm
      subst hBK
      exact ⟨cel_of (h1.own _ hm).2 rfl, cel_of (h1.own _ hm).2 rfl⟩
    refine ⟨_, _, _, (cBK h285 (by simp)).1, ?_⟩
    obtain ⟨zI, hzI⟩ : ∃ x, x = hzIns p.writes b.ins zz := ⟨_, rfl⟩
    have hatI : zI.at_ = z.at_ := by rw [hzI, (hzIns_same _ _ _).a, hzat]
    rw [← hzI] at hgoW
    refine ⟨fun i w' c => ∃ (s : Nat) (z2 : Hz) (ow2 : Obj), i = s ∧ s ≤ ni ∧ c = ni - s ∧ Hp w67 w' [BK, BW, (b264, ow2), BA, (b69, oa)] ∧ MpP (pputs z2.ways) ow2 ∧ z2.at_ = z.at_ ∧ hzIns p.writes (b.ins.drop s) z2 = zI,
      ⟨ni, 0, zz, ow, rfl, by omega, by omega, h285, how, hzat, hzI.symm⟩, ?_⟩
    clear h285 h284 h272 how hzat hzI
    rintro i w289 c ⟨s, z2, ow2, rfl, hs, rfl, h289, how2, hzat2, hgoI⟩
    refine sp_dec (fun hlt2 => ?_) (fun hge5 => ?_)
    · obtain ⟨x, hx⟩ := at_some (l := b.ins) (j := s) (by omega)
      rw [drop_cons hx, hzIns] at hgoI
      obtain ⟨bi, oi, vs, hai, hrowi, hvli, aa', na', ca', rfl, hargs⟩ := hi.at_ _ _ hx
      have hal := hargs.len
      have hale := hargs.le
      refine ⟨by omega, by omega, ptAt_of hai ⟨_, _, _, _, _, _, _, _, _, h289.ext.row hrowi, ?_⟩⟩
      refine alp h289 fun b301 w302 h302 => ?_
      refine stp h302 0 rfl (by simp) rfl fun w303 h303 => ?_
      obtain ⟨BN, hBN⟩ : ∃ B : Nat × Obj, B = (b301, Cl 37 [.int .i64 x.op, .int .i64 x.dst, .slice aa' na' ca', .int .i64 x.num, .int .i64 x.bin, .int .i64 x.arr, .int .i64 x.fn]) := ⟨_, rfl⟩
      have h303 : Hp w67 w303 [BN, BK, BW, (b264, ow2), BA, (b69, oa)] := by subst hBN; exact h303
      have cBN : ∀ {w1 : World} {L : List (Nat × Obj)}, Hp w67 w1 L → BN ∈ L → cel w1 b301 1 = some (.int .i64 x.dst) ∧ cel w1 b301 2 = some (.slice aa' na' ca') := by
        intro w1 L h1 hm
        subst hBN
        exact ⟨cel_of (h1.own _ hm).2 rfl, cel_of (h1.own _ hm).2 rfl⟩
      refine ⟨_, _, _, (cBN h303 (by simp)).2, ?_⟩
      obtain ⟨zA, hzA⟩ : ∃ y, y = hzArgs x.dst x.args z2 := ⟨_, rfl⟩
      have hatA : zA.at_ = z.at_ := by rw [hzA, (hzArgs_same _ _ _).a, hzat2]
      rw [← hzA] at hgoI
      refine ⟨fun i w' c => ∃ (t : Nat) (z3 : Hz) (ow3 : Obj), i = t ∧ t ≤ na' ∧ c = na' - t ∧ Hp w67 w' [BN, BK, BW, (b264, ow3), BA, (b69, oa)] ∧ MpP (pputs z3.ways) ow3 ∧ z3.at_ = z.at_ ∧ hzArgs x.dst (x.args.drop t) z3 = zA,
        ⟨na', 0, z2, ow2, rfl, by omega, by omega, h303, how2, hzat2, hzA.symm⟩, ?_⟩
      clear h303 h302 h289 how2 hzat2 hzA
      rintro i w307 c ⟨t, z3, ow3, rfl, ht, rfl, h307, how3, hzat3, hgoA⟩
      refine sp_dec (fun hlt3 => ?_) (fun hge6 => ?_)
      · obtain ⟨y, hy2⟩ := at_some (l := x.args) (j := t) (by omega)
        rw [drop_cons hy2, hzArgs] at hgoA
        obtain ⟨by_, oy, hay, hcy⟩ := RdI.at (RdI.ext hargs.rd h307.ext) hy2
        refine ⟨by omega, by omega, ptAt_of hay ⟨y, hcy, _, (cBN h307 (by simp)).1, ?_⟩⟩
        refine CallV.mono (note_w (oa := oa) h307 3 rfl (tA := 77) (by rw [← hBA]; simp) (cBW h307 (by simp)) (by simp) hoa how3 hatok y x.dst) ?_
        rintro _ w315 ⟨rfl, ow', h315, how'⟩
        rw [← hzat3, noteW_way] at how'
        exact ⟨rfl, na' - (t + 1), by omega, t + 1, _, ow', wrap_succ (by omega), by omega, rfl, h315, how', by rw [(Hz.way_same _ _ _).a, hzat3], hgoA⟩
      · rw [List.drop_of_length_le (by omega), hzArgs] at hgoA
        subst hgoA
        exact ⟨ni - (s + 1), by omega, s + 1, Hz.fromIns p.writes x z3, ow3, wrap_succ (by omega), by omega, rfl, h307.drop 1, by rw [Hz.fromIns_ways]; exact how3, by rw [(Hz.fromIns_same _ _ _).a, hzat3], hgoI⟩
    rw [List.drop_of_length_le (by omega), hzIns] at hgoI
    subst hgoI
    refine ⟨_, _, _, (cBK h289 (by simp)).2, ?_⟩
    obtain ⟨zE, hzE⟩ : ∃ y, y = hzEdges f.blocks b.fin.ways z2 := ⟨_, rfl⟩
    have hatE : zE.at_ = z.at_ := by rw [hzE, (hzEdges_same _ _ _).a, hzat2]
    rw [← hzE] at hgoW
    refine ⟨fun i w' c => ∃ (s : Nat) (z4 : Hz) (ow4 : Obj), i = s ∧ s ≤ ne ∧ c = ne - s ∧ Hp w67 w' [BK, BW, (b264, ow4), BA, (b69, oa)] ∧ MpP (pputs z4.ways) ow4 ∧ z4.at_ = z.at_ ∧ hzEdges f.blocks (b.fin.ways.drop s) z4 = zE,
      ⟨ne, 0, z2, ow2, rfl, by omega, by omega, h289, how2, hzat2, hzE.symm⟩, ?_⟩
    clear h289 how2 hzat2 hzE
    rintro i w319 c ⟨s2, z4, ow4, rfl, hs2, rfl, h319, how4, hzat4, hgoE⟩
    refine sp_dec (fun hlt2 => ?_) (fun hge6 => ?_)
    · obtain ⟨e, hz⟩ := at_some (l := b.fin.ways) (j := s2) (by omega)
      rw [drop_cons hz, hzEdges] at hgoE
      have hwok := List.all_eq_true.1 (hfb b hbm).2.1 e (List.mem_of_getElem? hz)
      unfold wayOk at hwok
      simp only [Bool.and_eq_true, decide_eq_true_eq] at hwok
      obtain ⟨⟨hto1, hto2⟩, hwl2⟩ := hwok
      obtain ⟨b2, hb2⟩ := at_some (l := f.blocks) (j := e.to.toNat) (by omega)
      rw [hb2] at hwl2 hgoE
      have hwl2 : e.args.length = b2.params.length := by simpa using hwl2
      simp only at hgoE
      obtain ⟨bi, oi, vs, hai, hrowi, hvli, aa', na', ca', rfl, hargs⟩ := he.at_ _ _ hz
      have hal := hargs.len
      have hale := hargs.le
      obtain ⟨bt2, ot2, ap2, np2, cp2, ai2, ni2, ci2, ae2, ne2, ce2, hat2, hrowt2, hp2, hi2, he2⟩ := blkOf hbs67 hb2
      have hpl2 := hp2.len
      have hple2 := hp2.le
      refine ⟨by omega, by omega, ptAt_of hai ⟨_, _, _, _, h319.ext.row hrowi, ?_⟩⟩
      refine alp h319 fun b326 w327 h327 => ?_
      refine stp h327 0 rfl (by simp) rfl fun w328 h328 => ?_
      obtain ⟨BE, hBE⟩ : ∃ B : Nat × Obj, B = (b326, Cl 41 [.int .i64 e.to, .slice aa' na' ca']) := ⟨_, rfl⟩
      have h328 : Hp w67 w328 [BE, BK, BW, (b264, ow4), BA, (b69, oa)] := by subst hBE; exact h328
      have cBE : ∀ {w1 : World} {L : List (Nat × Obj)}, Hp w67 w1 L → BE ∈ L → cel w1 b326 0 = some (.int .i64 e.to) ∧ cel w1 b326 1 = some (.slice aa' na' ca') := by
        intro w1 L h1 hm
        subst hBE
        exact ⟨cel_of (h1.own _ hm).2 rfl, cel_of (h1.own _ hm).2 rfl⟩
      have hcp : cel w328 bt2 (ot2 + e.to.toNat * 6) = some (.slice ap2 np2 cp2) := by
        exact h328.ext.row hrowt2 0 _ rfl
      refine ⟨_, _, _, (r52 h328.ext).2, _, (cBE h328 (by simp)).1, by omega, by omega, ptAt_of hat2 ⟨_, _, _, hcp, ?_⟩⟩
      obtain ⟨zF, hzF⟩ : ∃ y, y = hzEdge b2.params e.args z4 := ⟨_, rfl⟩
      have hatF : zF.at_ = z.at_ := by rw [hzF, (hzEdge_same _ _ _).a, hzat4]
      rw [← hzF] at hgoE
      refine ⟨fun i w' c => ∃ (t : Nat) (z5 : Hz) (ow5 : Obj), i = t ∧ t ≤ np2 ∧ c = np2 - t ∧ Hp w67 w' [BE, BK, BW, (b264, ow5), BA, (b69, oa)] ∧ MpP (pputs z5.ways) ow5 ∧ z5.at_ = z.at_ ∧ hzEdge (b2.params.drop t) (e.args.drop t) z5 = zF,
        ⟨np2, 0, z4, ow4, rfl, by omega, by omega, h328, how4, hzat4, hzF.symm⟩, ?_⟩
      clear h328 h327 h319 how4 hzat4 hzF hcp
      rintro i w336 c ⟨t, z5, ow5, rfl, ht, rfl, h336, how5, hzat5, hgoF⟩
      refine sp_dec (fun hlt3 => ?_) (fun hge7 => ?_)
      · obtain ⟨q2, hq2⟩ := at_some (l := b2.params) (j := t) (by omega)
        obtain ⟨y, hy2⟩ := at_some (l := e.args) (j := t) (by omega)
        rw [drop_cons hq2, drop_cons hy2, hzEdge] at hgoF
        obtain ⟨bq, oq, haq, hcq⟩ := RdI.at (RdI.ext hp2 h336.ext) hq2
        obtain ⟨by_, oy, hay, hcy⟩ := RdI.at (RdI.ext hargs h336.ext) hy2
        refine ⟨by omega, by omega, ptAt_of haq ⟨q2, hcq, _, _, _, (cBE h336 (by simp)).2, by omega, by omega, ptAt_of hay ⟨y, hcy, ?_⟩⟩⟩
        refine CallV.mono (note_w (oa := oa) h336 3 rfl (tA := 77) (by rw [← hBA]; simp) (cBW h336 (by simp)) (by simp) hoa how5 hatok y q2) ?_
        rintro _ w347 ⟨rfl, ow', h347, how'⟩
        rw [← hzat5, noteW_way] at how'
        exact ⟨rfl, np2 - (t + 1), by omega, t + 1, _, ow', wrap_succ (by omega), by omega, rfl, h347, how', by rw [(Hz.way_same _ _ _).a, hzat5], hgoF⟩
      · rw [List.drop_of_length_le (show b2.params.length ≤ t by omega), hzEdge] at hgoF
        · subst hgoF
          exact ⟨ne - (s2 + 1), by omega, s2 + 1, z5, ow5, wrap_succ (by omega), by omega, rfl, h336.drop 1, how5, hzat5, hgoE⟩
        · simp
    · rw [List.drop_of_length_le (by omega), hzEdges] at hgoE
      subst hgoE
      exact ⟨nb - (u + 1), by omega, u + 1, z4, ow4, wrap_succ (by simp only [maxLen]; omega), by omega, rfl, h319.drop 1, how4, hzat4, hgoW⟩
  · rw [List.drop_of_length_le (by omega), hzWays] at hgoW
    subst hgoW
    rw [← hZw] at how
    refine alm h272 fun b348 w349 h349 => ⟨_, _, _, (c27 h349.ext).2.1, ?_⟩
    have hnyl := hways67.len
    have hnyle := hways67.le
    refine ⟨fun i w' c => ∃ (s : Nat) (os : Obj), i = s ∧ s ≤ ny ∧ c = ny - s ∧ Hp w67 w' [(b348, os), BW, (b264, ow), BA, (b69, oa)] ∧ MpP (pputs (Z.ways.take s)) os,
      ⟨ny, 0, _, rfl, by omega, by omega, h349, MpP.empty⟩, ?_⟩
    clear h349 h272
    rintro i w353 c ⟨s, os, rfl, hs5, rfl, h353, hos⟩
    refine sp_dec (fun hlt => ?_) (fun hge5 => ?_)
    · obtain ⟨x, hx⟩ := at_some (l := Z.ways) (j := s) (by omega)
      obtain ⟨bx, ox, vs, hax, hrx, hvx, hvs⟩ := (RdTwo.ext hways67 h353.ext).at_ _ _ hx
      have hvs : vs = [.int .i64 x.1, .int .i64 x.2] := hvs
      subst hvs
      refine ⟨by omega, by omega, ptAt_of hax ⟨_, _, hrx, ?_⟩⟩
      refine alp h353 fun b360 w361 h361 => ?_
      refine stp h361 0 rfl (by simp) rfl fun w362 h362 => ?_
      have hcW : cel w362 b266 0 = some (.map (some b264)) := by
        have := (h362.own BW (by simp)).2
        rw [hBW] at this
        exact cel_of this rfl
      have hmem : x ∈ pputs Z.ways := mem_pputs.2 (List.mem_of_getElem? hx)
      have hokx : okP x := by obtain ⟨_, _, _, _, h⟩ := how; exact h x hmem
      have hlook := plook_run how (h362.at 3 rfl) hokx
      rw [decide_eq_true hmem] at hlook
      obtain ⟨w369, o', hrun, hmo, h369⟩ := pupd_run h362 1 rfl hos hokx
      refine ⟨_, hcW, _, _, h362.row 0 rfl, true, hlook, sp_false rfl ⟨_, _, h362.row 0 rfl, w369, hrun, ny - (s + 1), by omega, s + 1, o', wrap_succ (by omega), by omega, rfl, h369.drop 1, ?_⟩⟩
      rw [List.take_add_one, hx, Option.toList_some, pputs_snoc]
      exact hmo
    · rw [List.take_of_length_le (by omega)] at hos
      have hcW : cel w353 b266 0 = some (.map (some b264)) := by
        have := (h353.own BW (by simp)).2
        rw [hBW] at this
        exact cel_of this rfl
      refine ⟨_, plen_run hos (h353.at 0 rfl), _, hcW, _, plen_run how (h353.at 2 rfl), ?_, hx67w.trans h353.ext⟩
      simp
end Go.Pl.Try
