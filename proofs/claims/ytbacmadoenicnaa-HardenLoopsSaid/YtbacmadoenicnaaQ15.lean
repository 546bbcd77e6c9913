/- Joined texts of the proof, part 15: F3, WLoops. -/
import Derived.Test.YtbacmadoenicnaaQ14
set_option maxRecDepth 2000
set_option linter.unusedVariables false
set_option linter.unusedSimpArgs false
set_option linter.unusedSectionVars false
/- What 'palings/palingslaw14.HardenLoops' does, read off its translation by gen.py. -/
namespace Go.Pl.Try
set_option linter.unusedVariables false
set_option maxRecDepth 100000
def F3 (x1 : Int) (x2 : Bool) (w : World) (R : Value → World → Prop) : Prop :=
  CallP Pg 6 [] w fun v3 w4 => ∃ (x5 : Bool), v3 = .bool x5 ∧
  sp (!x5)
  (R (.bool false) w4)
  (AlP 25 [.string ⟨#[104]⟩, .int .i64 1, .int .i64 4] w4 fun b6 w7 =>
  AlP 29 [.string ⟨#[]⟩, .slice none 0 0] w7 fun b8 w9 =>
  AlP 32 [.slice none 0 0, .slice none 0 0, .int .i64 0] w9 fun b10 w11 =>
  StP b10 0 [.slice (some ⟨b6, 0, none⟩) 1 1, .slice (some ⟨b8, 0, none⟩) 1 1, .int .i64 0] w11 fun w12 =>
  AlP 3 [.int .i64 1] w12 fun b13 w14 =>
  AlP 37 [.int .i64 0, .int .i64 0, .slice none 0 0, .int .i64 0, .int .i64 0, .int .i64 0, .int .i64 0] w14 fun b15 w16 =>
  StP b15 0 [.int .i64 5, .int .i64 2, .slice (some ⟨b13, 0, none⟩) 1 1, .int .i64 0, .int .i64 0, .int .i64 0, .int .i64 0] w16 fun w17 =>
  AlP 37 [.int .i64 1, .int .i64 1, .slice none 0 0, .int .i64 0, .int .i64 0, .int .i64 0, .int .i64 0] w17 fun b18 w19 =>
  AlP 41 [.int .i64 1, .slice none 0 0] w19 fun b20 w21 =>
  AlP 47 [.slice none 0 0, .slice none 0 0, .int .i64 0, .int .i64 0, .slice none 0 0, .int .i64 0] w21 fun b22 w23 =>
  StP b22 0 [.slice none 0 0, .slice (some ⟨b18, 0, none⟩) 1 1, .int .i64 1, .int .i64 0, .slice (some ⟨b20, 0, none⟩) 1 1, .int .i64 0] w23 fun w24 =>
  ∀ K25 : World → Prop, (∀ w26, (
  ∃ (ax27 : Option Addr) (nx27 cx27 : Nat) (ax28 : Option Addr) (nx28 cx28 : Nat) (x29 : Int) (x30 : Int) (ax31 : Option Addr) (nx31 cx31 : Nat) (x32 : Int), Row w26 b22 0 [.slice ax27 nx27 cx27, .slice ax28 nx28 cx28, .int .i64 x29, .int .i64 x30, .slice ax31 nx31 cx31, .int .i64 x32] ∧
  AlP 47 [.slice ax27 nx27 cx27, .slice ax28 nx28 cx28, .int .i64 x29, .int .i64 x30, .slice ax31 nx31 cx31, .int .i64 x32] w26 fun b33 w34 =>
  ∃ J35 : Option Addr → Nat → Nat → Int → World → Nat → Prop, (∃ m39, J35 (some ⟨b33, 0, none⟩) 1 1 1 w34 m39) ∧
  ∀ (ax36 : Option Addr) (nx36 cx36 : Nat) (x37 : Int), ∀ w38 m39, J35 ax36 nx36 cx36 x37 w38 m39 →
  sp (decide ((x37 : Int) ≤ bitsI .and .i64 x1 7))
  (AlP 41 [.int .i64 (IntKind.wrap .i64 (x37 + 1)), .slice none 0 0] w38 fun b41 w42 =>
  AlP 47 [.slice none 0 0, .slice none 0 0, .int .i64 1, .int .i64 0, .slice (some ⟨b41, 0, none⟩) 1 1, .int .i64 0] w42 fun b43 w44 =>
  ∃ (ax45 : Option Addr) (nx45 cx45 : Nat), ∃ w46 : World, Sem.run Pg (Builtin.append_ #[27, 27] 27 ⟨[.slice ax36 nx36 cx36, .slice (some ⟨b43, 0, none⟩) 1 1]⟩) w44 = .ok (.slice ax45 nx45 cx45) w46 ∧
  ∃ m40, m40 < m39 ∧ J35 ax45 nx45 cx45 (IntKind.wrap .i64 (x37 + 1)) w46 m40)
  (AlP 47 [.slice none 0 0, .slice none 0 0, .int .i64 0, .int .i64 0, .slice none 0 0, .int .i64 0] w38 fun b47 w48 =>
  StP b47 0 [.slice none 0 0, .slice none 0 0, .int .i64 0, .int .i64 0, .slice none 0 0, .int .i64 0] w48 fun w49 =>
  ∀ K50 : World → Prop, (∀ w51, (
  AlP 41 [.int .i64 (IntKind.wrap .i64 ((bitsI .and .i64 x1 7) + 2)), .slice none 0 0, .int .i64 (IntKind.wrap .i64 ((bitsI .and .i64 x1 7) + 2)), .slice none 0 0] w51 fun b52 w53 =>
  StP b47 2 [.int .i64 2, .int .i64 2, .slice (some ⟨b52, 0, none⟩) 2 2, .int .i64 0] w53 fun w54 =>
  ∃ (ax55 : Option Addr) (nx55 cx55 : Nat) (ax56 : Option Addr) (nx56 cx56 : Nat) (x57 : Int) (x58 : Int) (ax59 : Option Addr) (nx59 cx59 : Nat) (x60 : Int), Row w54 b47 0 [.slice ax55 nx55 cx55, .slice ax56 nx56 cx56, .int .i64 x57, .int .i64 x58, .slice ax59 nx59 cx59, .int .i64 x60] ∧
  AlP 47 [.slice ax55 nx55 cx55, .slice ax56 nx56 cx56, .int .i64 x57, .int .i64 x58, .slice ax59 nx59 cx59, .int .i64 x60] w54 fun b61 w62 =>
  ∃ (ax63 : Option Addr) (nx63 cx63 : Nat), ∃ w64 : World, Sem.run Pg (Builtin.append_ #[27, 27] 27 ⟨[.slice ax36 nx36 cx36, .slice (some ⟨b61, 0, none⟩) 1 1]⟩) w62 = .ok (.slice ax63 nx63 cx63) w64 ∧
  ∃ J65 : Option Addr → Nat → Nat → Int → World → Nat → Prop, (∃ m69, J65 ax63 nx63 cx63 (bitsI .and .i64 x1 7) w64 m69) ∧
  ∀ (ax66 : Option Addr) (nx66 cx66 : Nat) (x67 : Int), ∀ w68 m69, J65 ax66 nx66 cx66 x67 w68 m69 →
  sp (decide ((1 : Int) ≤ x67))
  (AlP 41 [.int .i64 x67, .slice none 0 0, .int .i64 (IntKind.wrap .i64 ((nx66 : Nat) + 1)), .slice none 0 0] w68 fun b71 w72 =>
  AlP 47 [.slice none 0 0, .slice none 0 0, .int .i64 2, .int .i64 1, .slice (some ⟨b71, 0, none⟩) 2 2, .int .i64 0] w72 fun b73 w74 =>
  ∃ (ax75 : Option Addr) (nx75 cx75 : Nat), ∃ w76 : World, Sem.run Pg (Builtin.append_ #[27, 27] 27 ⟨[.slice ax66 nx66 cx66, .slice (some ⟨b73, 0, none⟩) 1 1]⟩) w74 = .ok (.slice ax75 nx75 cx75) w76 ∧
  ∃ m70, m70 < m69 ∧ J65 ax75 nx75 cx75 (IntKind.wrap .i64 (x67 - 1)) w76 m70)
  (AlP 47 [.slice none 0 0, .slice none 0 0, .int .i64 3, .int .i64 1, .slice none 0 0, .int .i64 0] w68 fun b77 w78 =>
  ∃ (ax79 : Option Addr) (nx79 cx79 : Nat), ∃ w80 : World, Sem.run Pg (Builtin.append_ #[27, 27] 27 ⟨[.slice ax66 nx66 cx66, .slice (some ⟨b77, 0, none⟩) 1 1]⟩) w78 = .ok (.slice ax79 nx79 cx79) w80 ∧
  ∃ (ax81 : Option Addr) (nx81 cx81 : Nat), cel w80 b10 1 = some (.slice ax81 nx81 cx81) ∧
  0 ≤ (0 : Int) ∧ (0 : Int) < (nx81 : Nat) ∧
  ptAt ax81 fun b82 o83 =>
  StP b82 (o83 + 1) [.slice ax79 nx79 cx79] w80 fun w84 =>
  ∃ (ax85 : Option Addr) (nx85 cx85 : Nat) (ax86 : Option Addr) (nx86 cx86 : Nat) (x87 : Int), Row w84 b10 0 [.slice ax85 nx85 cx85, .slice ax86 nx86 cx86, .int .i64 x87] ∧
  CallP Pg 7 [.agg ⟨[.slice ax85 nx85 cx85, .slice ax86 nx86 cx86, .int .i64 x87]⟩] w84 fun v88 w89 => ∃ (ax90 : Option Addr) (nx90 cx90 : Nat) (ax91 : Option Addr) (nx91 cx91 : Nat) (x92 : Int) (x93 : Int), v88 = .tuple ⟨[.agg ⟨[.slice ax90 nx90 cx90, .slice ax91 nx91 cx91, .int .i64 x92]⟩, .int .i64 x93]⟩ ∧
  AlP 51 [.slice none 0 0, .slice none 0 0, .int .i64 0] w89 fun b94 w95 =>
  StP b94 0 [.slice ax90 nx90 cx90, .slice ax91 nx91 cx91, .int .i64 x92] w95 fun w96 =>
  ∃ J97 : Int → Int → World → Nat → Prop, (∃ m101, J97 1 0 w96 m101) ∧
  ∀ (x98 : Int) (x99 : Int), ∀ w100 m101, J97 x98 x99 w100 m101 →
  ∀ K103 : World → Prop, (∀ w104, (
  ∃ m102, m102 < m101 ∧ J97 (IntKind.wrap .i64 (x98 * 10)) (IntKind.wrap .i64 (x99 + 1)) w104 m102) → K103 w104) →
  sp (decide ((x99 : Int) < bitsI .and .i64 x1 7))
  (sp (decide ((x99 : Int) < 4))
  (sp x2
  (K103 w100)
  (sp (decide ((x93 : Int) = 0))
  (sp (decide (((nx79 : Nat) : Int) = IntKind.wrap .i64 ((IntKind.wrap .i64 ((IntKind.wrap .i64 ((bitsI .and .i64 x1 7) + 2)) + (bitsI .and .i64 x1 7))) + 1)))
  (∃ (x105 : Int), cel w100 b94 2 = some (.int .i64 x105) ∧
  sp (decide ((x105 : Int) = x98))
  (∃ (ax106 : Option Addr) (nx106 cx106 : Nat) (ax107 : Option Addr) (nx107 cx107 : Nat) (x108 : Int), Row w100 b94 0 [.slice ax106 nx106 cx106, .slice ax107 nx107 cx107, .int .i64 x108] ∧
  CallP Pg 8 [.agg ⟨[.slice ax106 nx106 cx106, .slice ax107 nx107 cx107, .int .i64 x108]⟩] w100 fun v109 w110 => ∃ (x111 : Int), v109 = .int .i64 x111 ∧
  sp (decide ((x111 : Int) = 1))
  (∃ (ax112 : Option Addr) (nx112 cx112 : Nat), cel w110 b94 0 = some (.slice ax112 nx112 cx112) ∧
  0 ≤ (0 : Int) ∧ (0 : Int) < (nx112 : Nat) ∧
  ptAt ax112 fun b113 o114 =>
  ∃ (x115 : Option Nat), cel w110 b113 o114 = some (.map x115) ∧
  ∃ (x116 : Bool), Sem.run Pg (Instr.lookup 56 (.map x115) (.int .i64 2) false) w110 = .ok (.bool x116) w110 ∧
  R (.bool x116) w110)
  (R (.bool false) w110))
  (R (.bool false) w100))
  (R (.bool false) w100))
  (R (.bool false) w100)))
  (sp (decide ((x93 : Int) = 0))
  (sp (decide (((nx79 : Nat) : Int) = IntKind.wrap .i64 ((IntKind.wrap .i64 ((IntKind.wrap .i64 ((bitsI .and .i64 x1 7) + 2)) + (bitsI .and .i64 x1 7))) + 1)))
  (∃ (x117 : Int), cel w100 b94 2 = some (.int .i64 x117) ∧
  sp (decide ((x117 : Int) = x98))
  (∃ (ax118 : Option Addr) (nx118 cx118 : Nat) (ax119 : Option Addr) (nx119 cx119 : Nat) (x120 : Int), Row w100 b94 0 [.slice ax118 nx118 cx118, .slice ax119 nx119 cx119, .int .i64 x120] ∧
  CallP Pg 8 [.agg ⟨[.slice ax118 nx118 cx118, .slice ax119 nx119 cx119, .int .i64 x120]⟩] w100 fun v121 w122 => ∃ (x123 : Int), v121 = .int .i64 x123 ∧
  sp (decide ((x123 : Int) = 1))
  (∃ (ax124 : Option Addr) (nx124 cx124 : Nat), cel w122 b94 0 = some (.slice ax124 nx124 cx124) ∧
  0 ≤ (0 : Int) ∧ (0 : Int) < (nx124 : Nat) ∧
  ptAt ax124 fun b125 o126 =>
  ∃ (x127 : Option Nat), cel w122 b125 o126 = some (.map x127) ∧
  ∃ (x128 : Bool), Sem.run Pg (Instr.lookup 56 (.map x127) (.int .i64 2) false) w122 = .ok (.bool x128) w122 ∧
  R (.bool x128) w122)
  (R (.bool false) w122))
  (R (.bool false) w100))
  (R (.bool false) w100))
  (R (.bool false) w100)))
  (sp (decide ((x93 : Int) = 0))
  (sp (decide (((nx79 : Nat) : Int) = IntKind.wrap .i64 ((IntKind.wrap .i64 ((IntKind.wrap .i64 ((bitsI .and .i64 x1 7) + 2)) + (bitsI .and .i64 x1 7))) + 1)))
  (∃ (x129 : Int), cel w100 b94 2 = some (.int .i64 x129) ∧
  sp (decide ((x129 : Int) = x98))
  (∃ (ax130 : Option Addr) (nx130 cx130 : Nat) (ax131 : Option Addr) (nx131 cx131 : Nat) (x132 : Int), Row w100 b94 0 [.slice ax130 nx130 cx130, .slice ax131 nx131 cx131, .int .i64 x132] ∧
  CallP Pg 8 [.agg ⟨[.slice ax130 nx130 cx130, .slice ax131 nx131 cx131, .int .i64 x132]⟩] w100 fun v133 w134 => ∃ (x135 : Int), v133 = .int .i64 x135 ∧
  sp (decide ((x135 : Int) = 1))
  (∃ (ax136 : Option Addr) (nx136 cx136 : Nat), cel w134 b94 0 = some (.slice ax136 nx136 cx136) ∧
  0 ≤ (0 : Int) ∧ (0 : Int) < (nx136 : Nat) ∧
  ptAt ax136 fun b137 o138 =>
  ∃ (x139 : Option Nat), cel w134 b137 o138 = some (.map x139) ∧
  ∃ (x140 : Bool), Sem.run Pg (Instr.lookup 56 (.map x139) (.int .i64 2) false) w134 = .ok (.bool x140) w134 ∧
  R (.bool x140) w134)
  (R (.bool false) w134))
  (R (.bool false) w100))
  (R (.bool false) w100))
  (R (.bool false) w100)))) → K50 w51) →
  sp x2
  (∃ (x141 : Int) (x142 : Int) (ax143 : Option Addr) (nx143 cx143 : Nat) (x144 : Int) (x145 : Int) (x146 : Int) (x147 : Int), Row w49 b15 0 [.int .i64 x141, .int .i64 x142, .slice ax143 nx143 cx143, .int .i64 x144, .int .i64 x145, .int .i64 x146, .int .i64 x147] ∧
  AlP 37 [.int .i64 x141, .int .i64 x142, .slice ax143 nx143 cx143, .int .i64 x144, .int .i64 x145, .int .i64 x146, .int .i64 x147] w49 fun b148 w149 =>
  StP b47 1 [.slice (some ⟨b148, 0, none⟩) 1 1] w149 fun w150 =>
  K50 w150)
  (K50 w49))) → K25 w26) →
  sp (!x2)
  (∃ (ax151 : Option Addr) (nx151 cx151 : Nat), cel w24 b22 1 = some (.slice ax151 nx151 cx151) ∧
  ∃ (x152 : Int) (x153 : Int) (ax154 : Option Addr) (nx154 cx154 : Nat) (x155 : Int) (x156 : Int) (x157 : Int) (x158 : Int), Row w24 b15 0 [.int .i64 x152, .int .i64 x153, .slice ax154 nx154 cx154, .int .i64 x155, .int .i64 x156, .int .i64 x157, .int .i64 x158] ∧
  AlP 37 [.int .i64 x152, .int .i64 x153, .slice ax154 nx154 cx154, .int .i64 x155, .int .i64 x156, .int .i64 x157, .int .i64 x158] w24 fun b159 w160 =>
  ∃ (ax161 : Option Addr) (nx161 cx161 : Nat), ∃ w162 : World, Sem.run Pg (Builtin.append_ #[38, 38] 38 ⟨[.slice ax151 nx151 cx151, .slice (some ⟨b159, 0, none⟩) 1 1]⟩) w160 = .ok (.slice ax161 nx161 cx161) w162 ∧
  StP b22 1 [.slice ax161 nx161 cx161] w162 fun w163 =>
  K25 w163)
  (K25 w24))
def T3 : List Sh := [.v (.one (.int .i64)), .v (.one .bool), .v (.one .any), .v (.one .any), .v (.one .bool), .v (.one .ptr), .v (.one .ptr), .v (.one .ptr), .v (.one .sl), .v (.one (.int .i64)), .v (.one .ptr), .v (.one (.int .i64)), .v (.one (.int .i64)), .v (.one .ptr), .v (.one (.int .i64)), .v (.one (.int .i64)), .v (.one (.int .i64)), .v (.one .bool), .v (.one .bool), .v (.one (.int .i64)), .v (.one (.int .i64)), .v (.agg [.str, (.int .i64), (.int .i64)]), .v (.one .sl), .v (.agg [.str, .sl]), .v (.one .sl), .v (.agg [.sl, .sl, (.int .i64)]), .v (.one .sl), .v (.agg [(.int .i64), (.int .i64), .sl, (.int .i64), (.int .i64), (.int .i64), (.int .i64)]), .v (.agg [(.int .i64), (.int .i64), .sl, (.int .i64), (.int .i64), (.int .i64), (.int .i64)]), .v (.one .sl), .v (.agg [(.int .i64), .sl]), .v (.one .sl), .v (.agg [(.int .i64), (.int .i64), .sl, (.int .i64)]), .v (.agg [.sl, .sl, (.int .i64), (.int .i64), .sl, (.int .i64)]), .v (.one .bool), .v (.one .bool), .v (.one .ptr), .v (.one .sl), .v (.agg [(.int .i64), (.int .i64), .sl, (.int .i64), (.int .i64), (.int .i64), (.int .i64)]), .v (.one .sl), .v (.one .sl), .v (.one .ptr), .v (.agg [.sl, .sl, (.int .i64), (.int .i64), .sl, (.int .i64)]), .v (.one .sl), .v (.one (.int .i64)), .v (.one (.int .i64)), .v (.one .bool), .v (.one (.int .i64)), .v (.one (.int .i64)), .v (.one .sl), .v (.one (.int .i64)), .v (.one (.int .i64)), .v (.agg [(.int .i64), .sl]), .v (.one .sl), .v (.agg [(.int .i64), (.int .i64), .sl, (.int .i64)]), .v (.agg [.sl, .sl, (.int .i64), (.int .i64), .sl, (.int .i64)]), .v (.one .sl), .v (.one .sl), .v (.agg [.sl, .sl, (.int .i64), (.int .i64), .sl, (.int .i64)]), .v (.one .bool), .v (.agg [(.int .i64), (.int .i64), .sl, (.int .i64), (.int .i64), (.int .i64), (.int .i64)]), .v (.one .sl), .v (.one .ptr), .v (.one (.int .i64)), .v (.one (.int .i64)), .v (.one (.int .i64)), .v (.one (.int .i64)), .v (.one (.int .i64)), .v (.one (.int .i64)), .v (.agg [(.int .i64), .sl]), .v (.one (.int .i64)), .v (.one (.int .i64)), .v (.agg [(.int .i64), .sl]), .v (.one .sl), .v (.agg [(.int .i64), (.int .i64), .sl, (.int .i64)]), .v (.one .ptr), .v (.one .sl), .v (.agg [.sl, .sl, (.int .i64), (.int .i64), .sl, (.int .i64)]), .v (.one .sl), .v (.one .sl), .v (.one (.int .i64)), .v (.one (.int .i64)), .v (.one .bool), .v (.one (.int .i64)), .v (.one (.int .i64)), .v (.one .sl), .v (.one (.int .i64)), .v (.agg [(.int .i64), .sl]), .v (.one .sl), .v (.one (.int .i64)), .v (.one (.int .i64)), .v (.agg [(.int .i64), .sl]), .v (.one .sl), .v (.agg [(.int .i64), (.int .i64), .sl, (.int .i64)]), .v (.agg [.sl, .sl, (.int .i64), (.int .i64), .sl, (.int .i64)]), .v (.one .sl), .v (.one .sl), .v (.one .sl), .v (.agg [(.int .i64), (.int .i64), .sl, (.int .i64)]), .v (.agg [.sl, .sl, (.int .i64), (.int .i64), .sl, (.int .i64)]), .v (.one .sl), .v (.one .sl), .v (.one .ptr), .v (.one .sl), .v (.one .sl), .v (.one .ptr), .v (.one .ptr), .t [(.agg [.sl, .sl, (.int .i64)]), (.one (.int .i64))], .v (.agg [.sl, .sl, (.int .i64)]), .t [(.agg [.sl, .sl, (.int .i64)]), (.one (.int .i64))], .v (.agg [.sl, .sl, (.int .i64)]), .v (.one (.int .i64)), .v (.one (.int .i64)), .v (.one (.int .i64)), .v (.one .bool), .v (.one .bool), .v (.one (.int .i64)), .v (.one .bool), .v (.one .bool), .v (.one .bool), .v (.one .bool), .v (.one .bool), .v (.one (.int .i64)), .v (.one (.int .i64)), .v (.one (.int .i64)), .v (.one (.int .i64)), .v (.one (.int .i64)), .v (.one .bool), .v (.one .bool), .v (.one .sl), .v (.one (.int .i64)), .v (.one (.int .i64)), .v (.one (.int .i64)), .v (.one .bool), .v (.one .bool), .v (.one .bool), .v (.one .ptr), .v (.one (.int .i64)), .v (.one (.int .i64)), .v (.one .bool), .v (.one .bool), .v (.one .bool), .v (.agg [.sl, .sl, (.int .i64)]), .v (.one (.int .i64)), .v (.one .bool), .v (.one .bool), .v (.one .bool), .v (.one .ptr), .v (.one .sl), .v (.one .ptr), .v (.one .map), .v (.one .bool), .v (.one .bool)]
def A3 : Ann := (.seq none .z (.seq none (.seq none .z (.cond (.seq none .z .z) .z)) (.seq none .z (.seq none .z (.seq none .z (.seq none .z (.seq (some []) (.seq none .z (.cond .z .z)) (.seq none .z (.seq none (.seq none .z (.block none (.loop [8, 9] (.seq none (.seq none .z (.cond .z .z)) (.seq none (.block none .z) .z))))) (.seq none .z (.seq (some []) (.seq none .z (.cond .z .z)) (.seq none .z (.seq none .z (.seq none .z (.seq none (.seq none .z (.block none (.loop [8, 12] (.seq none (.seq none .z (.cond .z .z)) (.seq none (.block none .z) .z))))) (.seq none .z (.seq none .z (.seq none .z (.seq none .z (.seq none (.seq none .z (.block none (.loop [15, 16] (.seq (some []) (.ifs none none .z .z) (.seq none (.block none .z) .z))))) (.seq none .z .z)))))))))))))))))))))
theorem F3_eq (x1 : Int) (x2 : Bool) (w : World) (R : Value → World → Prop) : F3 x1 x2 w R = denF Go.Proofs.Try.prog T3 Go.Proofs.Try.f3 A3 [.int .i64 x1, .bool x2] w R := by kernel_rfl
theorem F3_ok (x1 : Int) (x2 : Bool) {w : World} {R : Value → World → Prop} (h : F3 x1 x2 w R) : CallP Go.Proofs.Try.prog 3 [.int .i64 x1, .bool x2] w R :=
  calls_den (fun _ => drawn (by kernel_rfl)) Go.Proofs.Try.func3 (Nat.le_of_ble_eq_true (by kernel_rfl)) ((F3_eq x1 x2 w R).mp h)
end Go.Pl.Try

/- HardenLoops: walked. -/
namespace Go.Pl.Try
open M
set_option linter.unusedVariables false
def lpMid (n : Nat) : List Blk := (List.range n).map fun i => ⟨[], [], ⟨1, 0, [⟨((i + 2 : Nat) : Int), []⟩], 0⟩⟩
def lpTail : Nat → Nat → List Blk
  | 0, _ => []
  | i + 1, len => ⟨[], [], ⟨2, 1, [⟨((i + 1 : Nat) : Int), []⟩, ⟨((len + 1 : Nat) : Int), []⟩], 0⟩⟩ :: lpTail i (len + 1)
def lpLoad : Ins := ⟨5, 2, [1], 0, 0, 0, 0⟩
def lpFirst (inside : Bool) : Blk := ⟨[], [⟨1, 1, [], 0, 0, 0, 0⟩] ++ (if inside then [] else [lpLoad]), ⟨1, 0, [⟨1, []⟩], 0⟩⟩
def lpBody (n : Nat) (inside : Bool) : Blk := ⟨[], if inside then [lpLoad] else [], ⟨2, 2, [⟨((n + 2 : Nat) : Int), []⟩, ⟨((n + 2 : Nat) : Int), []⟩], 0⟩⟩
def lpBlocks (n : Nat) (inside : Bool) : List Blk := (lpFirst inside :: lpMid n) ++ [lpBody n inside] ++ lpTail n (n + 2) ++ [⟨[], [], ⟨3, 1, [], 0⟩⟩]
def lpProg (n : Nat) (inside : Bool) : Prg := ⟨[⟨⟨#[104]⟩, 1, 4⟩], [⟨⟨#[]⟩, lpBlocks n inside⟩], 0⟩
def lpWant (n : Nat) (inside : Bool) : Int := if inside then 10 ^ min n 4 else 1
theorem lp_chk (n : Nat) (hn : n < 8) (inside : Bool) : (lpProg n inside).ofChk 20 = some ([[2]], [], lpWant n inside) := by
  match n, hn with
  | 0, _ => cases inside <;> decide +kernel
  | 1, _ => cases inside <;> decide +kernel
  | 2, _ => cases inside <;> decide +kernel
  | 3, _ => cases inside <;> decide +kernel
  | 4, _ => cases inside <;> decide +kernel
  | 5, _ => cases inside <;> decide +kernel
  | 6, _ => cases inside <;> decide +kernel
  | 7, _ => cases inside <;> decide +kernel
  | n + 8, h => omega
theorem lpTail_len : ∀ (i len : Nat), (lpTail i len).length = i
  | 0, _ => rfl
  | i + 1, len => by rw [lpTail, List.length_cons, lpTail_len]
theorem lpBlocks_len (n : Nat) (inside : Bool) : (lpBlocks n inside).length = 2 * n + 3 := by
  unfold lpBlocks lpMid
  simp [lpTail_len]; omega
/-- Blocks that the call has made, as they lie; 'E': what they lead to. -/
structure BsOk (E : List (Nat × Obj)) (cl : List (List Value)) (bs : List Blk) : Prop where
  len : cl.length = bs.length
  six : ∀ c ∈ cl, c.length = 6
  ok : ∀ (i : Nat) (c : List Value) (b : Blk), cl[i]? = some c → bs[i]? = some b → ∀ w2, Owns w2 E → RBlock w2 c b
theorem BsOk.snoc {E E' : List (Nat × Obj)} {cl : List (List Value)} {bs : List Blk} (h : BsOk E cl bs) (hE : ∀ p ∈ E, p ∈ E') {c : List Value} {b : Blk} (hc : c.length = 6) (hb : ∀ w2, Owns w2 E' → RBlock w2 c b) : BsOk E' (cl ++ [c]) (bs ++ [b]) := by
  refine ⟨by simp [h.len], fun x hx => ?_, fun i x y hx hy w2 ho => ?_⟩
  · rcases List.mem_append.1 hx with hx | hx
    · exact h.six x hx
    · simp at hx; subst hx; exact hc
  · have hl := h.len
    rw [List.getElem?_append] at hx hy
    by_cases hi : i < cl.length
    · rw [if_pos hi] at hx
      rw [if_pos (by omega)] at hy
      exact h.ok i x y hx hy w2 fun p hp => ho p (hE p hp)
    · rw [if_neg hi] at hx
      rw [if_neg (by omega)] at hy
      have h0 : i - cl.length = 0 := by
        rcases Nat.eq_zero_or_pos (i - cl.length) with h0 | h0
        · exact h0
        · rw [List.getElem?_eq_none (by simp; omega)] at hx; cases hx
      have h1 : i - bs.length = 0 := by omega
      rw [h0] at hx
      rw [h1] at hy
      cases hx; cases hy
      exact hb w2 ho
theorem flatten_len6 : ∀ (cl : List (List Value)), (∀ c ∈ cl, c.length = 6) → cl.flatten.length = cl.length * 6
  | [], _ => rfl
  | c :: cl, h => by
    rw [List.flatten_cons, List.length_append, flatten_len6 cl fun x hx => h x (by simp [hx]), h c (by simp), List.length_cons]; omega
theorem flatten_at6 : ∀ {cl : List (List Value)}, (∀ c ∈ cl, c.length = 6) → ∀ {i : Nat} {c : List Value}, cl[i]? = some c → (cl.flatten.drop (i * 6)).take 6 = c
  | [], _, i, c, h => by simp at h
  | d :: cl, hs, 0, c, h => by
    simp only [List.getElem?_cons_zero, Option.some.injEq] at h
    subst h
    have := hs d (by simp)
    simp [List.flatten_cons, List.take_append_of_le_length, this]
  | d :: cl, hs, i + 1, c, h => by
    have hd := hs d (by simp)
    rw [List.flatten_cons, show (i + 1) * 6 = d.length + i * 6 by omega, List.drop_length_add_append]
    exact flatten_at6 (fun x hx => hs x (by simp [hx])) (by simpa using h)
theorem slBlks : slT Pg 27 47 6 96 = true := by kernel_rfl
theorem slInss : slT Pg 38 37 7 72 = true := by kernel_rfl
theorem and7 (x : Int) : ∃ n : Nat, n < 8 ∧ bitsI .and .i64 x 7 = (n : Int) := by
  refine ⟨(BitVec.ofInt 64 x &&& BitVec.ofInt 64 7).toNat, ?_, ?_⟩
  · rw [BitVec.toNat_and]
    exact Nat.lt_of_le_of_lt Nat.and_le_right (by decide)
  · have h : (BitVec.ofInt 64 x &&& BitVec.ofInt 64 7).toNat < 8 := by
      rw [BitVec.toNat_and]
      exact Nat.lt_of_le_of_lt Nat.and_le_right (by decide)
    show IntKind.wrap .i64 (((BitVec.ofInt 64 x &&& BitVec.ofInt 64 7).toNat : Nat) : Int) = _
    exact wrap_in (by omega) (by omega)
theorem rd1 {w : World} {b : Nat} {x : Int} (h : w.heap[b]? = some (Cl 3 [.int .i64 x])) : RdI w (some ⟨b, 0, none⟩) 1 [x] := rds_block (xs := [x]) h rfl (by simp only [List.length_cons, List.length_nil, maxLen]; omega) (fun i y hi => by
    match i, hi with
    | 0, hi => cases hi; rfl
    | i + 1, hi => simp at hi)
theorem rdE1 {w : World} {b : Nat} {x : Int} (h : w.heap[b]? = some (Cl 41 [.int .i64 x, .slice none 0 0])) : RdS 2 REdge w (some ⟨b, 0, none⟩) 1 [⟨x, []⟩] := rds_block (xs := [(⟨x, []⟩ : Edg)]) h rfl (by simp only [List.length_cons, List.length_nil, maxLen]; omega) (fun i y hi => by
    match i, hi with
    | 0, hi => cases hi; exact ⟨_, _, _, rfl, RdS.nil _ _ _ _⟩
    | i + 1, hi => simp at hi)
theorem rdE2 {w : World} {b : Nat} {x y : Int} (h : w.heap[b]? = some (Cl 41 [.int .i64 x, .slice none 0 0, .int .i64 y, .slice none 0 0])) : RdS 2 REdge w (some ⟨b, 0, none⟩) 2 [⟨x, []⟩, ⟨y, []⟩] := rds_block (xs := [(⟨x, []⟩ : Edg), ⟨y, []⟩]) h rfl (by simp only [List.length_cons, List.length_nil, maxLen]; omega) (fun i z hi => by
    match i, hi with
    | 0, hi => cases hi; exact ⟨_, _, _, rfl, RdS.nil _ _ _ _⟩
    | 1, hi => cases hi; exact ⟨_, _, _, rfl, RdS.nil _ _ _ _⟩
    | i + 2, hi => simp at hi)
abbrev insV (i : Ins) (a : Value) : List Value := [.int .i64 i.op, .int .i64 i.dst, a, .int .i64 i.num, .int .i64 i.bin, .int .i64 i.arr, .int .i64 i.fn]
theorem rdLoad {w : World} {b ba : Nat} (h : w.heap[b]? = some (Cl 37 (insV lpLoad (.slice (some ⟨ba, 0, none⟩) 1 1)))) (h1 : w.heap[ba]? = some (Cl 3 [.int .i64 1])) : RdS 7 RIns w (some ⟨b, 0, none⟩) 1 [lpLoad] := rds_block (xs := [lpLoad]) h rfl (by simp only [List.length_cons, List.length_nil, maxLen]; omega) (fun i y hi => by
    match i, hi with
    | 0, hi => cases hi; exact ⟨_, _, _, rfl, rd1 h1, Nat.le_refl _⟩
    | i + 1, hi => simp at hi)
theorem perm8 {α : Type} (a b c d e f g h : α) : [a, b, c, d, e, f, g, h].Perm (a :: ([d, f, g, h] ++ [c, b, e])) := by
  classical
  rw [List.perm_iff_count]
  intro x
  simp only [List.cons_append, List.nil_append, List.count_cons, List.count_nil]
  omega
def retV : List Value := [.slice none 0 0, .slice none 0 0, .int .i64 3, .int .i64 1, .slice none 0 0, .int .i64 0]
/-- One block more. -/
theorem blk_app {w0 w : World} {P E : List (Nat × Obj)} {a : Option Addr} {n c : Nat} {cl : List (List Value)} {bs : List Blk} {r : Rw} (hn : n = bs.length) (hbs : BsOk E cl bs) (hs : Sls 6 a n c cl.flatten r) (hlt : n ≤ 1000) {E' : List (Nat × Obj)} (hE : ∀ p ∈ E, p ∈ E') {bn : Nat} {cs : List Value} {b : Blk}
    (h : Hp w0 w ((bn, Cl 47 cs) :: (P ++ (r.L 47 cl.flatten ++ E')))) (hc : cs.length = 6) (h1 : cs.all (·.oneCell') = true) (hb : ∀ w2, Owns w2 E' → RBlock w2 cs b) :
    ∃ a' c' w' r', (Builtin.append_ #[27, 27] 27 ⟨[.slice a n c, .slice (some ⟨bn, 0, none⟩) 1 1]⟩).run Pg w = .ok (.slice a' (n + 1) c') w' ∧ Sls 6 a' (n + 1) c' (cl ++ [cs]).flatten r' ∧ BsOk E' (cl ++ [cs]) (bs ++ [b]) ∧
      Hp w0 w' (P ++ (r'.L 47 (cl ++ [cs]).flatten ++ E')) := by
  obtain ⟨a', c', w', r', h2, h3, h4⟩ := app1 (ty := 27) slBlks (by omega) hs ((bn, Cl 47 cs) :: P) (L := E') (by simpa using h) 0 rfl hc h1 (by simp only [maxLen]; omega) (by omega)
  have hf : cl.flatten ++ cs = (cl ++ [cs]).flatten := by simp
  rw [hf] at h3 h4
  exact ⟨a', c', w', r', h2, h3, hbs.snoc hE hc hb, h4.drop 1⟩
set_option maxHeartbeats 2000000 in
theorem loops_w (x1 : Int) (inside : Bool) (w : World) : CallP Pg 3 [.int .i64 x1, .bool inside] w fun v w' => v = .bool true ∧ Ext w w' := by
  obtain ⟨n, hn8, hn⟩ := and7 x1
  refine F3_ok _ _ ?_
  unfold F3
  rw [hn]
  refine (head_w w).mono ?_
  rintro _ w4 ⟨rfl, hx4⟩
  refine ⟨_, rfl, sp_false rfl ?_⟩
  refine alp (Hp.refl w4) fun b6 w7 h7 => alp h7 fun b8 w9 h9 => alp h9 fun b10 w11 h11 => ?_
  refine stp h11 0 rfl (by simp) rfl fun w12 h12 => ?_
  refine alp h12 fun b13 w14 h14 => alp h14 fun b15 w16 h16 => ?_
  refine stp h16 0 rfl (by simp) rfl fun w17 h17 => ?_
  refine alp h17 fun b18 w19 h19 => alp h19 fun b20 w21 h21 => alp h21 fun b22 w23 h23 => ?_
  refine stp h23 0 rfl (by simp) rfl fun w24 h24 => ?_
  obtain ⟨P, hP⟩ : ∃ P : List (Nat × Obj), P = [(b15, Cl 37 (insV lpLoad (.slice (some ⟨b13, 0, none⟩) 1 1))), (b10, Cl 32 [.slice (some ⟨b6, 0, none⟩) 1 1, .slice (some ⟨b8, 0, none⟩) 1 1, .int .i64 0]), (b8, Cl 29 [.string ⟨#[]⟩, .slice none 0 0]), (b6, Cl 25 [.string ⟨#[104]⟩, .int .i64 1, .int .i64 4])] := ⟨_, rfl⟩
  have h24 : Hp w4 w24 ((b22, Cl 47 [.slice none 0 0, .slice (some ⟨b18, 0, none⟩) 1 1, .int .i64 1, .int .i64 0, .slice (some ⟨b20, 0, none⟩) 1 1, .int .i64 0]) :: (P ++ [(b18, Cl 37 (insV ⟨1, 1, [], 0, 0, 0, 0⟩ (.slice none 0 0))), (b20, Cl 41 [.int .i64 1, .slice none 0 0]), (b13, Cl 3 [.int .i64 1])])) := by
    have h24 : Hp w4 w24 [(b22, Cl 47 [.slice none 0 0, .slice (some ⟨b18, 0, none⟩) 1 1, .int .i64 1, .int .i64 0, .slice (some ⟨b20, 0, none⟩) 1 1, .int .i64 0]), (b20, Cl 41 [.int .i64 1, .slice none 0 0]), (b18, Cl 37 (insV ⟨1, 1, [], 0, 0, 0, 0⟩ (.slice none 0 0))), (b15, Cl 37 (insV lpLoad (.slice (some ⟨b13, 0, none⟩) 1 1))), (b13, Cl 3 [.int .i64 1]), (b10, Cl 32 [.slice (some ⟨b6, 0, none⟩) 1 1, .slice (some ⟨b8, 0, none⟩) 1 1, .int .i64 0]), (b8, Cl 29 [.string ⟨#[]⟩, .slice none 0 0]), (b6, Cl 25 [.string ⟨#[104]⟩, .int .i64 1, .int .i64 4])] := h24
    subst hP
    exact h24.perm (perm8 _ _ _ _ _ _ _ _)
  intro K25 hK25
  have key25 : ∀ (w26 : World) (E : List (Nat × Obj)) (ai : Option Addr) (ni ci : Nat), Hp w4 w26 ((b22, Cl 47 [.slice none 0 0, .slice ai ni ci, .int .i64 1, .int .i64 0, .slice (some ⟨b20, 0, none⟩) 1 1, .int .i64 0]) :: (P ++ E)) →
      (b13, Cl 3 [.int .i64 1]) ∈ E → (∀ w2, Owns w2 E → RBlock w2 [.slice none 0 0, .slice ai ni ci, .int .i64 1, .int .i64 0, .slice (some ⟨b20, 0, none⟩) 1 1, .int .i64 0] (lpFirst inside)) → K25 w26 := by
    intro w26 E0 ai ni ci h26 hE13 hfirst
    refine hK25 _ ⟨_, _, _, _, _, _, _, _, _, _, _, _, h26.row 0 rfl, ?_⟩
    refine alp h26 fun b33 w34 h34 => ?_
    obtain ⟨c0, hc0⟩ : ∃ c : List Value, c = [.slice none 0 0, .slice ai ni ci, .int .i64 1, .int .i64 0, .slice (some ⟨b20, 0, none⟩) 1 1, .int .i64 0] := ⟨_, rfl⟩
    rw [← hc0] at h34 hfirst
    have hc6 : c0.length = 6 := by rw [hc0]; rfl
    have hL33 : (Rw.at b33 [] []).L 47 [c0].flatten = [(b33, Cl 47 c0)] := by simp [Rw.L]
    have h34 : Hp w4 w34 (P ++ ((Rw.at b33 [] []).L 47 [c0].flatten ++ E0)) := by
      rw [hL33]
      refine (h34.sub (L' := (b33, Cl 47 c0) :: (P ++ E0)) (List.Sublist.cons_cons _ (List.sublist_cons_self _ _))).perm ?_
      exact (List.perm_middle (a := (b33, Cl 47 c0)) (l₁ := P) (l₂ := E0)).symm
    refine ⟨fun ax nx cx x37 w' m => ∃ (j : Nat) (E : List (Nat × Obj)) (cl : List (List Value)) (r : Rw), x37 = ((j + 1 : Nat) : Int) ∧ j ≤ n ∧ m = n - j ∧ nx = j + 1 ∧ BsOk E cl (lpFirst inside :: lpMid j) ∧ Sls 6 ax nx cx cl.flatten r ∧ Hp w4 w' (P ++ (r.L 47 cl.flatten ++ E)) ∧ (b13, Cl 3 [.int .i64 1]) ∈ E,
      ⟨n, 0, E0, [c0], .at b33 [] [], rfl, by omega, by omega, rfl, ⟨rfl, by simp [hc6], fun i c b hi hb w2 ho => ?_⟩, ⟨by simp [hc6], rfl, by simp [hc6], by simp only [maxLen]; omega, Nat.le_refl _⟩, h34, hE13⟩, ?_⟩
    · match i, hi, hb with
      | 0, hi, hb => cases hi; cases hb; exact hfirst w2 ho
      | i + 1, hi, hb => simp at hi
    clear h34 hfirst hE13
    rintro ax nx cx x37 w38 m ⟨j, E, cl, r, rfl, hj, rfl, rfl, hbs, hs, h38, hE13⟩
    have hml : (lpFirst inside :: lpMid j).length = j + 1 := by simp [lpMid]
    refine sp_dec (fun hle => ?_) (fun hgt => ?_)
    · refine alp h38 fun b41 w42 h42 => alp h42 fun b43 w44 h44 => ?_
      have e1 : IntKind.wrap .i64 (((j + 1 : Nat) : Int) + 1) = ((j + 2 : Nat) : Int) := by rw [wrap_in (by omega) (by omega)]; omega
      rw [e1] at h44
      have h44' : Hp w4 w44 ((b43, Cl 47 [.slice none 0 0, .slice none 0 0, .int .i64 1, .int .i64 0, .slice (some ⟨b41, 0, none⟩) 1 1, .int .i64 0]) :: (P ++ (r.L 47 cl.flatten ++ ((b41, Cl 41 [.int .i64 ((j + 2 : Nat) : Int), .slice none 0 0]) :: E)))) := by
        refine h44.perm (List.Perm.cons _ ?_)
        have := List.perm_middle (a := (b41, Cl 41 [.int .i64 ((j + 2 : Nat) : Int), .slice none 0 0])) (l₁ := P ++ r.L 47 cl.flatten) (l₂ := E)
        simpa using this.symm
      obtain ⟨a', c', w46, r', hrun, hs', hbs', h46⟩ := blk_app (b := ⟨[], [], ⟨1, 0, [⟨((j + 2 : Nat) : Int), []⟩], 0⟩⟩) (by rw [hml]) hbs hs (by omega) (fun p hp => List.mem_cons_of_mem _ hp) h44' rfl rfl (fun w2 ho => ⟨_, _, _, _, _, _, _, _, _, rfl, RdS.nil _ _ _ _, RdS.nil _ _ _ _, rdE1 (ho _ List.mem_cons_self)⟩)
      rw [e1]
      refine ⟨_, _, _, w46, hrun, n - (j + 1), by omega, j + 1, _, _, r', rfl, by omega, rfl, rfl, ?_, hs', h46, List.mem_cons_of_mem _ hE13⟩
      have : lpFirst inside :: lpMid (j + 1) = (lpFirst inside :: lpMid j) ++ [⟨[], [], ⟨1, 0, [⟨((j + 2 : Nat) : Int), []⟩], 0⟩⟩] := by
        unfold lpMid
        rw [List.range_succ, List.map_append]
        rfl
      rw [this]
      exact hbs'
    have hjn : j = n := by omega
    subst hjn
    refine alp h38 fun b47 w48 h48 => ?_
    refine stp h48 0 rfl (by simp) rfl fun w49 h49 => ?_
    have h49 : Hp w4 w49 ((b47, Cl 47 [.slice none 0 0, .slice none 0 0, .int .i64 0, .int .i64 0, .slice none 0 0, .int .i64 0]) :: (P ++ (r.L 47 cl.flatten ++ E))) := h49
    intro K50 hK50
    have key50 : ∀ (w51 : World) (E : List (Nat × Obj)) (ai : Option Addr) (ni ci : Nat), Hp w4 w51 ((b47, Cl 47 [.slice none 0 0, .slice ai ni ci, .int .i64 0, .int .i64 0, .slice none 0 0, .int .i64 0]) :: (P ++ (r.L 47 cl.flatten ++ E))) → BsOk E cl (lpFirst inside :: lpMid j) →
        (∀ w2, Owns w2 E → RdS 7 RIns w2 ai ni (if inside then [lpLoad] else [])) → K50 w51 := by
      intro w51 E ai ni ci h51 hbs hins
      refine hK50 _ ?_
      have e2 : IntKind.wrap .i64 ((j : Int) + 2) = ((j + 2 : Nat) : Int) := by rw [wrap_in (by omega) (by omega)]; omega
      rw [e2]
      refine alp h51 fun b52 w53 h53 => ?_
      refine stp h53 1 rfl (by simp) rfl fun w54 h54 => ?_
      have h54 : Hp w4 w54 ((b52, Cl 41 [.int .i64 ((j + 2 : Nat) : Int), .slice none 0 0, .int .i64 ((j + 2 : Nat) : Int), .slice none 0 0]) :: (b47, Cl 47 [.slice none 0 0, .slice ai ni ci, .int .i64 2, .int .i64 2, .slice (some ⟨b52, 0, none⟩) 2 2, .int .i64 0]) :: (P ++ (r.L 47 cl.flatten ++ E))) := h54
      refine ⟨_, _, _, _, _, _, _, _, _, _, _, _, h54.row 1 rfl, ?_⟩
      refine alp h54 fun b61 w62 h62 => ?_
      have h62' : Hp w4 w62 ((b61, Cl 47 [.slice none 0 0, .slice ai ni ci, .int .i64 2, .int .i64 2, .slice (some ⟨b52, 0, none⟩) 2 2, .int .i64 0]) :: (P ++ (r.L 47 cl.flatten ++ ((b52, Cl 41 [.int .i64 ((j + 2 : Nat) : Int), .slice none 0 0, .int .i64 ((j + 2 : Nat) : Int), .slice none 0 0]) :: E)))) := by
        have h2 := h62.sub (L' := (b61, Cl 47 [.slice none 0 0, .slice ai ni ci, .int .i64 2, .int .i64 2, .slice (some ⟨b52, 0, none⟩) 2 2, .int .i64 0]) :: (b52, Cl 41 [.int .i64 ((j + 2 : Nat) : Int), .slice none 0 0, .int .i64 ((j + 2 : Nat) : Int), .slice none 0 0]) :: (P ++ (r.L 47 cl.flatten ++ E)))
          (List.Sublist.cons_cons _ (List.Sublist.cons_cons _ (List.sublist_cons_self _ _)))
        refine h2.perm (List.Perm.cons _ ?_)
        have := List.perm_middle (a := (b52, Cl 41 [.int .i64 ((j + 2 : Nat) : Int), .slice none 0 0, .int .i64 ((j + 2 : Nat) : Int), .slice none 0 0])) (l₁ := P ++ r.L 47 cl.flatten) (l₂ := E)
        simpa using this.symm
      obtain ⟨a', c', w64, r', hrun, hs', hbs', h64⟩ := blk_app (b := lpBody j inside) (by rw [hml]) hbs hs (by omega) (fun p hp => List.mem_cons_of_mem _ hp) h62' rfl rfl
        (fun w2 ho => ⟨_, _, _, _, _, _, _, _, _, rfl, RdS.nil _ _ _ _, hins w2 (fun p hp => ho p (by simp [hp])), rdE2 (ho _ List.mem_cons_self)⟩)
      refine ⟨_, _, _, w64, hrun, ?_⟩
      refine ⟨fun ax nx cx x67 w' m => ∃ (i : Nat) (E : List (Nat × Obj)) (cl : List (List Value)) (bs : List Blk) (r : Rw), x67 = (i : Int) ∧ m = i ∧ nx = bs.length ∧ BsOk E cl bs ∧ Sls 6 ax nx cx cl.flatten r ∧ Hp w4 w' (P ++ (r.L 47 cl.flatten ++ E)) ∧ bs ++ lpTail i bs.length ++ [⟨[], [], ⟨3, 1, [], 0⟩⟩] = lpBlocks j inside,
        ⟨j, j, _, _, _, r', rfl, rfl, by simp [lpMid], hbs', hs', h64, by simp [lpBlocks, lpMid]⟩, ?_⟩
      clear hs' hbs' h64 h62 h62' h54 h53 h51 hbs
      rintro ax nx cx x67 w68 m ⟨i, E, cl, bs, r, rfl, rfl, rfl, hbs, hs, h68, hall⟩
      have hlen := congrArg List.length hall
      rw [lpBlocks_len] at hlen
      simp only [List.length_append, List.length_cons, List.length_nil, lpTail_len] at hlen
      refine sp_dec (fun hle => ?_) (fun hgt => ?_)
      · obtain ⟨i, rfl⟩ : ∃ k, m = k + 1 := ⟨m - 1, by omega⟩
        rw [lpTail] at hall
        have e3 : IntKind.wrap .i64 ((bs.length : Nat) + 1 : Int) = ((bs.length + 1 : Nat) : Int) := by rw [wrap_in (by omega) (by omega)]; omega
        have e4 : IntKind.wrap .i64 (((i + 1 : Nat) : Int) - 1) = (i : Int) := by rw [wrap_in (by omega) (by omega)]; omega
        rw [e3, e4]
        refine alp h68 fun b71 w72 h72 => alp h72 fun b73 w74 h74 => ?_
        have h74' : Hp w4 w74 ((b73, Cl 47 [.slice none 0 0, .slice none 0 0, .int .i64 2, .int .i64 1, .slice (some ⟨b71, 0, none⟩) 2 2, .int .i64 0]) :: (P ++ (r.L 47 cl.flatten ++ ((b71, Cl 41 [.int .i64 ((i + 1 : Nat) : Int), .slice none 0 0, .int .i64 ((bs.length + 1 : Nat) : Int), .slice none 0 0]) :: E)))) := by
          refine h74.perm (List.Perm.cons _ ?_)
          have := List.perm_middle (a := (b71, Cl 41 [.int .i64 ((i + 1 : Nat) : Int), .slice none 0 0, .int .i64 ((bs.length + 1 : Nat) : Int), .slice none 0 0])) (l₁ := P ++ r.L 47 cl.flatten) (l₂ := E)
          simpa using this.symm
        obtain ⟨a', c', w76, r', hrun, hs', hbs', h76⟩ := blk_app (b := ⟨[], [], ⟨2, 1, [⟨((i + 1 : Nat) : Int), []⟩, ⟨((bs.length + 1 : Nat) : Int), []⟩], 0⟩⟩) rfl hbs hs (by omega) (fun p hp => List.mem_cons_of_mem _ hp) h74' rfl rfl
          (fun w2 ho => ⟨_, _, _, _, _, _, _, _, _, rfl, RdS.nil _ _ _ _, RdS.nil _ _ _ _, rdE2 (ho _ List.mem_cons_self)⟩)
        refine ⟨_, _, _, w76, hrun, i, by omega, i, _, _, _, r', rfl, rfl, by simp, hbs', hs', h76, ?_⟩
        rw [← hall]; simp
      have hi0 : m = 0 := by omega
      subst hi0
      refine alp h68 fun b77 w78 h78 => ?_
      obtain ⟨a', c', w80, r', hrun, hs', hbs', h80⟩ := blk_app (cs := retV) (b := ⟨[], [], ⟨3, 1, [], 0⟩⟩) rfl hbs hs (by omega) (fun p hp => hp) h78 rfl rfl
        (fun w2 ho => ⟨_, _, _, _, _, _, _, _, _, rfl, RdS.nil _ _ _ _, RdS.nil _ _ _ _, RdS.nil _ _ _ _⟩)
      rw [lpTail, List.append_nil] at hall
      rw [hall] at hbs'
      have hnl : bs.length + 1 = 2 * j + 3 := by omega
      rw [hnl] at hrun hs'
      refine ⟨_, _, _, w80, hrun, _, _, _, by subst hP; exact h80.cl 1 rfl rfl, by omega, by omega, ptAt_of rfl ?_⟩
      rw [hP] at h80
      refine stp h80 2 rfl (by simp) rfl fun w84 h84 => ?_
      have h84 : Hp w4 w84 ([(b15, Cl 37 (insV lpLoad (.slice (some ⟨b13, 0, none⟩) 1 1))), (b10, Cl 32 [.slice (some ⟨b6, 0, none⟩) 1 1, .slice (some ⟨b8, 0, none⟩) 1 1, .int .i64 0]), (b8, Cl 29 [.string ⟨#[]⟩, .slice a' (2 * j + 3) c']), (b6, Cl 25 [.string ⟨#[104]⟩, .int .i64 1, .int .i64 4])] ++ (r'.L 47 (cl ++ [retV]).flatten ++ E)) := h84
      have hblocks : RdBlocks w84 a' (2 * j + 3) (lpBlocks j inside) := by
        refine Sls.rd hs' _ h84 (lpBlocks_len j inside) fun i b hi => ?_
        have hil := (List.getElem?_eq_some_iff.1 hi).1
        obtain ⟨c, hc⟩ := at_some (l := cl ++ [retV]) (j := i) (by rw [hbs'.len]; exact hil)
        rw [flatten_at6 hbs'.six hc]
        exact hbs'.ok i c b hc hi w84 fun p hp => (h84.own p (by simp [hp])).2
      have hprog : RProg w84 [.slice (some ⟨b6, 0, none⟩) 1 1, .slice (some ⟨b8, 0, none⟩) 1 1, .int .i64 0] (lpProg j inside) := by
        refine ⟨_, _, _, _, _, _, rfl, rds_block (xs := (lpProg j inside).arrs) (h84.at 3 rfl) rfl (by simp only [lpProg, List.length_cons, List.length_nil, maxLen]; omega) ?_, rds_block (xs := (lpProg j inside).funcs) (h84.at 2 rfl) rfl (by simp only [lpProg, List.length_cons, List.length_nil, maxLen]; omega) ?_⟩
        · intro i x hi
          match i, hi with
          | 0, hi => cases hi; rfl
          | i + 1, hi => simp [lpProg] at hi
        · intro i x hi
          match i, hi with
          | 0, hi => cases hi; exact ⟨_, _, _, rfl, hblocks⟩
          | i + 1, hi => simp [lpProg] at hi
      refine ⟨_, _, _, _, _, _, _, h84.row 1 rfl, ?_⟩
      refine (of_chk_w hprog (lp_chk j hn8 inside)).mono ?_
      rintro _ w89 ⟨us, rfl, hpl, hx89⟩
      obtain ⟨ac, cc, ag, ng, cg, rfl, hcut, hg⟩ := hpl
      have hgn : ng = 0 := hg.len.symm
      subst hgn
      refine ⟨_, _, _, _, _, _, _, _, rfl, ?_⟩
      refine alp (Hp.refl w89) fun b94 w95 h95 => ?_
      refine stp h95 0 rfl (by simp) rfl fun w96 h96 => ?_
      have h96 : Hp w89 w96 [(b94, Cl 51 [.slice ac 1 cc, .slice ag 0 cg, .int .i64 (lpWant j inside)])] := h96
      have hx96 : Ext w w96 := hx4.trans (h84.ext.trans (hx89.trans h96.ext))
      have hcut96 := RCuts.ext hcut h96.ext
      have hp96 : RPlan w96 [.slice ac 1 cc, .slice ag 0 cg, .int .i64 (lpWant j inside)] 1 (fun k => ([[2]] : List (List Int)).getD k []) [] (lpWant j inside) := ⟨ac, cc, ag, 0, cg, rfl, hcut96, RdPlc.ext hg h96.ext⟩
      have hfin : ∀ x98 : Int, x98 = lpWant j inside →
          sp (decide ((0 : Int) = 0))
          (sp (decide (((2 * j + 3 : Nat) : Int) = IntKind.wrap .i64 ((IntKind.wrap .i64 (((j + 2 : Nat) : Int) + (j : Int))) + 1)))
          (∃ (x105 : Int), cel w96 b94 2 = some (.int .i64 x105) ∧
          sp (decide ((x105 : Int) = x98))
          (∃ (ax106 : Option Addr) (nx106 cx106 : Nat) (ax107 : Option Addr) (nx107 cx107 : Nat) (x108 : Int), Row w96 b94 0 [.slice ax106 nx106 cx106, .slice ax107 nx107 cx107, .int .i64 x108] ∧
          CallP Pg 8 [.agg ⟨[.slice ax106 nx106 cx106, .slice ax107 nx107 cx107, .int .i64 x108]⟩] w96 fun v109 w110 => ∃ (x111 : Int), v109 = .int .i64 x111 ∧
          sp (decide ((x111 : Int) = 1))
          (∃ (ax112 : Option Addr) (nx112 cx112 : Nat), cel w110 b94 0 = some (.slice ax112 nx112 cx112) ∧
          0 ≤ (0 : Int) ∧ (0 : Int) < (nx112 : Nat) ∧
          ptAt ax112 fun b113 o114 =>
          ∃ (x115 : Option Nat), cel w110 b113 o114 = some (.map x115) ∧
          ∃ (x116 : Bool), Sem.run Pg (Instr.lookup 56 (.map x115) (.int .i64 2) false) w110 = .ok (.bool x116) w110 ∧
          (Value.bool x116 = .bool true ∧ Ext w w110))
          (Value.bool false = .bool true ∧ Ext w w110))
          (Value.bool false = .bool true ∧ Ext w w96))
          (Value.bool false = .bool true ∧ Ext w w96))
          (Value.bool false = .bool true ∧ Ext w w96) := by
        intro x98 hx98
        have e5 : IntKind.wrap .i64 (((j + 2 : Nat) : Int) + (j : Int)) = ((2 * j + 2 : Nat) : Int) := by rw [wrap_in (by omega) (by omega)]; omega
        have e6 : IntKind.wrap .i64 (((2 * j + 2 : Nat) : Int) + 1) = ((2 * j + 3 : Nat) : Int) := by rw [wrap_in (by omega) (by omega)]; omega
        rw [e5, e6]
        refine sp_true rfl (sp_true (by simp) ⟨_, h96.cl 0 rfl rfl, sp_true (by simp [hx98]) ⟨_, _, _, _, _, _, _, h96.row 0 rfl, ?_⟩⟩)
        refine (fences_w hp96 (by omega) (fun k hk => by
          have : k = 0 := by omega
          subst this; decide) (by decide)).mono ?_
        rintro _ w110 ⟨rfl, hx110⟩
        refine ⟨_, rfl, sp_true rfl ⟨_, _, _, hx110.cel (h96.cl 0 rfl rfl), by omega, by omega, ?_⟩⟩
        obtain ⟨bb, ob, mb, oo, ha, hc, hob, hmp⟩ := RCuts.ext hcut96 hx110 0 Nat.one_pos
        refine ptAt_of ha ⟨_, by simpa using hc, true, ?_, rfl, hx96.trans hx110⟩
        have := look_map (t := 56) mpCut (z := .bool false) (by kernel_rfl) (p := some mb) (f := fun k => mget (trues [2]) k) ⟨oo, hob, _, hmp, fun _ => rfl⟩ 2
        exact this
      have hwant : lpWant j inside = 10 ^ (if inside then min j 4 else 0) := by unfold lpWant; cases inside <;> rfl
      rw [hwant] at hfin
      obtain ⟨top, htop⟩ : ∃ t, t = (if inside then min j 4 else 0) := ⟨_, rfl⟩
      rw [← htop] at hfin
      have htop4 : top ≤ 4 := by rw [htop]; split <;> omega
      refine ⟨fun x98 x99 w' m => ∃ i : Nat, w' = w96 ∧ x99 = (i : Int) ∧ x98 = 10 ^ i ∧ i ≤ top ∧ m = top - i, ⟨top, 0, rfl, rfl, rfl, by omega, by omega⟩, ?_⟩
      rintro x98 x99 w100 m ⟨i, rfl, rfl, rfl, hi, rfl⟩
      intro K103 hK103
      have e2' : IntKind.wrap .i64 ((j : Int) + 2) = ((j + 2 : Nat) : Int) := e2
      refine sp_dec (fun hij => sp_dec (fun hi4 => sp_of (fun hin => ?_) (fun hin => hfin _ ?_)) (fun hi4 => hfin _ ?_)) (fun hij => hfin _ ?_)
      · rw [hin] at htop
        simp only [if_true] at htop
        refine hK103 _ ⟨top - (i + 1), by omega, i + 1, rfl, wrap_succ (by simp only [maxLen]; omega), ?_, by omega, rfl⟩
        have hi3 : i ≤ 3 := by omega
        match i, hi3 with
        | 0, _ => decide
        | 1, _ => decide
        | 2, _ => decide
        | 3, _ => decide
      · rw [hin] at htop
        simp at htop
        have : i = top := by omega
        rw [this]
      · have : i = top := by
          have : top = min j 4 ∨ top = 0 := by rw [htop]; cases inside <;> simp
          omega
        rw [this]
      · have : i = top := by
          have : top = min j 4 ∨ top = 0 := by rw [htop]; cases inside <;> simp
          omega
        rw [this]
    refine sp_of (fun hin => ?_) (fun hin => key50 w49 E none 0 0 h49 hbs fun w2 _ => by rw [hin]; exact RdS.nil _ _ _ _)
    refine ⟨_, _, _, _, _, _, _, _, _, by subst hP; exact h49.row 1 rfl, ?_⟩
    refine alp h49 fun b148 w149 h149 => ?_
    refine stp h149 1 rfl (by simp) rfl fun w150 h150 => ?_
    refine key50 w150 ((b148, Cl 37 (insV lpLoad (.slice (some ⟨b13, 0, none⟩) 1 1))) :: E) (some ⟨b148, 0, none⟩) 1 1 ?_ ⟨hbs.len, hbs.six, fun i c b hi hb w2 ho => hbs.ok i c b hi hb w2 fun p hp => ho p (by simp [hp])⟩ (fun w2 ho => ?_)
    · have h150 : Hp w4 w150 ((b148, Cl 37 (insV lpLoad (.slice (some ⟨b13, 0, none⟩) 1 1))) :: (b47, Cl 47 [.slice none 0 0, .slice (some ⟨b148, 0, none⟩) 1 1, .int .i64 0, .int .i64 0, .slice none 0 0, .int .i64 0]) :: (P ++ (r.L 47 cl.flatten ++ E))) := h150
      refine h150.perm ?_
      have := List.perm_middle (a := (b148, Cl 37 (insV lpLoad (.slice (some ⟨b13, 0, none⟩) 1 1)))) (l₁ := (b47, Cl 47 [.slice none 0 0, .slice (some ⟨b148, 0, none⟩) 1 1, .int .i64 0, .int .i64 0, .slice none 0 0, .int .i64 0]) :: (P ++ r.L 47 cl.flatten)) (l₂ := E)
      simpa using this.symm
    · rw [hin]
      exact rdLoad (ho _ List.mem_cons_self) (ho _ (List.mem_cons_of_mem _ hE13))
  refine sp_of (fun hin => ?_) (fun hin => ?_)
  · have hin : inside = false := by simpa using hin
    refine ⟨_, _, _, h24.cl 0 rfl rfl, _, _, _, _, _, _, _, _, _, by subst hP; exact h24.row 1 rfl, ?_⟩
    refine alp h24 fun b159 w160 h160 => ?_
    have hs0 : Sls 7 (some ⟨b18, 0, none⟩) 1 1 (insV ⟨1, 1, [], 0, 0, 0, 0⟩ (.slice none 0 0)) (.at b18 [] []) := ⟨rfl, rfl, rfl, by simp only [maxLen]; omega, Nat.le_refl _⟩
    obtain ⟨B22, hB22⟩ : ∃ B : Nat × Obj, B = (b22, Cl 47 [.slice none 0 0, .slice (some ⟨b18, 0, none⟩) 1 1, .int .i64 1, .int .i64 0, .slice (some ⟨b20, 0, none⟩) 1 1, .int .i64 0]) := ⟨_, rfl⟩
    rw [← hB22] at h160
    obtain ⟨a', c', w162, r', hrun, hs', h162⟩ := app1 (ty := 38) slInss (by omega) hs0 ((b159, Cl 37 (insV lpLoad (.slice (some ⟨b13, 0, none⟩) 1 1))) :: B22 :: P) (L := [(b20, Cl 41 [.int .i64 1, .slice none 0 0]), (b13, Cl 3 [.int .i64 1])]) (by simpa [Rw.L] using h160) 0 rfl rfl rfl (by simp only [maxLen]; omega) (by omega)
    refine ⟨_, _, _, w162, hrun, ?_⟩
    rw [hB22] at h162
    refine stp h162 1 rfl (by simp) rfl fun w163 h163 => ?_
    have h163 : Hp w4 w163 ((b159, Cl 37 (insV lpLoad (.slice (some ⟨b13, 0, none⟩) 1 1))) :: (b22, Cl 47 [.slice none 0 0, .slice a' 2 c', .int .i64 1, .int .i64 0, .slice (some ⟨b20, 0, none⟩) 1 1, .int .i64 0]) :: (P ++ (r'.L 37 (insV ⟨1, 1, [], 0, 0, 0, 0⟩ (.slice none 0 0) ++ insV lpLoad (.slice (some ⟨b13, 0, none⟩) 1 1)) ++ [(b20, Cl 41 [.int .i64 1, .slice none 0 0]), (b13, Cl 3 [.int .i64 1])]))) := h163
    refine key25 w163 (r'.L 37 (insV ⟨1, 1, [], 0, 0, 0, 0⟩ (.slice none 0 0) ++ insV lpLoad (.slice (some ⟨b13, 0, none⟩) 1 1)) ++ [(b20, Cl 41 [.int .i64 1, .slice none 0 0]), (b13, Cl 3 [.int .i64 1])]) a' 2 c' (h163.drop 1) (by simp) fun w2 ho => ?_
    have h13 := ho (b13, Cl 3 [.int .i64 1]) (by simp)
    refine ⟨_, _, _, _, _, _, _, _, _, rfl, RdS.nil _ _ _ _, ?_, rdE1 (ho (b20, Cl 41 [.int .i64 1, .slice none 0 0]) (by simp))⟩
    rw [lpFirst, hin]
    refine ⟨rfl, by simp only [maxLen]; omega, fun i x hi => ?_⟩
    have hrow : ∀ (k : Nat) (us : List Value), ((insV ⟨1, 1, [], 0, 0, 0, 0⟩ (.slice none 0 0) ++ insV lpLoad (.slice (some ⟨b13, 0, none⟩) 1 1)).drop (k * 7)).take 7 = us → us.length = 7 → ∃ bb oo, a' = some ⟨bb, oo, none⟩ ∧ Row w2 bb (oo + k * 7) us := by
      intro k us hus hl7
      have hbo : ∃ bb oo, a' = some ⟨bb, oo, none⟩ := by
        obtain ⟨bb, oo, e, _⟩ := hs'.cel_owns (w := w2) (e := 37) (fun p hp => ho p (List.mem_append_left _ hp)) (j := 0) rfl
        exact ⟨bb, oo, e⟩
      obtain ⟨bb, oo, e⟩ := hbo
      refine ⟨bb, oo, e, fun q v hq => ?_⟩
      have hq7 : q < 7 := by rw [← hl7]; exact (List.getElem?_eq_some_iff.1 hq).1
      rw [← hus, List.getElem?_take, if_pos hq7, List.getElem?_drop] at hq
      obtain ⟨b2, o2, e2, hc⟩ := hs'.cel_owns (w := w2) (e := 37) (fun p hp => ho p (List.mem_append_left _ hp)) (j := k * 7 + q) hq
      rw [e] at e2
      cases e2
      rw [Nat.add_assoc]
      exact hc
    match i, hi with
    | 0, hi =>
      cases hi
      obtain ⟨bb, oo, e, hr⟩ := hrow 0 (insV ⟨1, 1, [], 0, 0, 0, 0⟩ (.slice none 0 0)) rfl rfl
      exact ⟨bb, oo, _, e, hr, rfl, _, _, _, rfl, RdS.nil _ _ _ _, Nat.le_refl _⟩
    | 1, hi =>
      cases hi
      obtain ⟨bb, oo, e, hr⟩ := hrow 1 (insV lpLoad (.slice (some ⟨b13, 0, none⟩) 1 1)) rfl rfl
      exact ⟨bb, oo, _, e, hr, rfl, _, _, _, rfl, rd1 h13, Nat.le_refl _⟩
    | i + 2, hi => simp at hi
  · have hin : inside = true := by simpa using hin
    refine key25 w24 _ _ _ _ h24 (by simp) fun w2 ho => ?_
    refine ⟨_, _, _, _, _, _, _, _, _, rfl, RdS.nil _ _ _ _, ?_, rdE1 (ho (b20, Cl 41 [.int .i64 1, .slice none 0 0]) (by simp))⟩
    rw [lpFirst, hin]
    exact rds_block (xs := [(⟨1, 1, [], 0, 0, 0, 0⟩ : Ins)]) (ho (b18, Cl 37 (insV ⟨1, 1, [], 0, 0, 0, 0⟩ (.slice none 0 0))) (by simp)) rfl (by simp only [List.length_cons, List.length_nil, maxLen]; omega) (fun i x hi => by
      match i, hi with
      | 0, hi => cases hi; exact ⟨_, _, _, rfl, RdS.nil _ _ _ _, Nat.le_refl _⟩
      | i + 1, hi => simp at hi)
end Go.Pl.Try
