/- The table of types is the program's. | The tables are the program's (but for == of arrays and structs). -/
import Derived.Test.YtgpkpheejefiiaaGreatDoorX12
import Derived.ChangeKeysEq
section
set_option linter.unusedVariables false
set_option maxRecDepth 100000
namespace Go.Proofs.YtgpkpheejefiiaaGreatDoor
open Go.RowKit
def TyOK (t : Nat) (x : TypeInfo × TypeInfo) : Prop := Tryz.prog.info? t = some x.1 ∧ Tryz.prog.underlying t = some x.2.desc
theorem ndT {c : Bool} {a b : Option (TypeInfo × TypeInfo)} {Q : TypeInfo × TypeInfo → Prop} (ha : ∀ g, a = some g → Q g) (hb : ∀ g, b = some g → Q g) : ∀ g, bI c a b = some g → Q g := by
  cases c
  · exact hb
  · exact ha
theorem lfT {f k : Nat} {x : TypeInfo × TypeInfo} (h : TyOK k x) : ∀ g, bI (Nat.beq f k) (some x) none = some g → TyOK f g := by
  intro g hg
  have hq := bI_some hg
  have e1 : f = k := Nat.eq_of_beq_eq_true hq.1
  have e2 : x = g := Option.some.inj hq.2
  rw [e1, ← e2]
  exact h
theorem y0 : TyOK 0 (Tryz.t0, Tryz.t0) := ⟨by kernel_rfl, by first | exact Tryz.underlying0 | kernel_rfl⟩
theorem y1 : TyOK 1 (Tryz.t1, Tryz.t1) := ⟨by kernel_rfl, by first | exact Tryz.underlying1 | kernel_rfl⟩
theorem y2 : TyOK 2 (Tryz.t2, Tryz.t2) := ⟨by kernel_rfl, by first | exact Tryz.underlying2 | kernel_rfl⟩
theorem y3 : TyOK 3 (Tryz.t3, Tryz.t3) := ⟨by kernel_rfl, by first | exact Tryz.underlying3 | kernel_rfl⟩
theorem y4 : TyOK 4 (Tryz.t4, Tryz.t4) := ⟨by kernel_rfl, by first | exact Tryz.underlying4 | kernel_rfl⟩
theorem y5 : TyOK 5 (Tryz.t5, Tryz.t5) := ⟨by kernel_rfl, by first | exact Tryz.underlying5 | kernel_rfl⟩
theorem y6 : TyOK 6 (Tryz.t6, Tryz.t5) := ⟨by kernel_rfl, by first | exact Tryz.underlying6 | kernel_rfl⟩
theorem y7 : TyOK 7 (Tryz.t7, Tryz.t7) := ⟨by kernel_rfl, by first | exact Tryz.underlying7 | kernel_rfl⟩
theorem y8 : TyOK 8 (Tryz.t8, Tryz.t7) := ⟨by kernel_rfl, by first | exact Tryz.underlying8 | kernel_rfl⟩
theorem y9 : TyOK 9 (Tryz.t9, Tryz.t9) := ⟨by kernel_rfl, by first | exact Tryz.underlying9 | kernel_rfl⟩
theorem y10 : TyOK 10 (Tryz.t10, Tryz.t9) := ⟨by kernel_rfl, by first | exact Tryz.underlying10 | kernel_rfl⟩
theorem y11 : TyOK 11 (Tryz.t11, Tryz.t9) := ⟨by kernel_rfl, by first | exact Tryz.underlying11 | kernel_rfl⟩
theorem y12 : TyOK 12 (Tryz.t12, Tryz.t12) := ⟨by kernel_rfl, by first | exact Tryz.underlying12 | kernel_rfl⟩
theorem y13 : TyOK 13 (Tryz.t13, Tryz.t13) := ⟨by kernel_rfl, by first | exact Tryz.underlying13 | kernel_rfl⟩
theorem y14 : TyOK 14 (Tryz.t14, Tryz.t13) := ⟨by kernel_rfl, by first | exact Tryz.underlying14 | kernel_rfl⟩
theorem y15 : TyOK 15 (Tryz.t15, Tryz.t15) := ⟨by kernel_rfl, by first | exact Tryz.underlying15 | kernel_rfl⟩
theorem y16 : TyOK 16 (Tryz.t16, Tryz.t16) := ⟨by kernel_rfl, by first | exact Tryz.underlying16 | kernel_rfl⟩
theorem y17 : TyOK 17 (Tryz.t17, Tryz.t17) := ⟨by kernel_rfl, by first | exact Tryz.underlying17 | kernel_rfl⟩
theorem y18 : TyOK 18 (Tryz.t18, Tryz.t18) := ⟨by kernel_rfl, by first | exact Tryz.underlying18 | kernel_rfl⟩
theorem y19 : TyOK 19 (Tryz.t19, Tryz.t18) := ⟨by kernel_rfl, by first | exact Tryz.underlying19 | kernel_rfl⟩
theorem y20 : TyOK 20 (Tryz.t20, Tryz.t20) := ⟨by kernel_rfl, by first | exact Tryz.underlying20 | kernel_rfl⟩
theorem y21 : TyOK 21 (Tryz.t21, Tryz.t21) := ⟨by kernel_rfl, by first | exact Tryz.underlying21 | kernel_rfl⟩
theorem y22 : TyOK 22 (Tryz.t22, Tryz.t22) := ⟨by kernel_rfl, by first | exact Tryz.underlying22 | kernel_rfl⟩
theorem y23 : TyOK 23 (Tryz.t23, Tryz.t22) := ⟨by kernel_rfl, by first | exact Tryz.underlying23 | kernel_rfl⟩
theorem y24 : TyOK 24 (Tryz.t24, Tryz.t24) := ⟨by kernel_rfl, by first | exact Tryz.underlying24 | kernel_rfl⟩
theorem y25 : TyOK 25 (Tryz.t25, Tryz.t25) := ⟨by kernel_rfl, by first | exact Tryz.underlying25 | kernel_rfl⟩
theorem y26 : TyOK 26 (Tryz.t26, Tryz.t26) := ⟨by kernel_rfl, by first | exact Tryz.underlying26 | kernel_rfl⟩
theorem y27 : TyOK 27 (Tryz.t27, Tryz.t27) := ⟨by kernel_rfl, by first | exact Tryz.underlying27 | kernel_rfl⟩
theorem y28 : TyOK 28 (Tryz.t28, Tryz.t28) := ⟨by kernel_rfl, by first | exact Tryz.underlying28 | kernel_rfl⟩
theorem y29 : TyOK 29 (Tryz.t29, Tryz.t28) := ⟨by kernel_rfl, by first | exact Tryz.underlying29 | kernel_rfl⟩
theorem y30 : TyOK 30 (Tryz.t30, Tryz.t30) := ⟨by kernel_rfl, by first | exact Tryz.underlying30 | kernel_rfl⟩
theorem y31 : TyOK 31 (Tryz.t31, Tryz.t30) := ⟨by kernel_rfl, by first | exact Tryz.underlying31 | kernel_rfl⟩
theorem y32 : TyOK 32 (Tryz.t32, Tryz.t32) := ⟨by kernel_rfl, by first | exact Tryz.underlying32 | kernel_rfl⟩
theorem y33 : TyOK 33 (Tryz.t33, Tryz.t33) := ⟨by kernel_rfl, by first | exact Tryz.underlying33 | kernel_rfl⟩
theorem y34 : TyOK 34 (Tryz.t34, Tryz.t34) := ⟨by kernel_rfl, by first | exact Tryz.underlying34 | kernel_rfl⟩
theorem y35 : TyOK 35 (Tryz.t35, Tryz.t35) := ⟨by kernel_rfl, by first | exact Tryz.underlying35 | kernel_rfl⟩
theorem y36 : TyOK 36 (Tryz.t36, Tryz.t35) := ⟨by kernel_rfl, by first | exact Tryz.underlying36 | kernel_rfl⟩
theorem y37 : TyOK 37 (Tryz.t37, Tryz.t37) := ⟨by kernel_rfl, by first | exact Tryz.underlying37 | kernel_rfl⟩
theorem y38 : TyOK 38 (Tryz.t38, Tryz.t38) := ⟨by kernel_rfl, by first | exact Tryz.underlying38 | kernel_rfl⟩
theorem y39 : TyOK 39 (Tryz.t39, Tryz.t39) := ⟨by kernel_rfl, by first | exact Tryz.underlying39 | kernel_rfl⟩
theorem y40 : TyOK 40 (Tryz.t40, Tryz.t40) := ⟨by kernel_rfl, by first | exact Tryz.underlying40 | kernel_rfl⟩
theorem y41 : TyOK 41 (Tryz.t41, Tryz.t40) := ⟨by kernel_rfl, by first | exact Tryz.underlying41 | kernel_rfl⟩
theorem y42 : TyOK 42 (Tryz.t42, Tryz.t3) := ⟨by kernel_rfl, by first | exact Tryz.underlying42 | kernel_rfl⟩
theorem y43 : TyOK 43 (Tryz.t43, Tryz.t43) := ⟨by kernel_rfl, by first | exact Tryz.underlying43 | kernel_rfl⟩
theorem y44 : TyOK 44 (Tryz.t44, Tryz.t44) := ⟨by kernel_rfl, by first | exact Tryz.underlying44 | kernel_rfl⟩
theorem y45 : TyOK 45 (Tryz.t45, Tryz.t45) := ⟨by kernel_rfl, by first | exact Tryz.underlying45 | kernel_rfl⟩
theorem y46 : TyOK 46 (Tryz.t46, Tryz.t46) := ⟨by kernel_rfl, by first | exact Tryz.underlying46 | kernel_rfl⟩
theorem y47 : TyOK 47 (Tryz.t47, Tryz.t47) := ⟨by kernel_rfl, by first | exact Tryz.underlying47 | kernel_rfl⟩
theorem y48 : TyOK 48 (Tryz.t48, Tryz.t48) := ⟨by kernel_rfl, by first | exact Tryz.underlying48 | kernel_rfl⟩
theorem y49 : TyOK 49 (Tryz.t49, Tryz.t49) := ⟨by kernel_rfl, by first | exact Tryz.underlying49 | kernel_rfl⟩
theorem y50 : TyOK 50 (Tryz.t50, Tryz.t50) := ⟨by kernel_rfl, by first | exact Tryz.underlying50 | kernel_rfl⟩
theorem y51 : TyOK 51 (Tryz.t51, Tryz.t50) := ⟨by kernel_rfl, by first | exact Tryz.underlying51 | kernel_rfl⟩
theorem y52 : TyOK 52 (Tryz.t52, Tryz.t52) := ⟨by kernel_rfl, by first | exact Tryz.underlying52 | kernel_rfl⟩
theorem y53 : TyOK 53 (Tryz.t53, Tryz.t53) := ⟨by kernel_rfl, by first | exact Tryz.underlying53 | kernel_rfl⟩
theorem y54 : TyOK 54 (Tryz.t54, Tryz.t54) := ⟨by kernel_rfl, by first | exact Tryz.underlying54 | kernel_rfl⟩
theorem y55 : TyOK 55 (Tryz.t55, Tryz.t55) := ⟨by kernel_rfl, by first | exact Tryz.underlying55 | kernel_rfl⟩
theorem y56 : TyOK 56 (Tryz.t56, Tryz.t56) := ⟨by kernel_rfl, by first | exact Tryz.underlying56 | kernel_rfl⟩
theorem y57 : TyOK 57 (Tryz.t57, Tryz.t56) := ⟨by kernel_rfl, by first | exact Tryz.underlying57 | kernel_rfl⟩
theorem y58 : TyOK 58 (Tryz.t58, Tryz.t58) := ⟨by kernel_rfl, by first | exact Tryz.underlying58 | kernel_rfl⟩
theorem y59 : TyOK 59 (Tryz.t59, Tryz.t59) := ⟨by kernel_rfl, by first | exact Tryz.underlying59 | kernel_rfl⟩
theorem y60 : TyOK 60 (Tryz.t60, Tryz.t60) := ⟨by kernel_rfl, by first | exact Tryz.underlying60 | kernel_rfl⟩
theorem y61 : TyOK 61 (Tryz.t61, Tryz.t61) := ⟨by kernel_rfl, by first | exact Tryz.underlying61 | kernel_rfl⟩
theorem y62 : TyOK 62 (Tryz.t62, Tryz.t62) := ⟨by kernel_rfl, by first | exact Tryz.underlying62 | kernel_rfl⟩
theorem y63 : TyOK 63 (Tryz.t63, Tryz.t63) := ⟨by kernel_rfl, by first | exact Tryz.underlying63 | kernel_rfl⟩
theorem y64 : TyOK 64 (Tryz.t64, Tryz.t64) := ⟨by kernel_rfl, by first | exact Tryz.underlying64 | kernel_rfl⟩
theorem y65 : TyOK 65 (Tryz.t65, Tryz.t65) := ⟨by kernel_rfl, by first | exact Tryz.underlying65 | kernel_rfl⟩
theorem y66 : TyOK 66 (Tryz.t66, Tryz.t66) := ⟨by kernel_rfl, by first | exact Tryz.underlying66 | kernel_rfl⟩
theorem y67 : TyOK 67 (Tryz.t67, Tryz.t67) := ⟨by kernel_rfl, by first | exact Tryz.underlying67 | kernel_rfl⟩
theorem y68 : TyOK 68 (Tryz.t68, Tryz.t68) := ⟨by kernel_rfl, by first | exact Tryz.underlying68 | kernel_rfl⟩
theorem y69 : TyOK 69 (Tryz.t69, Tryz.t69) := ⟨by kernel_rfl, by first | exact Tryz.underlying69 | kernel_rfl⟩
theorem y70 : TyOK 70 (Tryz.t70, Tryz.t70) := ⟨by kernel_rfl, by first | exact Tryz.underlying70 | kernel_rfl⟩
theorem y71 : TyOK 71 (Tryz.t71, Tryz.t71) := ⟨by kernel_rfl, by first | exact Tryz.underlying71 | kernel_rfl⟩
theorem y72 : TyOK 72 (Tryz.t72, Tryz.t71) := ⟨by kernel_rfl, by first | exact Tryz.underlying72 | kernel_rfl⟩
theorem y73 : TyOK 73 (Tryz.t73, Tryz.t73) := ⟨by kernel_rfl, by first | exact Tryz.underlying73 | kernel_rfl⟩
theorem y74 : TyOK 74 (Tryz.t74, Tryz.t74) := ⟨by kernel_rfl, by first | exact Tryz.underlying74 | kernel_rfl⟩
theorem y75 : TyOK 75 (Tryz.t75, Tryz.t75) := ⟨by kernel_rfl, by first | exact Tryz.underlying75 | kernel_rfl⟩
theorem y76 : TyOK 76 (Tryz.t76, Tryz.t76) := ⟨by kernel_rfl, by first | exact Tryz.underlying76 | kernel_rfl⟩
theorem y77 : TyOK 77 (Tryz.t77, Tryz.t77) := ⟨by kernel_rfl, by first | exact Tryz.underlying77 | kernel_rfl⟩
theorem y78 : TyOK 78 (Tryz.t78, Tryz.t78) := ⟨by kernel_rfl, by first | exact Tryz.underlying78 | kernel_rfl⟩
theorem y79 : TyOK 79 (Tryz.t79, Tryz.t79) := ⟨by kernel_rfl, by first | exact Tryz.underlying79 | kernel_rfl⟩
theorem y80 : TyOK 80 (Tryz.t80, Tryz.t80) := ⟨by kernel_rfl, by first | exact Tryz.underlying80 | kernel_rfl⟩
theorem y81 : TyOK 81 (Tryz.t81, Tryz.t81) := ⟨by kernel_rfl, by first | exact Tryz.underlying81 | kernel_rfl⟩
theorem y82 : TyOK 82 (Tryz.t82, Tryz.t82) := ⟨by kernel_rfl, by first | exact Tryz.underlying82 | kernel_rfl⟩
theorem y83 : TyOK 83 (Tryz.t83, Tryz.t83) := ⟨by kernel_rfl, by first | exact Tryz.underlying83 | kernel_rfl⟩
theorem y84 : TyOK 84 (Tryz.t84, Tryz.t84) := ⟨by kernel_rfl, by first | exact Tryz.underlying84 | kernel_rfl⟩
theorem y85 : TyOK 85 (Tryz.t85, Tryz.t85) := ⟨by kernel_rfl, by first | exact Tryz.underlying85 | kernel_rfl⟩
theorem y86 : TyOK 86 (Tryz.t86, Tryz.t86) := ⟨by kernel_rfl, by first | exact Tryz.underlying86 | kernel_rfl⟩
theorem y87 : TyOK 87 (Tryz.t87, Tryz.t87) := ⟨by kernel_rfl, by first | exact Tryz.underlying87 | kernel_rfl⟩
theorem y88 : TyOK 88 (Tryz.t88, Tryz.t88) := ⟨by kernel_rfl, by first | exact Tryz.underlying88 | kernel_rfl⟩
theorem y89 : TyOK 89 (Tryz.t89, Tryz.t89) := ⟨by kernel_rfl, by first | exact Tryz.underlying89 | kernel_rfl⟩
theorem y90 : TyOK 90 (Tryz.t90, Tryz.t90) := ⟨by kernel_rfl, by first | exact Tryz.underlying90 | kernel_rfl⟩
theorem y91 : TyOK 91 (Tryz.t91, Tryz.t91) := ⟨by kernel_rfl, by first | exact Tryz.underlying91 | kernel_rfl⟩
theorem y92 : TyOK 92 (Tryz.t92, Tryz.t92) := ⟨by kernel_rfl, by first | exact Tryz.underlying92 | kernel_rfl⟩
theorem y93 : TyOK 93 (Tryz.t93, Tryz.t93) := ⟨by kernel_rfl, by first | exact Tryz.underlying93 | kernel_rfl⟩
theorem y94 : TyOK 94 (Tryz.t94, Tryz.t94) := ⟨by kernel_rfl, by first | exact Tryz.underlying94 | kernel_rfl⟩
theorem y95 : TyOK 95 (Tryz.t95, Tryz.t94) := ⟨by kernel_rfl, by first | exact Tryz.underlying95 | kernel_rfl⟩
theorem y96 : TyOK 96 (Tryz.t96, Tryz.t96) := ⟨by kernel_rfl, by first | exact Tryz.underlying96 | kernel_rfl⟩
theorem y97 : TyOK 97 (Tryz.t97, Tryz.t97) := ⟨by kernel_rfl, by first | exact Tryz.underlying97 | kernel_rfl⟩
theorem y98 : TyOK 98 (Tryz.t98, Tryz.t98) := ⟨by kernel_rfl, by first | exact Tryz.underlying98 | kernel_rfl⟩
theorem y99 : TyOK 99 (Tryz.t99, Tryz.t99) := ⟨by kernel_rfl, by first | exact Tryz.underlying99 | kernel_rfl⟩
theorem y100 : TyOK 100 (Tryz.t100, Tryz.t100) := ⟨by kernel_rfl, by first | exact Tryz.underlying100 | kernel_rfl⟩
theorem y101 : TyOK 101 (Tryz.t101, Tryz.t101) := ⟨by kernel_rfl, by first | exact Tryz.underlying101 | kernel_rfl⟩
theorem y102 : TyOK 102 (Tryz.t102, Tryz.t102) := ⟨by kernel_rfl, by first | exact Tryz.underlying102 | kernel_rfl⟩
theorem y103 : TyOK 103 (Tryz.t103, Tryz.t102) := ⟨by kernel_rfl, by first | exact Tryz.underlying103 | kernel_rfl⟩
theorem y104 : TyOK 104 (Tryz.t104, Tryz.t104) := ⟨by kernel_rfl, by first | exact Tryz.underlying104 | kernel_rfl⟩
theorem y105 : TyOK 105 (Tryz.t105, Tryz.t105) := ⟨by kernel_rfl, by first | exact Tryz.underlying105 | kernel_rfl⟩
theorem y106 : TyOK 106 (Tryz.t106, Tryz.t106) := ⟨by kernel_rfl, by first | exact Tryz.underlying106 | kernel_rfl⟩
theorem y107 : TyOK 107 (Tryz.t107, Tryz.t107) := ⟨by kernel_rfl, by first | exact Tryz.underlying107 | kernel_rfl⟩
theorem y108 : TyOK 108 (Tryz.t108, Tryz.t108) := ⟨by kernel_rfl, by first | exact Tryz.underlying108 | kernel_rfl⟩
theorem y109 : TyOK 109 (Tryz.t109, Tryz.t108) := ⟨by kernel_rfl, by first | exact Tryz.underlying109 | kernel_rfl⟩
theorem y110 : TyOK 110 (Tryz.t110, Tryz.t110) := ⟨by kernel_rfl, by first | exact Tryz.underlying110 | kernel_rfl⟩
theorem y111 : TyOK 111 (Tryz.t111, Tryz.t111) := ⟨by kernel_rfl, by first | exact Tryz.underlying111 | kernel_rfl⟩
theorem y112 : TyOK 112 (Tryz.t112, Tryz.t112) := ⟨by kernel_rfl, by first | exact Tryz.underlying112 | kernel_rfl⟩
theorem y113 : TyOK 113 (Tryz.t113, Tryz.t112) := ⟨by kernel_rfl, by first | exact Tryz.underlying113 | kernel_rfl⟩
theorem y114 : TyOK 114 (Tryz.t114, Tryz.t114) := ⟨by kernel_rfl, by first | exact Tryz.underlying114 | kernel_rfl⟩
theorem y115 : TyOK 115 (Tryz.t115, Tryz.t115) := ⟨by kernel_rfl, by first | exact Tryz.underlying115 | kernel_rfl⟩
theorem y116 : TyOK 116 (Tryz.t116, Tryz.t116) := ⟨by kernel_rfl, by first | exact Tryz.underlying116 | kernel_rfl⟩
theorem y117 : TyOK 117 (Tryz.t117, Tryz.t117) := ⟨by kernel_rfl, by first | exact Tryz.underlying117 | kernel_rfl⟩
theorem y118 : TyOK 118 (Tryz.t118, Tryz.t118) := ⟨by kernel_rfl, by first | exact Tryz.underlying118 | kernel_rfl⟩
theorem y119 : TyOK 119 (Tryz.t119, Tryz.t119) := ⟨by kernel_rfl, by first | exact Tryz.underlying119 | kernel_rfl⟩
theorem y120 : TyOK 120 (Tryz.t120, Tryz.t120) := ⟨by kernel_rfl, by first | exact Tryz.underlying120 | kernel_rfl⟩
theorem y121 : TyOK 121 (Tryz.t121, Tryz.t120) := ⟨by kernel_rfl, by first | exact Tryz.underlying121 | kernel_rfl⟩
theorem y122 : TyOK 122 (Tryz.t122, Tryz.t122) := ⟨by kernel_rfl, by first | exact Tryz.underlying122 | kernel_rfl⟩
theorem y123 : TyOK 123 (Tryz.t123, Tryz.t123) := ⟨by kernel_rfl, by first | exact Tryz.underlying123 | kernel_rfl⟩
theorem y124 : TyOK 124 (Tryz.t124, Tryz.t124) := ⟨by kernel_rfl, by first | exact Tryz.underlying124 | kernel_rfl⟩
theorem y125 : TyOK 125 (Tryz.t125, Tryz.t125) := ⟨by kernel_rfl, by first | exact Tryz.underlying125 | kernel_rfl⟩
theorem y126 : TyOK 126 (Tryz.t126, Tryz.t126) := ⟨by kernel_rfl, by first | exact Tryz.underlying126 | kernel_rfl⟩
theorem y127 : TyOK 127 (Tryz.t127, Tryz.t126) := ⟨by kernel_rfl, by first | exact Tryz.underlying127 | kernel_rfl⟩
theorem y128 : TyOK 128 (Tryz.t128, Tryz.t128) := ⟨by kernel_rfl, by first | exact Tryz.underlying128 | kernel_rfl⟩
theorem y129 : TyOK 129 (Tryz.t129, Tryz.t129) := ⟨by kernel_rfl, by first | exact Tryz.underlying129 | kernel_rfl⟩
theorem y130 : TyOK 130 (Tryz.t130, Tryz.t129) := ⟨by kernel_rfl, by first | exact Tryz.underlying130 | kernel_rfl⟩
theorem y131 : TyOK 131 (Tryz.t131, Tryz.t126) := ⟨by kernel_rfl, by first | exact Tryz.underlying131 | kernel_rfl⟩
theorem y132 : TyOK 132 (Tryz.t132, Tryz.t132) := ⟨by kernel_rfl, by first | exact Tryz.underlying132 | kernel_rfl⟩
theorem y133 : TyOK 133 (Tryz.t133, Tryz.t132) := ⟨by kernel_rfl, by first | exact Tryz.underlying133 | kernel_rfl⟩
theorem y134 : TyOK 134 (Tryz.t134, Tryz.t134) := ⟨by kernel_rfl, by first | exact Tryz.underlying134 | kernel_rfl⟩
theorem y135 : TyOK 135 (Tryz.t135, Tryz.t134) := ⟨by kernel_rfl, by first | exact Tryz.underlying135 | kernel_rfl⟩
theorem y136 : TyOK 136 (Tryz.t136, Tryz.t136) := ⟨by kernel_rfl, by first | exact Tryz.underlying136 | kernel_rfl⟩
theorem y137 : TyOK 137 (Tryz.t137, Tryz.t137) := ⟨by kernel_rfl, by first | exact Tryz.underlying137 | kernel_rfl⟩
theorem y138 : TyOK 138 (Tryz.t138, Tryz.t137) := ⟨by kernel_rfl, by first | exact Tryz.underlying138 | kernel_rfl⟩
theorem y139 : TyOK 139 (Tryz.t139, Tryz.t139) := ⟨by kernel_rfl, by first | exact Tryz.underlying139 | kernel_rfl⟩
theorem y140 : TyOK 140 (Tryz.t140, Tryz.t140) := ⟨by kernel_rfl, by first | exact Tryz.underlying140 | kernel_rfl⟩
theorem y141 : TyOK 141 (Tryz.t141, Tryz.t141) := ⟨by kernel_rfl, by first | exact Tryz.underlying141 | kernel_rfl⟩
theorem y142 : TyOK 142 (Tryz.t142, Tryz.t142) := ⟨by kernel_rfl, by first | exact Tryz.underlying142 | kernel_rfl⟩
theorem y143 : TyOK 143 (Tryz.t143, Tryz.t143) := ⟨by kernel_rfl, by first | exact Tryz.underlying143 | kernel_rfl⟩
theorem y144 : TyOK 144 (Tryz.t144, Tryz.t143) := ⟨by kernel_rfl, by first | exact Tryz.underlying144 | kernel_rfl⟩
theorem y145 : TyOK 145 (Tryz.t145, Tryz.t145) := ⟨by kernel_rfl, by first | exact Tryz.underlying145 | kernel_rfl⟩
theorem y146 : TyOK 146 (Tryz.t146, Tryz.t146) := ⟨by kernel_rfl, by first | exact Tryz.underlying146 | kernel_rfl⟩
theorem y147 : TyOK 147 (Tryz.t147, Tryz.t146) := ⟨by kernel_rfl, by first | exact Tryz.underlying147 | kernel_rfl⟩
theorem y148 : TyOK 148 (Tryz.t148, Tryz.t148) := ⟨by kernel_rfl, by first | exact Tryz.underlying148 | kernel_rfl⟩
theorem y149 : TyOK 149 (Tryz.t149, Tryz.t149) := ⟨by kernel_rfl, by first | exact Tryz.underlying149 | kernel_rfl⟩
theorem y150 : TyOK 150 (Tryz.t150, Tryz.t150) := ⟨by kernel_rfl, by first | exact Tryz.underlying150 | kernel_rfl⟩
theorem y151 : TyOK 151 (Tryz.t151, Tryz.t151) := ⟨by kernel_rfl, by first | exact Tryz.underlying151 | kernel_rfl⟩
theorem y152 : TyOK 152 (Tryz.t152, Tryz.t152) := ⟨by kernel_rfl, by first | exact Tryz.underlying152 | kernel_rfl⟩
theorem y153 : TyOK 153 (Tryz.t153, Tryz.t153) := ⟨by kernel_rfl, by first | exact Tryz.underlying153 | kernel_rfl⟩
theorem y154 : TyOK 154 (Tryz.t154, Tryz.t154) := ⟨by kernel_rfl, by first | exact Tryz.underlying154 | kernel_rfl⟩
theorem y155 : TyOK 155 (Tryz.t155, Tryz.t155) := ⟨by kernel_rfl, by first | exact Tryz.underlying155 | kernel_rfl⟩
theorem y156 : TyOK 156 (Tryz.t156, Tryz.t156) := ⟨by kernel_rfl, by first | exact Tryz.underlying156 | kernel_rfl⟩
theorem y157 : TyOK 157 (Tryz.t157, Tryz.t157) := ⟨by kernel_rfl, by first | exact Tryz.underlying157 | kernel_rfl⟩
theorem y158 : TyOK 158 (Tryz.t158, Tryz.t158) := ⟨by kernel_rfl, by first | exact Tryz.underlying158 | kernel_rfl⟩
theorem y159 : TyOK 159 (Tryz.t159, Tryz.t159) := ⟨by kernel_rfl, by first | exact Tryz.underlying159 | kernel_rfl⟩
theorem y160 : TyOK 160 (Tryz.t160, Tryz.t160) := ⟨by kernel_rfl, by first | exact Tryz.underlying160 | kernel_rfl⟩
theorem y161 : TyOK 161 (Tryz.t161, Tryz.t3) := ⟨by kernel_rfl, by first | exact Tryz.underlying161 | kernel_rfl⟩
theorem y162 : TyOK 162 (Tryz.t162, Tryz.t162) := ⟨by kernel_rfl, by first | exact Tryz.underlying162 | kernel_rfl⟩
theorem y163 : TyOK 163 (Tryz.t163, Tryz.t162) := ⟨by kernel_rfl, by first | exact Tryz.underlying163 | kernel_rfl⟩
theorem y164 : TyOK 164 (Tryz.t164, Tryz.t164) := ⟨by kernel_rfl, by first | exact Tryz.underlying164 | kernel_rfl⟩
theorem y165 : TyOK 165 (Tryz.t165, Tryz.t165) := ⟨by kernel_rfl, by first | exact Tryz.underlying165 | kernel_rfl⟩
theorem y166 : TyOK 166 (Tryz.t166, Tryz.t166) := ⟨by kernel_rfl, by first | exact Tryz.underlying166 | kernel_rfl⟩
theorem y167 : TyOK 167 (Tryz.t167, Tryz.t167) := ⟨by kernel_rfl, by first | exact Tryz.underlying167 | kernel_rfl⟩
theorem y168 : TyOK 168 (Tryz.t168, Tryz.t168) := ⟨by kernel_rfl, by first | exact Tryz.underlying168 | kernel_rfl⟩
theorem y169 : TyOK 169 (Tryz.t169, Tryz.t169) := ⟨by kernel_rfl, by first | exact Tryz.underlying169 | kernel_rfl⟩
theorem y170 : TyOK 170 (Tryz.t170, Tryz.t170) := ⟨by kernel_rfl, by first | exact Tryz.underlying170 | kernel_rfl⟩
theorem y171 : TyOK 171 (Tryz.t171, Tryz.t171) := ⟨by kernel_rfl, by first | exact Tryz.underlying171 | kernel_rfl⟩
theorem y172 : TyOK 172 (Tryz.t172, Tryz.t172) := ⟨by kernel_rfl, by first | exact Tryz.underlying172 | kernel_rfl⟩
theorem y173 : TyOK 173 (Tryz.t173, Tryz.t173) := ⟨by kernel_rfl, by first | exact Tryz.underlying173 | kernel_rfl⟩
theorem y174 : TyOK 174 (Tryz.t174, Tryz.t174) := ⟨by kernel_rfl, by first | exact Tryz.underlying174 | kernel_rfl⟩
theorem y175 : TyOK 175 (Tryz.t175, Tryz.t175) := ⟨by kernel_rfl, by first | exact Tryz.underlying175 | kernel_rfl⟩
theorem y176 : TyOK 176 (Tryz.t176, Tryz.t175) := ⟨by kernel_rfl, by first | exact Tryz.underlying176 | kernel_rfl⟩
theorem y177 : TyOK 177 (Tryz.t177, Tryz.t177) := ⟨by kernel_rfl, by first | exact Tryz.underlying177 | kernel_rfl⟩
theorem y178 : TyOK 178 (Tryz.t178, Tryz.t178) := ⟨by kernel_rfl, by first | exact Tryz.underlying178 | kernel_rfl⟩
theorem y179 : TyOK 179 (Tryz.t179, Tryz.t178) := ⟨by kernel_rfl, by first | exact Tryz.underlying179 | kernel_rfl⟩
theorem y180 : TyOK 180 (Tryz.t180, Tryz.t180) := ⟨by kernel_rfl, by first | exact Tryz.underlying180 | kernel_rfl⟩
theorem y181 : TyOK 181 (Tryz.t181, Tryz.t181) := ⟨by kernel_rfl, by first | exact Tryz.underlying181 | kernel_rfl⟩
theorem y182 : TyOK 182 (Tryz.t182, Tryz.t182) := ⟨by kernel_rfl, by first | exact Tryz.underlying182 | kernel_rfl⟩
theorem y183 : TyOK 183 (Tryz.t183, Tryz.t183) := ⟨by kernel_rfl, by first | exact Tryz.underlying183 | kernel_rfl⟩
theorem y184 : TyOK 184 (Tryz.t184, Tryz.t183) := ⟨by kernel_rfl, by first | exact Tryz.underlying184 | kernel_rfl⟩
theorem y185 : TyOK 185 (Tryz.t185, Tryz.t185) := ⟨by kernel_rfl, by first | exact Tryz.underlying185 | kernel_rfl⟩
theorem y186 : TyOK 186 (Tryz.t186, Tryz.t186) := ⟨by kernel_rfl, by first | exact Tryz.underlying186 | kernel_rfl⟩
theorem y187 : TyOK 187 (Tryz.t187, Tryz.t187) := ⟨by kernel_rfl, by first | exact Tryz.underlying187 | kernel_rfl⟩
theorem y188 : TyOK 188 (Tryz.t188, Tryz.t188) := ⟨by kernel_rfl, by first | exact Tryz.underlying188 | kernel_rfl⟩
theorem y189 : TyOK 189 (Tryz.t189, Tryz.t188) := ⟨by kernel_rfl, by first | exact Tryz.underlying189 | kernel_rfl⟩
theorem y190 : TyOK 190 (Tryz.t190, Tryz.t190) := ⟨by kernel_rfl, by first | exact Tryz.underlying190 | kernel_rfl⟩
theorem y191 : TyOK 191 (Tryz.t191, Tryz.t190) := ⟨by kernel_rfl, by first | exact Tryz.underlying191 | kernel_rfl⟩
theorem y192 : TyOK 192 (Tryz.t192, Tryz.t192) := ⟨by kernel_rfl, by first | exact Tryz.underlying192 | kernel_rfl⟩
theorem y193 : TyOK 193 (Tryz.t193, Tryz.t193) := ⟨by kernel_rfl, by first | exact Tryz.underlying193 | kernel_rfl⟩
theorem y194 : TyOK 194 (Tryz.t194, Tryz.t194) := ⟨by kernel_rfl, by first | exact Tryz.underlying194 | kernel_rfl⟩
theorem y195 : TyOK 195 (Tryz.t195, Tryz.t195) := ⟨by kernel_rfl, by first | exact Tryz.underlying195 | kernel_rfl⟩
theorem y196 : TyOK 196 (Tryz.t196, Tryz.t196) := ⟨by kernel_rfl, by first | exact Tryz.underlying196 | kernel_rfl⟩
theorem y197 : TyOK 197 (Tryz.t197, Tryz.t196) := ⟨by kernel_rfl, by first | exact Tryz.underlying197 | kernel_rfl⟩
theorem y198 : TyOK 198 (Tryz.t198, Tryz.t198) := ⟨by kernel_rfl, by first | exact Tryz.underlying198 | kernel_rfl⟩
theorem y199 : TyOK 199 (Tryz.t199, Tryz.t199) := ⟨by kernel_rfl, by first | exact Tryz.underlying199 | kernel_rfl⟩
theorem y200 : TyOK 200 (Tryz.t200, Tryz.t200) := ⟨by kernel_rfl, by first | exact Tryz.underlying200 | kernel_rfl⟩
theorem y201 : TyOK 201 (Tryz.t201, Tryz.t201) := ⟨by kernel_rfl, by first | exact Tryz.underlying201 | kernel_rfl⟩
theorem y202 : TyOK 202 (Tryz.t202, Tryz.t3) := ⟨by kernel_rfl, by first | exact Tryz.underlying202 | kernel_rfl⟩
theorem y203 : TyOK 203 (Tryz.t203, Tryz.t203) := ⟨by kernel_rfl, by first | exact Tryz.underlying203 | kernel_rfl⟩
theorem y204 : TyOK 204 (Tryz.t204, Tryz.t203) := ⟨by kernel_rfl, by first | exact Tryz.underlying204 | kernel_rfl⟩
theorem y205 : TyOK 205 (Tryz.t205, Tryz.t205) := ⟨by kernel_rfl, by first | exact Tryz.underlying205 | kernel_rfl⟩
theorem y206 : TyOK 206 (Tryz.t206, Tryz.t206) := ⟨by kernel_rfl, by first | exact Tryz.underlying206 | kernel_rfl⟩
theorem y207 : TyOK 207 (Tryz.t207, Tryz.t207) := ⟨by kernel_rfl, by first | exact Tryz.underlying207 | kernel_rfl⟩
theorem y208 : TyOK 208 (Tryz.t208, Tryz.t208) := ⟨by kernel_rfl, by first | exact Tryz.underlying208 | kernel_rfl⟩
theorem y209 : TyOK 209 (Tryz.t209, Tryz.t209) := ⟨by kernel_rfl, by first | exact Tryz.underlying209 | kernel_rfl⟩
theorem y210 : TyOK 210 (Tryz.t210, Tryz.t209) := ⟨by kernel_rfl, by first | exact Tryz.underlying210 | kernel_rfl⟩
theorem y211 : TyOK 211 (Tryz.t211, Tryz.t211) := ⟨by kernel_rfl, by first | exact Tryz.underlying211 | kernel_rfl⟩
theorem y212 : TyOK 212 (Tryz.t212, Tryz.t212) := ⟨by kernel_rfl, by first | exact Tryz.underlying212 | kernel_rfl⟩
theorem y213 : TyOK 213 (Tryz.t213, Tryz.t213) := ⟨by kernel_rfl, by first | exact Tryz.underlying213 | kernel_rfl⟩
theorem y214 : TyOK 214 (Tryz.t214, Tryz.t214) := ⟨by kernel_rfl, by first | exact Tryz.underlying214 | kernel_rfl⟩
theorem y215 : TyOK 215 (Tryz.t215, Tryz.t215) := ⟨by kernel_rfl, by first | exact Tryz.underlying215 | kernel_rfl⟩
theorem y216 : TyOK 216 (Tryz.t216, Tryz.t215) := ⟨by kernel_rfl, by first | exact Tryz.underlying216 | kernel_rfl⟩
theorem y217 : TyOK 217 (Tryz.t217, Tryz.t217) := ⟨by kernel_rfl, by first | exact Tryz.underlying217 | kernel_rfl⟩
theorem y218 : TyOK 218 (Tryz.t218, Tryz.t218) := ⟨by kernel_rfl, by first | exact Tryz.underlying218 | kernel_rfl⟩
theorem y219 : TyOK 219 (Tryz.t219, Tryz.t219) := ⟨by kernel_rfl, by first | exact Tryz.underlying219 | kernel_rfl⟩
theorem y220 : TyOK 220 (Tryz.t220, Tryz.t220) := ⟨by kernel_rfl, by first | exact Tryz.underlying220 | kernel_rfl⟩
theorem y221 : TyOK 221 (Tryz.t221, Tryz.t221) := ⟨by kernel_rfl, by first | exact Tryz.underlying221 | kernel_rfl⟩
theorem y222 : TyOK 222 (Tryz.t222, Tryz.t221) := ⟨by kernel_rfl, by first | exact Tryz.underlying222 | kernel_rfl⟩
theorem y223 : TyOK 223 (Tryz.t223, Tryz.t223) := ⟨by kernel_rfl, by first | exact Tryz.underlying223 | kernel_rfl⟩
theorem y224 : TyOK 224 (Tryz.t224, Tryz.t224) := ⟨by kernel_rfl, by first | exact Tryz.underlying224 | kernel_rfl⟩
theorem y225 : TyOK 225 (Tryz.t225, Tryz.t225) := ⟨by kernel_rfl, by first | exact Tryz.underlying225 | kernel_rfl⟩
theorem y226 : TyOK 226 (Tryz.t226, Tryz.t226) := ⟨by kernel_rfl, by first | exact Tryz.underlying226 | kernel_rfl⟩
theorem y227 : TyOK 227 (Tryz.t227, Tryz.t227) := ⟨by kernel_rfl, by first | exact Tryz.underlying227 | kernel_rfl⟩
theorem y228 : TyOK 228 (Tryz.t228, Tryz.t228) := ⟨by kernel_rfl, by first | exact Tryz.underlying228 | kernel_rfl⟩
theorem y229 : TyOK 229 (Tryz.t229, Tryz.t229) := ⟨by kernel_rfl, by first | exact Tryz.underlying229 | kernel_rfl⟩
theorem y230 : TyOK 230 (Tryz.t230, Tryz.t230) := ⟨by kernel_rfl, by first | exact Tryz.underlying230 | kernel_rfl⟩
theorem y231 : TyOK 231 (Tryz.t231, Tryz.t231) := ⟨by kernel_rfl, by first | exact Tryz.underlying231 | kernel_rfl⟩
theorem y232 : TyOK 232 (Tryz.t232, Tryz.t232) := ⟨by kernel_rfl, by first | exact Tryz.underlying232 | kernel_rfl⟩
theorem y233 : TyOK 233 (Tryz.t233, Tryz.t233) := ⟨by kernel_rfl, by first | exact Tryz.underlying233 | kernel_rfl⟩
theorem y234 : TyOK 234 (Tryz.t234, Tryz.t234) := ⟨by kernel_rfl, by first | exact Tryz.underlying234 | kernel_rfl⟩
theorem y235 : TyOK 235 (Tryz.t235, Tryz.t235) := ⟨by kernel_rfl, by first | exact Tryz.underlying235 | kernel_rfl⟩
theorem y236 : TyOK 236 (Tryz.t236, Tryz.t3) := ⟨by kernel_rfl, by first | exact Tryz.underlying236 | kernel_rfl⟩
theorem y237 : TyOK 237 (Tryz.t237, Tryz.t237) := ⟨by kernel_rfl, by first | exact Tryz.underlying237 | kernel_rfl⟩
theorem y238 : TyOK 238 (Tryz.t238, Tryz.t238) := ⟨by kernel_rfl, by first | exact Tryz.underlying238 | kernel_rfl⟩
theorem y239 : TyOK 239 (Tryz.t239, Tryz.t238) := ⟨by kernel_rfl, by first | exact Tryz.underlying239 | kernel_rfl⟩
theorem y240 : TyOK 240 (Tryz.t240, Tryz.t240) := ⟨by kernel_rfl, by first | exact Tryz.underlying240 | kernel_rfl⟩
theorem y241 : TyOK 241 (Tryz.t241, Tryz.t241) := ⟨by kernel_rfl, by first | exact Tryz.underlying241 | kernel_rfl⟩
theorem y242 : TyOK 242 (Tryz.t242, Tryz.t242) := ⟨by kernel_rfl, by first | exact Tryz.underlying242 | kernel_rfl⟩
theorem y243 : TyOK 243 (Tryz.t243, Tryz.t243) := ⟨by kernel_rfl, by first | exact Tryz.underlying243 | kernel_rfl⟩
theorem y244 : TyOK 244 (Tryz.t244, Tryz.t243) := ⟨by kernel_rfl, by first | exact Tryz.underlying244 | kernel_rfl⟩
theorem y245 : TyOK 245 (Tryz.t245, Tryz.t245) := ⟨by kernel_rfl, by first | exact Tryz.underlying245 | kernel_rfl⟩
theorem y246 : TyOK 246 (Tryz.t246, Tryz.t245) := ⟨by kernel_rfl, by first | exact Tryz.underlying246 | kernel_rfl⟩
theorem y247 : TyOK 247 (Tryz.t247, Tryz.t247) := ⟨by kernel_rfl, by first | exact Tryz.underlying247 | kernel_rfl⟩
theorem y248 : TyOK 248 (Tryz.t248, Tryz.t248) := ⟨by kernel_rfl, by first | exact Tryz.underlying248 | kernel_rfl⟩
theorem y249 : TyOK 249 (Tryz.t249, Tryz.t249) := ⟨by kernel_rfl, by first | exact Tryz.underlying249 | kernel_rfl⟩
theorem y250 : TyOK 250 (Tryz.t250, Tryz.t249) := ⟨by kernel_rfl, by first | exact Tryz.underlying250 | kernel_rfl⟩
theorem y251 : TyOK 251 (Tryz.t251, Tryz.t251) := ⟨by kernel_rfl, by first | exact Tryz.underlying251 | kernel_rfl⟩
theorem y252 : TyOK 252 (Tryz.t252, Tryz.t252) := ⟨by kernel_rfl, by first | exact Tryz.underlying252 | kernel_rfl⟩
theorem y253 : TyOK 253 (Tryz.t253, Tryz.t253) := ⟨by kernel_rfl, by first | exact Tryz.underlying253 | kernel_rfl⟩
theorem y254 : TyOK 254 (Tryz.t254, Tryz.t254) := ⟨by kernel_rfl, by first | exact Tryz.underlying254 | kernel_rfl⟩
theorem y255 : TyOK 255 (Tryz.t255, Tryz.t255) := ⟨by kernel_rfl, by first | exact Tryz.underlying255 | kernel_rfl⟩
theorem y256 : TyOK 256 (Tryz.t256, Tryz.t256) := ⟨by kernel_rfl, by first | exact Tryz.underlying256 | kernel_rfl⟩
theorem y257 : TyOK 257 (Tryz.t257, Tryz.t257) := ⟨by kernel_rfl, by first | exact Tryz.underlying257 | kernel_rfl⟩
theorem y258 : TyOK 258 (Tryz.t258, Tryz.t257) := ⟨by kernel_rfl, by first | exact Tryz.underlying258 | kernel_rfl⟩
theorem y259 : TyOK 259 (Tryz.t259, Tryz.t259) := ⟨by kernel_rfl, by first | exact Tryz.underlying259 | kernel_rfl⟩
theorem y260 : TyOK 260 (Tryz.t260, Tryz.t259) := ⟨by kernel_rfl, by first | exact Tryz.underlying260 | kernel_rfl⟩
theorem y261 : TyOK 261 (Tryz.t261, Tryz.t261) := ⟨by kernel_rfl, by first | exact Tryz.underlying261 | kernel_rfl⟩
theorem y262 : TyOK 262 (Tryz.t262, Tryz.t3) := ⟨by kernel_rfl, by first | exact Tryz.underlying262 | kernel_rfl⟩
theorem y263 : TyOK 263 (Tryz.t263, Tryz.t263) := ⟨by kernel_rfl, by first | exact Tryz.underlying263 | kernel_rfl⟩
theorem y264 : TyOK 264 (Tryz.t264, Tryz.t263) := ⟨by kernel_rfl, by first | exact Tryz.underlying264 | kernel_rfl⟩
theorem y265 : TyOK 265 (Tryz.t265, Tryz.t265) := ⟨by kernel_rfl, by first | exact Tryz.underlying265 | kernel_rfl⟩
theorem y266 : TyOK 266 (Tryz.t266, Tryz.t266) := ⟨by kernel_rfl, by first | exact Tryz.underlying266 | kernel_rfl⟩
theorem y267 : TyOK 267 (Tryz.t267, Tryz.t267) := ⟨by kernel_rfl, by first | exact Tryz.underlying267 | kernel_rfl⟩
theorem y268 : TyOK 268 (Tryz.t268, Tryz.t268) := ⟨by kernel_rfl, by first | exact Tryz.underlying268 | kernel_rfl⟩
theorem y269 : TyOK 269 (Tryz.t269, Tryz.t269) := ⟨by kernel_rfl, by first | exact Tryz.underlying269 | kernel_rfl⟩
theorem y270 : TyOK 270 (Tryz.t270, Tryz.t270) := ⟨by kernel_rfl, by first | exact Tryz.underlying270 | kernel_rfl⟩
theorem y271 : TyOK 271 (Tryz.t271, Tryz.t271) := ⟨by kernel_rfl, by first | exact Tryz.underlying271 | kernel_rfl⟩
theorem y272 : TyOK 272 (Tryz.t272, Tryz.t272) := ⟨by kernel_rfl, by first | exact Tryz.underlying272 | kernel_rfl⟩
theorem y273 : TyOK 273 (Tryz.t273, Tryz.t273) := ⟨by kernel_rfl, by first | exact Tryz.underlying273 | kernel_rfl⟩
theorem y274 : TyOK 274 (Tryz.t274, Tryz.t274) := ⟨by kernel_rfl, by first | exact Tryz.underlying274 | kernel_rfl⟩
theorem y275 : TyOK 275 (Tryz.t275, Tryz.t275) := ⟨by kernel_rfl, by first | exact Tryz.underlying275 | kernel_rfl⟩
theorem y276 : TyOK 276 (Tryz.t276, Tryz.t276) := ⟨by kernel_rfl, by first | exact Tryz.underlying276 | kernel_rfl⟩
theorem y277 : TyOK 277 (Tryz.t277, Tryz.t277) := ⟨by kernel_rfl, by first | exact Tryz.underlying277 | kernel_rfl⟩
theorem y278 : TyOK 278 (Tryz.t278, Tryz.t278) := ⟨by kernel_rfl, by first | exact Tryz.underlying278 | kernel_rfl⟩
theorem y279 : TyOK 279 (Tryz.t279, Tryz.t279) := ⟨by kernel_rfl, by first | exact Tryz.underlying279 | kernel_rfl⟩
theorem y280 : TyOK 280 (Tryz.t280, Tryz.t280) := ⟨by kernel_rfl, by first | exact Tryz.underlying280 | kernel_rfl⟩
theorem y281 : TyOK 281 (Tryz.t281, Tryz.t281) := ⟨by kernel_rfl, by first | exact Tryz.underlying281 | kernel_rfl⟩
theorem y282 : TyOK 282 (Tryz.t282, Tryz.t282) := ⟨by kernel_rfl, by first | exact Tryz.underlying282 | kernel_rfl⟩
theorem y283 : TyOK 283 (Tryz.t283, Tryz.t283) := ⟨by kernel_rfl, by first | exact Tryz.underlying283 | kernel_rfl⟩
theorem y284 : TyOK 284 (Tryz.t284, Tryz.t70) := ⟨by kernel_rfl, by first | exact Tryz.underlying284 | kernel_rfl⟩
theorem y285 : TyOK 285 (Tryz.t285, Tryz.t285) := ⟨by kernel_rfl, by first | exact Tryz.underlying285 | kernel_rfl⟩
theorem y286 : TyOK 286 (Tryz.t286, Tryz.t286) := ⟨by kernel_rfl, by first | exact Tryz.underlying286 | kernel_rfl⟩
theorem y287 : TyOK 287 (Tryz.t287, Tryz.t286) := ⟨by kernel_rfl, by first | exact Tryz.underlying287 | kernel_rfl⟩
theorem y288 : TyOK 288 (Tryz.t288, Tryz.t288) := ⟨by kernel_rfl, by first | exact Tryz.underlying288 | kernel_rfl⟩
theorem y289 : TyOK 289 (Tryz.t289, Tryz.t289) := ⟨by kernel_rfl, by first | exact Tryz.underlying289 | kernel_rfl⟩
theorem y290 : TyOK 290 (Tryz.t290, Tryz.t290) := ⟨by kernel_rfl, by first | exact Tryz.underlying290 | kernel_rfl⟩
theorem y291 : TyOK 291 (Tryz.t291, Tryz.t291) := ⟨by kernel_rfl, by first | exact Tryz.underlying291 | kernel_rfl⟩
theorem y292 : TyOK 292 (Tryz.t292, Tryz.t292) := ⟨by kernel_rfl, by first | exact Tryz.underlying292 | kernel_rfl⟩
theorem y293 : TyOK 293 (Tryz.t293, Tryz.t293) := ⟨by kernel_rfl, by first | exact Tryz.underlying293 | kernel_rfl⟩
theorem y294 : TyOK 294 (Tryz.t294, Tryz.t294) := ⟨by kernel_rfl, by first | exact Tryz.underlying294 | kernel_rfl⟩
theorem y295 : TyOK 295 (Tryz.t295, Tryz.t295) := ⟨by kernel_rfl, by first | exact Tryz.underlying295 | kernel_rfl⟩
theorem y296 : TyOK 296 (Tryz.t296, Tryz.t296) := ⟨by kernel_rfl, by first | exact Tryz.underlying296 | kernel_rfl⟩
theorem y297 : TyOK 297 (Tryz.t297, Tryz.t297) := ⟨by kernel_rfl, by first | exact Tryz.underlying297 | kernel_rfl⟩
theorem y298 : TyOK 298 (Tryz.t298, Tryz.t298) := ⟨by kernel_rfl, by first | exact Tryz.underlying298 | kernel_rfl⟩
theorem y299 : TyOK 299 (Tryz.t299, Tryz.t299) := ⟨by kernel_rfl, by first | exact Tryz.underlying299 | kernel_rfl⟩
theorem y300 : TyOK 300 (Tryz.t300, Tryz.t300) := ⟨by kernel_rfl, by first | exact Tryz.underlying300 | kernel_rfl⟩
theorem y301 : TyOK 301 (Tryz.t301, Tryz.t301) := ⟨by kernel_rfl, by first | exact Tryz.underlying301 | kernel_rfl⟩
theorem y302 : TyOK 302 (Tryz.t302, Tryz.t301) := ⟨by kernel_rfl, by first | exact Tryz.underlying302 | kernel_rfl⟩
theorem y303 : TyOK 303 (Tryz.t303, Tryz.t303) := ⟨by kernel_rfl, by first | exact Tryz.underlying303 | kernel_rfl⟩
theorem y304 : TyOK 304 (Tryz.t304, Tryz.t304) := ⟨by kernel_rfl, by first | exact Tryz.underlying304 | kernel_rfl⟩
theorem y305 : TyOK 305 (Tryz.t305, Tryz.t305) := ⟨by kernel_rfl, by first | exact Tryz.underlying305 | kernel_rfl⟩
theorem y306 : TyOK 306 (Tryz.t306, Tryz.t306) := ⟨by kernel_rfl, by first | exact Tryz.underlying306 | kernel_rfl⟩
theorem y307 : TyOK 307 (Tryz.t307, Tryz.t307) := ⟨by kernel_rfl, by first | exact Tryz.underlying307 | kernel_rfl⟩
theorem y308 : TyOK 308 (Tryz.t308, Tryz.t308) := ⟨by kernel_rfl, by first | exact Tryz.underlying308 | kernel_rfl⟩
theorem y309 : TyOK 309 (Tryz.t309, Tryz.t308) := ⟨by kernel_rfl, by first | exact Tryz.underlying309 | kernel_rfl⟩
theorem y310 : TyOK 310 (Tryz.t310, Tryz.t310) := ⟨by kernel_rfl, by first | exact Tryz.underlying310 | kernel_rfl⟩
theorem y311 : TyOK 311 (Tryz.t311, Tryz.t311) := ⟨by kernel_rfl, by first | exact Tryz.underlying311 | kernel_rfl⟩
theorem y312 : TyOK 312 (Tryz.t312, Tryz.t312) := ⟨by kernel_rfl, by first | exact Tryz.underlying312 | kernel_rfl⟩
theorem y313 : TyOK 313 (Tryz.t313, Tryz.t312) := ⟨by kernel_rfl, by first | exact Tryz.underlying313 | kernel_rfl⟩
theorem y314 : TyOK 314 (Tryz.t314, Tryz.t314) := ⟨by kernel_rfl, by first | exact Tryz.underlying314 | kernel_rfl⟩
theorem y315 : TyOK 315 (Tryz.t315, Tryz.t315) := ⟨by kernel_rfl, by first | exact Tryz.underlying315 | kernel_rfl⟩
theorem y316 : TyOK 316 (Tryz.t316, Tryz.t316) := ⟨by kernel_rfl, by first | exact Tryz.underlying316 | kernel_rfl⟩
theorem y317 : TyOK 317 (Tryz.t317, Tryz.t317) := ⟨by kernel_rfl, by first | exact Tryz.underlying317 | kernel_rfl⟩
theorem y318 : TyOK 318 (Tryz.t318, Tryz.t318) := ⟨by kernel_rfl, by first | exact Tryz.underlying318 | kernel_rfl⟩
theorem y319 : TyOK 319 (Tryz.t319, Tryz.t319) := ⟨by kernel_rfl, by first | exact Tryz.underlying319 | kernel_rfl⟩
theorem y320 : TyOK 320 (Tryz.t320, Tryz.t320) := ⟨by kernel_rfl, by first | exact Tryz.underlying320 | kernel_rfl⟩
theorem y321 : TyOK 321 (Tryz.t321, Tryz.t321) := ⟨by kernel_rfl, by first | exact Tryz.underlying321 | kernel_rfl⟩
theorem y322 : TyOK 322 (Tryz.t322, Tryz.t322) := ⟨by kernel_rfl, by first | exact Tryz.underlying322 | kernel_rfl⟩
theorem y323 : TyOK 323 (Tryz.t323, Tryz.t323) := ⟨by kernel_rfl, by first | exact Tryz.underlying323 | kernel_rfl⟩
theorem y324 : TyOK 324 (Tryz.t324, Tryz.t324) := ⟨by kernel_rfl, by first | exact Tryz.underlying324 | kernel_rfl⟩
theorem y325 : TyOK 325 (Tryz.t325, Tryz.t324) := ⟨by kernel_rfl, by first | exact Tryz.underlying325 | kernel_rfl⟩
theorem y326 : TyOK 326 (Tryz.t326, Tryz.t326) := ⟨by kernel_rfl, by first | exact Tryz.underlying326 | kernel_rfl⟩
theorem y327 : TyOK 327 (Tryz.t327, Tryz.t327) := ⟨by kernel_rfl, by first | exact Tryz.underlying327 | kernel_rfl⟩
theorem y328 : TyOK 328 (Tryz.t328, Tryz.t328) := ⟨by kernel_rfl, by first | exact Tryz.underlying328 | kernel_rfl⟩
theorem y329 : TyOK 329 (Tryz.t329, Tryz.t329) := ⟨by kernel_rfl, by first | exact Tryz.underlying329 | kernel_rfl⟩
theorem y330 : TyOK 330 (Tryz.t330, Tryz.t330) := ⟨by kernel_rfl, by first | exact Tryz.underlying330 | kernel_rfl⟩
theorem y331 : TyOK 331 (Tryz.t331, Tryz.t331) := ⟨by kernel_rfl, by first | exact Tryz.underlying331 | kernel_rfl⟩
theorem y332 : TyOK 332 (Tryz.t332, Tryz.t332) := ⟨by kernel_rfl, by first | exact Tryz.underlying332 | kernel_rfl⟩
theorem y333 : TyOK 333 (Tryz.t333, Tryz.t333) := ⟨by kernel_rfl, by first | exact Tryz.underlying333 | kernel_rfl⟩
theorem y334 : TyOK 334 (Tryz.t334, Tryz.t334) := ⟨by kernel_rfl, by first | exact Tryz.underlying334 | kernel_rfl⟩
theorem y335 : TyOK 335 (Tryz.t335, Tryz.t335) := ⟨by kernel_rfl, by first | exact Tryz.underlying335 | kernel_rfl⟩
theorem y336 : TyOK 336 (Tryz.t336, Tryz.t336) := ⟨by kernel_rfl, by first | exact Tryz.underlying336 | kernel_rfl⟩
theorem y337 : TyOK 337 (Tryz.t337, Tryz.t337) := ⟨by kernel_rfl, by first | exact Tryz.underlying337 | kernel_rfl⟩
theorem y338 : TyOK 338 (Tryz.t338, Tryz.t338) := ⟨by kernel_rfl, by first | exact Tryz.underlying338 | kernel_rfl⟩
theorem y339 : TyOK 339 (Tryz.t339, Tryz.t339) := ⟨by kernel_rfl, by first | exact Tryz.underlying339 | kernel_rfl⟩
theorem y340 : TyOK 340 (Tryz.t340, Tryz.t340) := ⟨by kernel_rfl, by first | exact Tryz.underlying340 | kernel_rfl⟩
theorem y341 : TyOK 341 (Tryz.t341, Tryz.t341) := ⟨by kernel_rfl, by first | exact Tryz.underlying341 | kernel_rfl⟩
theorem y342 : TyOK 342 (Tryz.t342, Tryz.t342) := ⟨by kernel_rfl, by first | exact Tryz.underlying342 | kernel_rfl⟩
theorem y343 : TyOK 343 (Tryz.t343, Tryz.t343) := ⟨by kernel_rfl, by first | exact Tryz.underlying343 | kernel_rfl⟩
theorem y344 : TyOK 344 (Tryz.t344, Tryz.t344) := ⟨by kernel_rfl, by first | exact Tryz.underlying344 | kernel_rfl⟩
theorem y345 : TyOK 345 (Tryz.t345, Tryz.t345) := ⟨by kernel_rfl, by first | exact Tryz.underlying345 | kernel_rfl⟩
theorem y346 : TyOK 346 (Tryz.t346, Tryz.t346) := ⟨by kernel_rfl, by first | exact Tryz.underlying346 | kernel_rfl⟩
theorem y347 : TyOK 347 (Tryz.t347, Tryz.t347) := ⟨by kernel_rfl, by first | exact Tryz.underlying347 | kernel_rfl⟩
theorem y348 : TyOK 348 (Tryz.t348, Tryz.t348) := ⟨by kernel_rfl, by first | exact Tryz.underlying348 | kernel_rfl⟩
theorem y349 : TyOK 349 (Tryz.t349, Tryz.t126) := ⟨by kernel_rfl, by first | exact Tryz.underlying349 | kernel_rfl⟩
theorem y350 : TyOK 350 (Tryz.t350, Tryz.t350) := ⟨by kernel_rfl, by first | exact Tryz.underlying350 | kernel_rfl⟩
theorem y351 : TyOK 351 (Tryz.t351, Tryz.t350) := ⟨by kernel_rfl, by first | exact Tryz.underlying351 | kernel_rfl⟩
theorem y352 : TyOK 352 (Tryz.t352, Tryz.t352) := ⟨by kernel_rfl, by first | exact Tryz.underlying352 | kernel_rfl⟩
theorem y353 : TyOK 353 (Tryz.t353, Tryz.t352) := ⟨by kernel_rfl, by first | exact Tryz.underlying353 | kernel_rfl⟩
theorem y354 : TyOK 354 (Tryz.t354, Tryz.t354) := ⟨by kernel_rfl, by first | exact Tryz.underlying354 | kernel_rfl⟩
theorem y355 : TyOK 355 (Tryz.t355, Tryz.t354) := ⟨by kernel_rfl, by first | exact Tryz.underlying355 | kernel_rfl⟩
theorem y356 : TyOK 356 (Tryz.t356, Tryz.t356) := ⟨by kernel_rfl, by first | exact Tryz.underlying356 | kernel_rfl⟩
theorem y357 : TyOK 357 (Tryz.t357, Tryz.t356) := ⟨by kernel_rfl, by first | exact Tryz.underlying357 | kernel_rfl⟩
theorem y358 : TyOK 358 (Tryz.t358, Tryz.t358) := ⟨by kernel_rfl, by first | exact Tryz.underlying358 | kernel_rfl⟩
theorem y359 : TyOK 359 (Tryz.t359, Tryz.t358) := ⟨by kernel_rfl, by first | exact Tryz.underlying359 | kernel_rfl⟩
theorem y360 : TyOK 360 (Tryz.t360, Tryz.t360) := ⟨by kernel_rfl, by first | exact Tryz.underlying360 | kernel_rfl⟩
theorem y361 : TyOK 361 (Tryz.t361, Tryz.t361) := ⟨by kernel_rfl, by first | exact Tryz.underlying361 | kernel_rfl⟩
theorem y362 : TyOK 362 (Tryz.t362, Tryz.t362) := ⟨by kernel_rfl, by first | exact Tryz.underlying362 | kernel_rfl⟩
theorem y363 : TyOK 363 (Tryz.t363, Tryz.t362) := ⟨by kernel_rfl, by first | exact Tryz.underlying363 | kernel_rfl⟩
theorem y364 : TyOK 364 (Tryz.t364, Tryz.t364) := ⟨by kernel_rfl, by first | exact Tryz.underlying364 | kernel_rfl⟩
theorem y365 : TyOK 365 (Tryz.t365, Tryz.t365) := ⟨by kernel_rfl, by first | exact Tryz.underlying365 | kernel_rfl⟩
theorem y366 : TyOK 366 (Tryz.t366, Tryz.t55) := ⟨by kernel_rfl, by first | exact Tryz.underlying366 | kernel_rfl⟩
theorem y367 : TyOK 367 (Tryz.t367, Tryz.t367) := ⟨by kernel_rfl, by first | exact Tryz.underlying367 | kernel_rfl⟩
theorem y368 : TyOK 368 (Tryz.t368, Tryz.t368) := ⟨by kernel_rfl, by first | exact Tryz.underlying368 | kernel_rfl⟩
theorem y369 : TyOK 369 (Tryz.t369, Tryz.t369) := ⟨by kernel_rfl, by first | exact Tryz.underlying369 | kernel_rfl⟩
theorem y370 : TyOK 370 (Tryz.t370, Tryz.t370) := ⟨by kernel_rfl, by first | exact Tryz.underlying370 | kernel_rfl⟩
theorem y371 : TyOK 371 (Tryz.t371, Tryz.t371) := ⟨by kernel_rfl, by first | exact Tryz.underlying371 | kernel_rfl⟩
theorem y372 : TyOK 372 (Tryz.t372, Tryz.t372) := ⟨by kernel_rfl, by first | exact Tryz.underlying372 | kernel_rfl⟩
theorem y373 : TyOK 373 (Tryz.t373, Tryz.t373) := ⟨by kernel_rfl, by first | exact Tryz.underlying373 | kernel_rfl⟩
theorem y374 : TyOK 374 (Tryz.t374, Tryz.t374) := ⟨by kernel_rfl, by first | exact Tryz.underlying374 | kernel_rfl⟩
theorem y375 : TyOK 375 (Tryz.t375, Tryz.t374) := ⟨by kernel_rfl, by first | exact Tryz.underlying375 | kernel_rfl⟩
theorem y376 : TyOK 376 (Tryz.t376, Tryz.t376) := ⟨by kernel_rfl, by first | exact Tryz.underlying376 | kernel_rfl⟩
theorem y377 : TyOK 377 (Tryz.t377, Tryz.t377) := ⟨by kernel_rfl, by first | exact Tryz.underlying377 | kernel_rfl⟩
theorem y378 : TyOK 378 (Tryz.t378, Tryz.t378) := ⟨by kernel_rfl, by first | exact Tryz.underlying378 | kernel_rfl⟩
theorem y379 : TyOK 379 (Tryz.t379, Tryz.t379) := ⟨by kernel_rfl, by first | exact Tryz.underlying379 | kernel_rfl⟩
theorem y380 : TyOK 380 (Tryz.t380, Tryz.t380) := ⟨by kernel_rfl, by first | exact Tryz.underlying380 | kernel_rfl⟩
theorem y381 : TyOK 381 (Tryz.t381, Tryz.t381) := ⟨by kernel_rfl, by first | exact Tryz.underlying381 | kernel_rfl⟩
theorem y382 : TyOK 382 (Tryz.t382, Tryz.t382) := ⟨by kernel_rfl, by first | exact Tryz.underlying382 | kernel_rfl⟩
theorem y383 : TyOK 383 (Tryz.t383, Tryz.t383) := ⟨by kernel_rfl, by first | exact Tryz.underlying383 | kernel_rfl⟩
theorem y384 : TyOK 384 (Tryz.t384, Tryz.t384) := ⟨by kernel_rfl, by first | exact Tryz.underlying384 | kernel_rfl⟩
theorem y385 : TyOK 385 (Tryz.t385, Tryz.t385) := ⟨by kernel_rfl, by first | exact Tryz.underlying385 | kernel_rfl⟩
theorem y386 : TyOK 386 (Tryz.t386, Tryz.t385) := ⟨by kernel_rfl, by first | exact Tryz.underlying386 | kernel_rfl⟩
theorem y387 : TyOK 387 (Tryz.t387, Tryz.t387) := ⟨by kernel_rfl, by first | exact Tryz.underlying387 | kernel_rfl⟩
theorem y388 : TyOK 388 (Tryz.t388, Tryz.t388) := ⟨by kernel_rfl, by first | exact Tryz.underlying388 | kernel_rfl⟩
theorem y389 : TyOK 389 (Tryz.t389, Tryz.t389) := ⟨by kernel_rfl, by first | exact Tryz.underlying389 | kernel_rfl⟩
theorem y390 : TyOK 390 (Tryz.t390, Tryz.t390) := ⟨by kernel_rfl, by first | exact Tryz.underlying390 | kernel_rfl⟩
theorem y391 : TyOK 391 (Tryz.t391, Tryz.t390) := ⟨by kernel_rfl, by first | exact Tryz.underlying391 | kernel_rfl⟩
theorem y392 : TyOK 392 (Tryz.t392, Tryz.t392) := ⟨by kernel_rfl, by first | exact Tryz.underlying392 | kernel_rfl⟩
theorem y393 : TyOK 393 (Tryz.t393, Tryz.t393) := ⟨by kernel_rfl, by first | exact Tryz.underlying393 | kernel_rfl⟩
theorem y394 : TyOK 394 (Tryz.t394, Tryz.t394) := ⟨by kernel_rfl, by first | exact Tryz.underlying394 | kernel_rfl⟩
theorem y395 : TyOK 395 (Tryz.t395, Tryz.t395) := ⟨by kernel_rfl, by first | exact Tryz.underlying395 | kernel_rfl⟩
theorem y396 : TyOK 396 (Tryz.t396, Tryz.t396) := ⟨by kernel_rfl, by first | exact Tryz.underlying396 | kernel_rfl⟩
theorem y397 : TyOK 397 (Tryz.t397, Tryz.t397) := ⟨by kernel_rfl, by first | exact Tryz.underlying397 | kernel_rfl⟩
theorem y398 : TyOK 398 (Tryz.t398, Tryz.t398) := ⟨by kernel_rfl, by first | exact Tryz.underlying398 | kernel_rfl⟩
theorem y399 : TyOK 399 (Tryz.t399, Tryz.t399) := ⟨by kernel_rfl, by first | exact Tryz.underlying399 | kernel_rfl⟩
theorem y400 : TyOK 400 (Tryz.t400, Tryz.t399) := ⟨by kernel_rfl, by first | exact Tryz.underlying400 | kernel_rfl⟩
theorem y401 : TyOK 401 (Tryz.t401, Tryz.t401) := ⟨by kernel_rfl, by first | exact Tryz.underlying401 | kernel_rfl⟩
theorem y402 : TyOK 402 (Tryz.t402, Tryz.t402) := ⟨by kernel_rfl, by first | exact Tryz.underlying402 | kernel_rfl⟩
theorem y403 : TyOK 403 (Tryz.t403, Tryz.t403) := ⟨by kernel_rfl, by first | exact Tryz.underlying403 | kernel_rfl⟩
theorem y404 : TyOK 404 (Tryz.t404, Tryz.t404) := ⟨by kernel_rfl, by first | exact Tryz.underlying404 | kernel_rfl⟩
theorem y405 : TyOK 405 (Tryz.t405, Tryz.t405) := ⟨by kernel_rfl, by first | exact Tryz.underlying405 | kernel_rfl⟩
theorem y406 : TyOK 406 (Tryz.t406, Tryz.t406) := ⟨by kernel_rfl, by first | exact Tryz.underlying406 | kernel_rfl⟩
theorem y407 : TyOK 407 (Tryz.t407, Tryz.t406) := ⟨by kernel_rfl, by first | exact Tryz.underlying407 | kernel_rfl⟩
theorem y408 : TyOK 408 (Tryz.t408, Tryz.t408) := ⟨by kernel_rfl, by first | exact Tryz.underlying408 | kernel_rfl⟩
theorem y409 : TyOK 409 (Tryz.t409, Tryz.t408) := ⟨by kernel_rfl, by first | exact Tryz.underlying409 | kernel_rfl⟩
theorem y410 : TyOK 410 (Tryz.t410, Tryz.t410) := ⟨by kernel_rfl, by first | exact Tryz.underlying410 | kernel_rfl⟩
theorem y411 : TyOK 411 (Tryz.t411, Tryz.t411) := ⟨by kernel_rfl, by first | exact Tryz.underlying411 | kernel_rfl⟩
theorem y412 : TyOK 412 (Tryz.t412, Tryz.t412) := ⟨by kernel_rfl, by first | exact Tryz.underlying412 | kernel_rfl⟩
theorem y413 : TyOK 413 (Tryz.t413, Tryz.t413) := ⟨by kernel_rfl, by first | exact Tryz.underlying413 | kernel_rfl⟩
theorem y414 : TyOK 414 (Tryz.t414, Tryz.t414) := ⟨by kernel_rfl, by first | exact Tryz.underlying414 | kernel_rfl⟩
theorem y415 : TyOK 415 (Tryz.t415, Tryz.t415) := ⟨by kernel_rfl, by first | exact Tryz.underlying415 | kernel_rfl⟩
theorem y416 : TyOK 416 (Tryz.t416, Tryz.t416) := ⟨by kernel_rfl, by first | exact Tryz.underlying416 | kernel_rfl⟩
theorem y417 : TyOK 417 (Tryz.t417, Tryz.t417) := ⟨by kernel_rfl, by first | exact Tryz.underlying417 | kernel_rfl⟩
theorem y418 : TyOK 418 (Tryz.t418, Tryz.t418) := ⟨by kernel_rfl, by first | exact Tryz.underlying418 | kernel_rfl⟩
theorem y419 : TyOK 419 (Tryz.t419, Tryz.t419) := ⟨by kernel_rfl, by first | exact Tryz.underlying419 | kernel_rfl⟩
theorem y420 : TyOK 420 (Tryz.t420, Tryz.t420) := ⟨by kernel_rfl, by first | exact Tryz.underlying420 | kernel_rfl⟩
theorem y421 : TyOK 421 (Tryz.t421, Tryz.t421) := ⟨by kernel_rfl, by first | exact Tryz.underlying421 | kernel_rfl⟩
theorem y422 : TyOK 422 (Tryz.t422, Tryz.t422) := ⟨by kernel_rfl, by first | exact Tryz.underlying422 | kernel_rfl⟩
theorem y423 : TyOK 423 (Tryz.t423, Tryz.t423) := ⟨by kernel_rfl, by first | exact Tryz.underlying423 | kernel_rfl⟩
theorem y424 : TyOK 424 (Tryz.t424, Tryz.t424) := ⟨by kernel_rfl, by first | exact Tryz.underlying424 | kernel_rfl⟩
theorem y425 : TyOK 425 (Tryz.t425, Tryz.t425) := ⟨by kernel_rfl, by first | exact Tryz.underlying425 | kernel_rfl⟩
theorem y426 : TyOK 426 (Tryz.t426, Tryz.t425) := ⟨by kernel_rfl, by first | exact Tryz.underlying426 | kernel_rfl⟩
theorem y427 : TyOK 427 (Tryz.t427, Tryz.t427) := ⟨by kernel_rfl, by first | exact Tryz.underlying427 | kernel_rfl⟩
theorem y428 : TyOK 428 (Tryz.t428, Tryz.t428) := ⟨by kernel_rfl, by first | exact Tryz.underlying428 | kernel_rfl⟩
theorem y429 : TyOK 429 (Tryz.t429, Tryz.t3) := ⟨by kernel_rfl, by first | exact Tryz.underlying429 | kernel_rfl⟩
theorem y430 : TyOK 430 (Tryz.t430, Tryz.t430) := ⟨by kernel_rfl, by first | exact Tryz.underlying430 | kernel_rfl⟩
theorem y431 : TyOK 431 (Tryz.t431, Tryz.t431) := ⟨by kernel_rfl, by first | exact Tryz.underlying431 | kernel_rfl⟩
theorem y432 : TyOK 432 (Tryz.t432, Tryz.t432) := ⟨by kernel_rfl, by first | exact Tryz.underlying432 | kernel_rfl⟩
theorem y433 : TyOK 433 (Tryz.t433, Tryz.t433) := ⟨by kernel_rfl, by first | exact Tryz.underlying433 | kernel_rfl⟩
theorem y434 : TyOK 434 (Tryz.t434, Tryz.t434) := ⟨by kernel_rfl, by first | exact Tryz.underlying434 | kernel_rfl⟩
theorem y435 : TyOK 435 (Tryz.t435, Tryz.t435) := ⟨by kernel_rfl, by first | exact Tryz.underlying435 | kernel_rfl⟩
theorem y436 : TyOK 436 (Tryz.t436, Tryz.t436) := ⟨by kernel_rfl, by first | exact Tryz.underlying436 | kernel_rfl⟩
theorem y437 : TyOK 437 (Tryz.t437, Tryz.t437) := ⟨by kernel_rfl, by first | exact Tryz.underlying437 | kernel_rfl⟩
theorem y438 : TyOK 438 (Tryz.t438, Tryz.t437) := ⟨by kernel_rfl, by first | exact Tryz.underlying438 | kernel_rfl⟩
theorem y439 : TyOK 439 (Tryz.t439, Tryz.t439) := ⟨by kernel_rfl, by first | exact Tryz.underlying439 | kernel_rfl⟩
theorem y440 : TyOK 440 (Tryz.t440, Tryz.t440) := ⟨by kernel_rfl, by first | exact Tryz.underlying440 | kernel_rfl⟩
theorem y441 : TyOK 441 (Tryz.t441, Tryz.t441) := ⟨by kernel_rfl, by first | exact Tryz.underlying441 | kernel_rfl⟩
theorem y442 : TyOK 442 (Tryz.t442, Tryz.t442) := ⟨by kernel_rfl, by first | exact Tryz.underlying442 | kernel_rfl⟩
theorem y443 : TyOK 443 (Tryz.t443, Tryz.t443) := ⟨by kernel_rfl, by first | exact Tryz.underlying443 | kernel_rfl⟩
theorem y444 : TyOK 444 (Tryz.t444, Tryz.t444) := ⟨by kernel_rfl, by first | exact Tryz.underlying444 | kernel_rfl⟩
theorem y445 : TyOK 445 (Tryz.t445, Tryz.t445) := ⟨by kernel_rfl, by first | exact Tryz.underlying445 | kernel_rfl⟩
theorem y446 : TyOK 446 (Tryz.t446, Tryz.t446) := ⟨by kernel_rfl, by first | exact Tryz.underlying446 | kernel_rfl⟩
theorem y447 : TyOK 447 (Tryz.t447, Tryz.t447) := ⟨by kernel_rfl, by first | exact Tryz.underlying447 | kernel_rfl⟩
theorem y448 : TyOK 448 (Tryz.t448, Tryz.t448) := ⟨by kernel_rfl, by first | exact Tryz.underlying448 | kernel_rfl⟩
theorem y449 : TyOK 449 (Tryz.t449, Tryz.t449) := ⟨by kernel_rfl, by first | exact Tryz.underlying449 | kernel_rfl⟩
theorem y450 : TyOK 450 (Tryz.t450, Tryz.t450) := ⟨by kernel_rfl, by first | exact Tryz.underlying450 | kernel_rfl⟩
theorem y451 : TyOK 451 (Tryz.t451, Tryz.t451) := ⟨by kernel_rfl, by first | exact Tryz.underlying451 | kernel_rfl⟩
theorem y452 : TyOK 452 (Tryz.t452, Tryz.t452) := ⟨by kernel_rfl, by first | exact Tryz.underlying452 | kernel_rfl⟩
theorem y453 : TyOK 453 (Tryz.t453, Tryz.t453) := ⟨by kernel_rfl, by first | exact Tryz.underlying453 | kernel_rfl⟩
theorem y454 : TyOK 454 (Tryz.t454, Tryz.t454) := ⟨by kernel_rfl, by first | exact Tryz.underlying454 | kernel_rfl⟩
theorem y455 : TyOK 455 (Tryz.t455, Tryz.t455) := ⟨by kernel_rfl, by first | exact Tryz.underlying455 | kernel_rfl⟩
theorem y456 : TyOK 456 (Tryz.t456, Tryz.t456) := ⟨by kernel_rfl, by first | exact Tryz.underlying456 | kernel_rfl⟩
theorem y457 : TyOK 457 (Tryz.t457, Tryz.t457) := ⟨by kernel_rfl, by first | exact Tryz.underlying457 | kernel_rfl⟩
theorem y458 : TyOK 458 (Tryz.t458, Tryz.t458) := ⟨by kernel_rfl, by first | exact Tryz.underlying458 | kernel_rfl⟩
theorem y459 : TyOK 459 (Tryz.t459, Tryz.t459) := ⟨by kernel_rfl, by first | exact Tryz.underlying459 | kernel_rfl⟩
theorem y460 : TyOK 460 (Tryz.t460, Tryz.t460) := ⟨by kernel_rfl, by first | exact Tryz.underlying460 | kernel_rfl⟩
theorem y461 : TyOK 461 (Tryz.t461, Tryz.t461) := ⟨by kernel_rfl, by first | exact Tryz.underlying461 | kernel_rfl⟩
theorem y462 : TyOK 462 (Tryz.t462, Tryz.t462) := ⟨by kernel_rfl, by first | exact Tryz.underlying462 | kernel_rfl⟩
theorem y463 : TyOK 463 (Tryz.t463, Tryz.t463) := ⟨by kernel_rfl, by first | exact Tryz.underlying463 | kernel_rfl⟩
theorem y464 : TyOK 464 (Tryz.t464, Tryz.t464) := ⟨by kernel_rfl, by first | exact Tryz.underlying464 | kernel_rfl⟩
theorem y465 : TyOK 465 (Tryz.t465, Tryz.t465) := ⟨by kernel_rfl, by first | exact Tryz.underlying465 | kernel_rfl⟩
theorem y466 : TyOK 466 (Tryz.t466, Tryz.t466) := ⟨by kernel_rfl, by first | exact Tryz.underlying466 | kernel_rfl⟩
theorem y467 : TyOK 467 (Tryz.t467, Tryz.t467) := ⟨by kernel_rfl, by first | exact Tryz.underlying467 | kernel_rfl⟩
theorem y468 : TyOK 468 (Tryz.t468, Tryz.t468) := ⟨by kernel_rfl, by first | exact Tryz.underlying468 | kernel_rfl⟩
theorem y469 : TyOK 469 (Tryz.t469, Tryz.t107) := ⟨by kernel_rfl, by first | exact Tryz.underlying469 | kernel_rfl⟩
theorem y470 : TyOK 470 (Tryz.t470, Tryz.t470) := ⟨by kernel_rfl, by first | exact Tryz.underlying470 | kernel_rfl⟩
theorem y471 : TyOK 471 (Tryz.t471, Tryz.t471) := ⟨by kernel_rfl, by first | exact Tryz.underlying471 | kernel_rfl⟩
theorem y472 : TyOK 472 (Tryz.t472, Tryz.t472) := ⟨by kernel_rfl, by first | exact Tryz.underlying472 | kernel_rfl⟩
theorem y473 : TyOK 473 (Tryz.t473, Tryz.t473) := ⟨by kernel_rfl, by first | exact Tryz.underlying473 | kernel_rfl⟩
theorem y474 : TyOK 474 (Tryz.t474, Tryz.t474) := ⟨by kernel_rfl, by first | exact Tryz.underlying474 | kernel_rfl⟩
theorem y475 : TyOK 475 (Tryz.t475, Tryz.t475) := ⟨by kernel_rfl, by first | exact Tryz.underlying475 | kernel_rfl⟩
theorem y476 : TyOK 476 (Tryz.t476, Tryz.t476) := ⟨by kernel_rfl, by first | exact Tryz.underlying476 | kernel_rfl⟩
theorem y477 : TyOK 477 (Tryz.t477, Tryz.t477) := ⟨by kernel_rfl, by first | exact Tryz.underlying477 | kernel_rfl⟩
theorem y478 : TyOK 478 (Tryz.t478, Tryz.t478) := ⟨by kernel_rfl, by first | exact Tryz.underlying478 | kernel_rfl⟩
theorem y479 : TyOK 479 (Tryz.t479, Tryz.t479) := ⟨by kernel_rfl, by first | exact Tryz.underlying479 | kernel_rfl⟩
theorem y480 : TyOK 480 (Tryz.t480, Tryz.t480) := ⟨by kernel_rfl, by first | exact Tryz.underlying480 | kernel_rfl⟩
theorem y481 : TyOK 481 (Tryz.t481, Tryz.t481) := ⟨by kernel_rfl, by first | exact Tryz.underlying481 | kernel_rfl⟩
theorem y482 : TyOK 482 (Tryz.t482, Tryz.t482) := ⟨by kernel_rfl, by first | exact Tryz.underlying482 | kernel_rfl⟩
theorem y483 : TyOK 483 (Tryz.t483, Tryz.t483) := ⟨by kernel_rfl, by first | exact Tryz.underlying483 | kernel_rfl⟩
theorem y484 : TyOK 484 (Tryz.t484, Tryz.t484) := ⟨by kernel_rfl, by first | exact Tryz.underlying484 | kernel_rfl⟩
theorem y485 : TyOK 485 (Tryz.t485, Tryz.t485) := ⟨by kernel_rfl, by first | exact Tryz.underlying485 | kernel_rfl⟩
theorem y486 : TyOK 486 (Tryz.t486, Tryz.t486) := ⟨by kernel_rfl, by first | exact Tryz.underlying486 | kernel_rfl⟩
theorem y487 : TyOK 487 (Tryz.t487, Tryz.t487) := ⟨by kernel_rfl, by first | exact Tryz.underlying487 | kernel_rfl⟩
theorem y488 : TyOK 488 (Tryz.t488, Tryz.t488) := ⟨by kernel_rfl, by first | exact Tryz.underlying488 | kernel_rfl⟩
theorem y489 : TyOK 489 (Tryz.t489, Tryz.t489) := ⟨by kernel_rfl, by first | exact Tryz.underlying489 | kernel_rfl⟩
theorem y490 : TyOK 490 (Tryz.t490, Tryz.t490) := ⟨by kernel_rfl, by first | exact Tryz.underlying490 | kernel_rfl⟩
theorem y491 : TyOK 491 (Tryz.t491, Tryz.t491) := ⟨by kernel_rfl, by first | exact Tryz.underlying491 | kernel_rfl⟩
theorem y492 : TyOK 492 (Tryz.t492, Tryz.t492) := ⟨by kernel_rfl, by first | exact Tryz.underlying492 | kernel_rfl⟩
theorem y493 : TyOK 493 (Tryz.t493, Tryz.t493) := ⟨by kernel_rfl, by first | exact Tryz.underlying493 | kernel_rfl⟩
theorem y494 : TyOK 494 (Tryz.t494, Tryz.t494) := ⟨by kernel_rfl, by first | exact Tryz.underlying494 | kernel_rfl⟩
theorem y495 : TyOK 495 (Tryz.t495, Tryz.t495) := ⟨by kernel_rfl, by first | exact Tryz.underlying495 | kernel_rfl⟩
theorem y496 : TyOK 496 (Tryz.t496, Tryz.t496) := ⟨by kernel_rfl, by first | exact Tryz.underlying496 | kernel_rfl⟩
theorem y497 : TyOK 497 (Tryz.t497, Tryz.t497) := ⟨by kernel_rfl, by first | exact Tryz.underlying497 | kernel_rfl⟩
theorem y498 : TyOK 498 (Tryz.t498, Tryz.t498) := ⟨by kernel_rfl, by first | exact Tryz.underlying498 | kernel_rfl⟩
theorem y499 : TyOK 499 (Tryz.t499, Tryz.t499) := ⟨by kernel_rfl, by first | exact Tryz.underlying499 | kernel_rfl⟩
theorem y500 : TyOK 500 (Tryz.t500, Tryz.t500) := ⟨by kernel_rfl, by first | exact Tryz.underlying500 | kernel_rfl⟩
theorem y501 : TyOK 501 (Tryz.t501, Tryz.t501) := ⟨by kernel_rfl, by first | exact Tryz.underlying501 | kernel_rfl⟩
theorem y502 : TyOK 502 (Tryz.t502, Tryz.t502) := ⟨by kernel_rfl, by first | exact Tryz.underlying502 | kernel_rfl⟩
theorem y503 : TyOK 503 (Tryz.t503, Tryz.t503) := ⟨by kernel_rfl, by first | exact Tryz.underlying503 | kernel_rfl⟩
theorem y504 : TyOK 504 (Tryz.t504, Tryz.t504) := ⟨by kernel_rfl, by first | exact Tryz.underlying504 | kernel_rfl⟩
theorem y505 : TyOK 505 (Tryz.t505, Tryz.t504) := ⟨by kernel_rfl, by first | exact Tryz.underlying505 | kernel_rfl⟩
theorem y506 : TyOK 506 (Tryz.t506, Tryz.t506) := ⟨by kernel_rfl, by first | exact Tryz.underlying506 | kernel_rfl⟩
theorem y507 : TyOK 507 (Tryz.t507, Tryz.t507) := ⟨by kernel_rfl, by first | exact Tryz.underlying507 | kernel_rfl⟩
theorem y508 : TyOK 508 (Tryz.t508, Tryz.t508) := ⟨by kernel_rfl, by first | exact Tryz.underlying508 | kernel_rfl⟩
theorem y509 : TyOK 509 (Tryz.t509, Tryz.t509) := ⟨by kernel_rfl, by first | exact Tryz.underlying509 | kernel_rfl⟩
theorem y510 : TyOK 510 (Tryz.t510, Tryz.t510) := ⟨by kernel_rfl, by first | exact Tryz.underlying510 | kernel_rfl⟩
theorem y511 : TyOK 511 (Tryz.t511, Tryz.t511) := ⟨by kernel_rfl, by first | exact Tryz.underlying511 | kernel_rfl⟩
theorem y512 : TyOK 512 (Tryz.t512, Tryz.t512) := ⟨by kernel_rfl, by first | exact Tryz.underlying512 | kernel_rfl⟩
theorem y513 : TyOK 513 (Tryz.t513, Tryz.t513) := ⟨by kernel_rfl, by first | exact Tryz.underlying513 | kernel_rfl⟩
theorem y514 : TyOK 514 (Tryz.t514, Tryz.t514) := ⟨by kernel_rfl, by first | exact Tryz.underlying514 | kernel_rfl⟩
theorem y515 : TyOK 515 (Tryz.t515, Tryz.t515) := ⟨by kernel_rfl, by first | exact Tryz.underlying515 | kernel_rfl⟩
theorem y516 : TyOK 516 (Tryz.t516, Tryz.t516) := ⟨by kernel_rfl, by first | exact Tryz.underlying516 | kernel_rfl⟩
theorem y517 : TyOK 517 (Tryz.t517, Tryz.t517) := ⟨by kernel_rfl, by first | exact Tryz.underlying517 | kernel_rfl⟩
theorem y518 : TyOK 518 (Tryz.t518, Tryz.t518) := ⟨by kernel_rfl, by first | exact Tryz.underlying518 | kernel_rfl⟩
theorem y519 : TyOK 519 (Tryz.t519, Tryz.t519) := ⟨by kernel_rfl, by first | exact Tryz.underlying519 | kernel_rfl⟩
theorem y520 : TyOK 520 (Tryz.t520, Tryz.t520) := ⟨by kernel_rfl, by first | exact Tryz.underlying520 | kernel_rfl⟩
theorem y521 : TyOK 521 (Tryz.t521, Tryz.t521) := ⟨by kernel_rfl, by first | exact Tryz.underlying521 | kernel_rfl⟩
theorem y522 : TyOK 522 (Tryz.t522, Tryz.t521) := ⟨by kernel_rfl, by first | exact Tryz.underlying522 | kernel_rfl⟩
theorem y523 : TyOK 523 (Tryz.t523, Tryz.t523) := ⟨by kernel_rfl, by first | exact Tryz.underlying523 | kernel_rfl⟩
theorem y524 : TyOK 524 (Tryz.t524, Tryz.t524) := ⟨by kernel_rfl, by first | exact Tryz.underlying524 | kernel_rfl⟩
theorem y525 : TyOK 525 (Tryz.t525, Tryz.t524) := ⟨by kernel_rfl, by first | exact Tryz.underlying525 | kernel_rfl⟩
theorem y526 : TyOK 526 (Tryz.t526, Tryz.t5) := ⟨by kernel_rfl, by first | exact Tryz.underlying526 | kernel_rfl⟩
theorem y527 : TyOK 527 (Tryz.t527, Tryz.t5) := ⟨by kernel_rfl, by first | exact Tryz.underlying527 | kernel_rfl⟩
theorem y528 : TyOK 528 (Tryz.t528, Tryz.t528) := ⟨by kernel_rfl, by first | exact Tryz.underlying528 | kernel_rfl⟩
theorem y529 : TyOK 529 (Tryz.t529, Tryz.t21) := ⟨by kernel_rfl, by first | exact Tryz.underlying529 | kernel_rfl⟩
theorem y530 : TyOK 530 (Tryz.t530, Tryz.t21) := ⟨by kernel_rfl, by first | exact Tryz.underlying530 | kernel_rfl⟩
theorem y531 : TyOK 531 (Tryz.t531, Tryz.t531) := ⟨by kernel_rfl, by first | exact Tryz.underlying531 | kernel_rfl⟩
theorem y532 : TyOK 532 (Tryz.t532, Tryz.t531) := ⟨by kernel_rfl, by first | exact Tryz.underlying532 | kernel_rfl⟩
theorem y533 : TyOK 533 (Tryz.t533, Tryz.t533) := ⟨by kernel_rfl, by first | exact Tryz.underlying533 | kernel_rfl⟩
theorem y534 : TyOK 534 (Tryz.t534, Tryz.t534) := ⟨by kernel_rfl, by first | exact Tryz.underlying534 | kernel_rfl⟩
theorem tyTab_ok (t : Nat) : ∀ g, tyTab t = some g → TyOK t g := by
  unfold tyTab
  exact (ndT (ndT (ndT (ndT (ndT (ndT (ndT (ndT (ndT (lfT y0) (lfT y1)) (ndT (lfT y2) (lfT y3))) (ndT (ndT (lfT y4) (lfT y5)) (ndT (lfT y6) (lfT y7)))) (ndT (ndT (ndT (lfT y8) (lfT y9)) (ndT (lfT y10) (lfT y11))) (ndT (ndT (lfT y12) (lfT y13)) (ndT (lfT y14) (lfT y15))))) (ndT (ndT (ndT (ndT (lfT y16) (lfT y17)) (ndT (lfT y18) (lfT y19))) (ndT (ndT (lfT y20) (lfT y21)) (ndT (lfT y22) (lfT y23)))) (ndT (ndT (ndT (lfT y24) (lfT y25)) (ndT (lfT y26) (lfT y27))) (ndT (ndT (lfT y28) (lfT y29)) (ndT (lfT y30) (ndT (lfT y31) (lfT y32))))))) (ndT (ndT (ndT (ndT (ndT (lfT y33) (lfT y34)) (ndT (lfT y35) (lfT y36))) (ndT (ndT (lfT y37) (lfT y38)) (ndT (lfT y39) (lfT y40)))) (ndT (ndT (ndT (lfT y41) (lfT y42)) (ndT (lfT y43) (lfT y44))) (ndT (ndT (lfT y45) (lfT y46)) (ndT (lfT y47) (lfT y48))))) (ndT (ndT (ndT (ndT (lfT y49) (lfT y50)) (ndT (lfT y51) (lfT y52))) (ndT (ndT (lfT y53) (lfT y54)) (ndT (lfT y55) (lfT y56)))) (ndT (ndT (ndT (lfT y57) (lfT y58)) (ndT (lfT y59) (lfT y60))) (ndT (ndT (lfT y61) (lfT y62)) (ndT (lfT y63) (ndT (lfT y64) (lfT y65)))))))) (ndT (ndT (ndT (ndT (ndT (ndT (lfT y66) (lfT y67)) (ndT (lfT y68) (lfT y69))) (ndT (ndT (lfT y70) (lfT y71)) (ndT (lfT y72) (lfT y73)))) (ndT (ndT (ndT (lfT y74) (lfT y75)) (ndT (lfT y76) (lfT y77))) (ndT (ndT (lfT y78) (lfT y79)) (ndT (lfT y80) (lfT y81))))) (ndT (ndT (ndT (ndT (lfT y82) (lfT y83)) (ndT (lfT y84) (lfT y85))) (ndT (ndT (lfT y86) (lfT y87)) (ndT (lfT y88) (lfT y89)))) (ndT (ndT (ndT (lfT y90) (lfT y91)) (ndT (lfT y92) (lfT y93))) (ndT (ndT (lfT y94) (lfT y95)) (ndT (lfT y96) (ndT (lfT y97) (lfT y98))))))) (ndT (ndT (ndT (ndT (ndT (lfT y99) (lfT y100)) (ndT (lfT y101) (lfT y102))) (ndT (ndT (lfT y103) (lfT y104)) (ndT (lfT y105) (lfT y106)))) (ndT (ndT (ndT (lfT y107) (lfT y108)) (ndT (lfT y109) (lfT y110))) (ndT (ndT (lfT y111) (lfT y112)) (ndT (lfT y113) (ndT (lfT y114) (lfT y115)))))) (ndT (ndT (ndT (ndT (lfT y116) (lfT y117)) (ndT (lfT y118) (lfT y119))) (ndT (ndT (lfT y120) (lfT y121)) (ndT (lfT y122) (lfT y123)))) (ndT (ndT (ndT (lfT y124) (lfT y125)) (ndT (lfT y126) (lfT y127))) (ndT (ndT (lfT y128) (lfT y129)) (ndT (lfT y130) (ndT (lfT y131) (lfT y132))))))))) (ndT (ndT (ndT (ndT (ndT (ndT (ndT (lfT y133) (lfT y134)) (ndT (lfT y135) (lfT y136))) (ndT (ndT (lfT y137) (lfT y138)) (ndT (lfT y139) (lfT y140)))) (ndT (ndT (ndT (lfT y141) (lfT y142)) (ndT (lfT y143) (lfT y144))) (ndT (ndT (lfT y145) (lfT y146)) (ndT (lfT y147) (lfT y148))))) (ndT (ndT (ndT (ndT (lfT y149) (lfT y150)) (ndT (lfT y151) (lfT y152))) (ndT (ndT (lfT y153) (lfT y154)) (ndT (lfT y155) (lfT y156)))) (ndT (ndT (ndT (lfT y157) (lfT y158)) (ndT (lfT y159) (lfT y160))) (ndT (ndT (lfT y161) (lfT y162)) (ndT (lfT y163) (ndT (lfT y164) (lfT y165))))))) (ndT (ndT (ndT (ndT (ndT (lfT y166) (lfT y167)) (ndT (lfT y168) (lfT y169))) (ndT (ndT (lfT y170) (lfT y171)) (ndT (lfT y172) (lfT y173)))) (ndT (ndT (ndT (lfT y174) (lfT y175)) (ndT (lfT y176) (lfT y177))) (ndT (ndT (lfT y178) (lfT y179)) (ndT (lfT y180) (ndT (lfT y181) (lfT y182)))))) (ndT (ndT (ndT (ndT (lfT y183) (lfT y184)) (ndT (lfT y185) (lfT y186))) (ndT (ndT (lfT y187) (lfT y188)) (ndT (lfT y189) (lfT y190)))) (ndT (ndT (ndT (lfT y191) (lfT y192)) (ndT (lfT y193) (lfT y194))) (ndT (ndT (lfT y195) (lfT y196)) (ndT (lfT y197) (ndT (lfT y198) (lfT y199)))))))) (ndT (ndT (ndT (ndT (ndT (ndT (lfT y200) (lfT y201)) (ndT (lfT y202) (lfT y203))) (ndT (ndT (lfT y204) (lfT y205)) (ndT (lfT y206) (lfT y207)))) (ndT (ndT (ndT (lfT y208) (lfT y209)) (ndT (lfT y210) (lfT y211))) (ndT (ndT (lfT y212) (lfT y213)) (ndT (lfT y214) (lfT y215))))) (ndT (ndT (ndT (ndT (lfT y216) (lfT y217)) (ndT (lfT y218) (lfT y219))) (ndT (ndT (lfT y220) (lfT y221)) (ndT (lfT y222) (lfT y223)))) (ndT (ndT (ndT (lfT y224) (lfT y225)) (ndT (lfT y226) (lfT y227))) (ndT (ndT (lfT y228) (lfT y229)) (ndT (lfT y230) (ndT (lfT y231) (lfT y232))))))) (ndT (ndT (ndT (ndT (ndT (lfT y233) (lfT y234)) (ndT (lfT y235) (lfT y236))) (ndT (ndT (lfT y237) (lfT y238)) (ndT (lfT y239) (lfT y240)))) (ndT (ndT (ndT (lfT y241) (lfT y242)) (ndT (lfT y243) (lfT y244))) (ndT (ndT (lfT y245) (lfT y246)) (ndT (lfT y247) (ndT (lfT y248) (lfT y249)))))) (ndT (ndT (ndT (ndT (lfT y250) (lfT y251)) (ndT (lfT y252) (lfT y253))) (ndT (ndT (lfT y254) (lfT y255)) (ndT (lfT y256) (lfT y257)))) (ndT (ndT (ndT (lfT y258) (lfT y259)) (ndT (lfT y260) (lfT y261))) (ndT (ndT (lfT y262) (lfT y263)) (ndT (lfT y264) (ndT (lfT y265) (lfT y266)))))))))) (ndT (ndT (ndT (ndT (ndT (ndT (ndT (ndT (lfT y267) (lfT y268)) (ndT (lfT y269) (lfT y270))) (ndT (ndT (lfT y271) (lfT y272)) (ndT (lfT y273) (lfT y274)))) (ndT (ndT (ndT (lfT y275) (lfT y276)) (ndT (lfT y277) (lfT y278))) (ndT (ndT (lfT y279) (lfT y280)) (ndT (lfT y281) (lfT y282))))) (ndT (ndT (ndT (ndT (lfT y283) (lfT y284)) (ndT (lfT y285) (lfT y286))) (ndT (ndT (lfT y287) (lfT y288)) (ndT (lfT y289) (lfT y290)))) (ndT (ndT (ndT (lfT y291) (lfT y292)) (ndT (lfT y293) (lfT y294))) (ndT (ndT (lfT y295) (lfT y296)) (ndT (lfT y297) (ndT (lfT y298) (lfT y299))))))) (ndT (ndT (ndT (ndT (ndT (lfT y300) (lfT y301)) (ndT (lfT y302) (lfT y303))) (ndT (ndT (lfT y304) (lfT y305)) (ndT (lfT y306) (lfT y307)))) (ndT (ndT (ndT (lfT y308) (lfT y309)) (ndT (lfT y310) (lfT y311))) (ndT (ndT (lfT y312) (lfT y313)) (ndT (lfT y314) (ndT (lfT y315) (lfT y316)))))) (ndT (ndT (ndT (ndT (lfT y317) (lfT y318)) (ndT (lfT y319) (lfT y320))) (ndT (ndT (lfT y321) (lfT y322)) (ndT (lfT y323) (lfT y324)))) (ndT (ndT (ndT (lfT y325) (lfT y326)) (ndT (lfT y327) (lfT y328))) (ndT (ndT (lfT y329) (lfT y330)) (ndT (lfT y331) (ndT (lfT y332) (lfT y333)))))))) (ndT (ndT (ndT (ndT (ndT (ndT (lfT y334) (lfT y335)) (ndT (lfT y336) (lfT y337))) (ndT (ndT (lfT y338) (lfT y339)) (ndT (lfT y340) (lfT y341)))) (ndT (ndT (ndT (lfT y342) (lfT y343)) (ndT (lfT y344) (lfT y345))) (ndT (ndT (lfT y346) (lfT y347)) (ndT (lfT y348) (lfT y349))))) (ndT (ndT (ndT (ndT (lfT y350) (lfT y351)) (ndT (lfT y352) (lfT y353))) (ndT (ndT (lfT y354) (lfT y355)) (ndT (lfT y356) (lfT y357)))) (ndT (ndT (ndT (lfT y358) (lfT y359)) (ndT (lfT y360) (lfT y361))) (ndT (ndT (lfT y362) (lfT y363)) (ndT (lfT y364) (ndT (lfT y365) (lfT y366))))))) (ndT (ndT (ndT (ndT (ndT (lfT y367) (lfT y368)) (ndT (lfT y369) (lfT y370))) (ndT (ndT (lfT y371) (lfT y372)) (ndT (lfT y373) (lfT y374)))) (ndT (ndT (ndT (lfT y375) (lfT y376)) (ndT (lfT y377) (lfT y378))) (ndT (ndT (lfT y379) (lfT y380)) (ndT (lfT y381) (ndT (lfT y382) (lfT y383)))))) (ndT (ndT (ndT (ndT (lfT y384) (lfT y385)) (ndT (lfT y386) (lfT y387))) (ndT (ndT (lfT y388) (lfT y389)) (ndT (lfT y390) (lfT y391)))) (ndT (ndT (ndT (lfT y392) (lfT y393)) (ndT (lfT y394) (lfT y395))) (ndT (ndT (lfT y396) (lfT y397)) (ndT (lfT y398) (ndT (lfT y399) (lfT y400))))))))) (ndT (ndT (ndT (ndT (ndT (ndT (ndT (lfT y401) (lfT y402)) (ndT (lfT y403) (lfT y404))) (ndT (ndT (lfT y405) (lfT y406)) (ndT (lfT y407) (lfT y408)))) (ndT (ndT (ndT (lfT y409) (lfT y410)) (ndT (lfT y411) (lfT y412))) (ndT (ndT (lfT y413) (lfT y414)) (ndT (lfT y415) (lfT y416))))) (ndT (ndT (ndT (ndT (lfT y417) (lfT y418)) (ndT (lfT y419) (lfT y420))) (ndT (ndT (lfT y421) (lfT y422)) (ndT (lfT y423) (lfT y424)))) (ndT (ndT (ndT (lfT y425) (lfT y426)) (ndT (lfT y427) (lfT y428))) (ndT (ndT (lfT y429) (lfT y430)) (ndT (lfT y431) (ndT (lfT y432) (lfT y433))))))) (ndT (ndT (ndT (ndT (ndT (lfT y434) (lfT y435)) (ndT (lfT y436) (lfT y437))) (ndT (ndT (lfT y438) (lfT y439)) (ndT (lfT y440) (lfT y441)))) (ndT (ndT (ndT (lfT y442) (lfT y443)) (ndT (lfT y444) (lfT y445))) (ndT (ndT (lfT y446) (lfT y447)) (ndT (lfT y448) (ndT (lfT y449) (lfT y450)))))) (ndT (ndT (ndT (ndT (lfT y451) (lfT y452)) (ndT (lfT y453) (lfT y454))) (ndT (ndT (lfT y455) (lfT y456)) (ndT (lfT y457) (lfT y458)))) (ndT (ndT (ndT (lfT y459) (lfT y460)) (ndT (lfT y461) (lfT y462))) (ndT (ndT (lfT y463) (lfT y464)) (ndT (lfT y465) (ndT (lfT y466) (lfT y467)))))))) (ndT (ndT (ndT (ndT (ndT (ndT (lfT y468) (lfT y469)) (ndT (lfT y470) (lfT y471))) (ndT (ndT (lfT y472) (lfT y473)) (ndT (lfT y474) (lfT y475)))) (ndT (ndT (ndT (lfT y476) (lfT y477)) (ndT (lfT y478) (lfT y479))) (ndT (ndT (lfT y480) (lfT y481)) (ndT (lfT y482) (lfT y483))))) (ndT (ndT (ndT (ndT (lfT y484) (lfT y485)) (ndT (lfT y486) (lfT y487))) (ndT (ndT (lfT y488) (lfT y489)) (ndT (lfT y490) (lfT y491)))) (ndT (ndT (ndT (lfT y492) (lfT y493)) (ndT (lfT y494) (lfT y495))) (ndT (ndT (lfT y496) (lfT y497)) (ndT (lfT y498) (ndT (lfT y499) (lfT y500))))))) (ndT (ndT (ndT (ndT (ndT (lfT y501) (lfT y502)) (ndT (lfT y503) (lfT y504))) (ndT (ndT (lfT y505) (lfT y506)) (ndT (lfT y507) (lfT y508)))) (ndT (ndT (ndT (lfT y509) (lfT y510)) (ndT (lfT y511) (lfT y512))) (ndT (ndT (lfT y513) (lfT y514)) (ndT (lfT y515) (ndT (lfT y516) (lfT y517)))))) (ndT (ndT (ndT (ndT (lfT y518) (lfT y519)) (ndT (lfT y520) (lfT y521))) (ndT (ndT (lfT y522) (lfT y523)) (ndT (lfT y524) (lfT y525)))) (ndT (ndT (ndT (lfT y526) (lfT y527)) (ndT (lfT y528) (lfT y529))) (ndT (ndT (lfT y530) (lfT y531)) (ndT (lfT y532) (ndT (lfT y533) (lfT y534)))))))))))
end Go.Proofs.YtgpkpheejefiiaaGreatDoor
end
section
set_option linter.unusedVariables false
set_option linter.unusedSimpArgs false
namespace Go.Proofs.YtgpkpheejefiiaaGreatDoor
open Go.RowKit
theorem ofConsts_ok (r : Pl) : ∀ (l : List Value) (m : List SV), ofConsts l = some m → EmbL r m l
  | [], m, e => by simp [ofConsts] at e; subst e; exact .nil
  | v :: l, m, e => by
    simp only [ofConsts] at e
    split at e
    · rename_i s k h1 h2
      obtain rfl := Option.some.inj e
      exact .cons _ _ _ _ (ofConst_emb r h1) (ofConsts_ok r l k h2)
    · simp at e
theorem infI_ok {i : TypeInfo} {row : Bool} {n : Nat} {z : List SV} (h : infI i row = some (n, z)) : ∃ v, i.zero = some v ∧ i.size = n ∧ v.cells.size = n ∧ (∀ r, EmbL r z v.cells.toList) ∧ i.bytes ≤ 1000000 ∧ isAggV v = row := by
  unfold infI at h
  split at h
  · rename_i v hv
    split at h
    · rename_i hc
      split at h
      · rename_i m hm
        simp at h
        obtain ⟨h1, h2⟩ := h
        subst h2
        exact ⟨v, hv, h1, by rw [hc.1, h1], fun r => ofConsts_ok r _ _ hm, hc.2.1, hc.2.2⟩
      · simp at h
    · simp at h
  · simp at h
theorem tabZ_und {t : TypeId} {d : TypeDesc} (h : tabZ.und t = some d) : Tryz.prog.underlying t = some d := by
  have h' : (oB (tyTab t) fun x => some x.2.desc) = some d := h
  generalize hq : tyTab t = q at h'
  cases q with
  | none => exact nosome h'
  | some x =>
  replace h' : some x.2.desc = some d := h'
  obtain rfl := Option.some.inj h'
  exact (tyTab_ok t x hq).2
theorem tabZ_inf {t : TypeId} {n : Nat} {z : List SV} (h : tabZ.inf t = some (n, z)) : ∃ i v, Tryz.prog.info? t = some i ∧ i.zero = some v ∧ i.size = n ∧ v.cells.size = n ∧ (∀ r, EmbL r z v.cells.toList) ∧ i.bytes ≤ 1000000 ∧ ∀ d, tabZ.und t = some d → isAggV v = isRowB d := by
  have h' : (oB (tyTab t) fun x => infI x.1 (isRowB x.2.desc)) = some (n, z) := h
  generalize hq : tyTab t = q at h'
  cases q with
  | none => exact nosome h'
  | some x =>
  have h1 := hq
  replace h' : infI x.1 (isRowB x.2.desc) = some (n, z) := h'
  obtain ⟨v, k1, k2, k3, k4, k5, k6⟩ := infI_ok h'
  have hi : Tryz.prog.info? t = some x.1 := (tyTab_ok t x h1).1
  refine ⟨x.1, v, hi, k1, k2, k3, k4, k5, fun d hd => ?_⟩
  have hd' : (oB (tyTab t) fun x => some x.2.desc) = some d := hd
  generalize hq2 : tyTab t = q2 at hd' hq
  subst hq
  replace hd' : some x.2.desc = some d := hd'
  have e := Option.some.inj hd'
  rw [← e]
  exact k6
/-- The tables are right, if == of the two array types is. -/
theorem tabZ_okE (heq : ∀ ty n, tabZ.eqT ty = some n → ∀ (r : Pl) (x y : SV) (u v : Value) (b : Bool) (op : BinOp) (c d : Operand) (w : World), Emb r x u → Emb r y v → eqAgg n x y = some b → (Op.equal ty u v).run Tryz.prog w = .ok b w ∧ (eqGuard op ty c d u v).run Tryz.prog w = .ok () w) : TabOK tabZ := by
  refine ⟨fun t d h => tabZ_und h, fun t n z h => ?_, fun t s h => ?_, heq⟩
  · obtain ⟨i, v, k1, k2, k3, k4, k5, k6, _⟩ := tabZ_inf h
    exact ⟨i, v, k1, k3, k2, k4, k5, k6⟩
  · unfold zeroOf at h
    split at h
    · rename_i d n z hd hi
      obtain ⟨i, v, k1, k2, k3, k4, k5, k6, k7⟩ := tabZ_inf hi
      have k7 := k7 d hd
      refine ⟨i, v, k1, k2, fun r => ?_⟩
      rw [bI_eq] at h
      split at h
      · rename_i hr
        obtain rfl := Option.some.inj h
        rw [hr] at k7
        cases v <;> first | (simp [isAggV] at k7; done) | skip
        rename_i u
        have := k5 r
        exact .agg _ _ (by simpa [Value.cells] using this)
      · rename_i hr
        have hr' : isRowB d = false := by simpa using hr
        rw [hr'] at k7
        split at h
        · rename_i s'
          obtain rfl := Option.some.inj h
          have hc : v.cells = #[v] := by
            cases v <;> first | rfl | (simp [isAggV] at k7; done)
          have := k5 r
          rw [hc] at this
          cases this with
          | cons _ _ _ _ h1 _ => exact h1
        · simp at h
    · simp at h
theorem Emb.aggI {r : Pl} {l : List SV} {v : Value} (h : Emb r (.agg l) v) : ∃ u, v = .agg u.toArray ∧ EmbL r l u := by cases h with | agg _ u h => exact ⟨u, rfl, h⟩
theorem eqArr_cons {a : SV} {l m : List SV} {b : Bool} (h : eqArr (a :: l) m = some b) : ∃ k x y m' c, a = .int k x ∧ m = .int k y :: m' ∧ eqArr l m' = some c ∧ b = (x == y && c) := by
  cases m with
  | nil => exact nosome h
  | cons d m =>
    obtain ⟨c, h1, h2⟩ := oB_some (x := eqInt a d) h
    obtain ⟨e, h3, h4⟩ := oB_some h2
    have h4 := Option.some.inj h4
    obtain ⟨k, x, ea, h5⟩ := onInt_some h1
    obtain ⟨j, y, ed, h6⟩ := onInt_some h5
    obtain ⟨hk, h7⟩ := bI_some h6
    have hk := kEq_true hk
    have h7 := Option.some.inj h7
    subst ea; subst ed; subst hk
    exact ⟨_, _, _, _, _, rfl, rfl, h3, by rw [← h4, ← h7, aB_eq, eqI_eq]⟩
theorem eqArr_nil {m : List SV} {b : Bool} (h : eqArr [] m = some b) : m = [] ∧ b = true := by
  cases m with
  | nil => exact ⟨rfl, (Option.some.inj h).symm⟩
  | cons d m => exact nosome h
theorem EmbL.int_cons {r : Pl} {k : IntKind} {x : Int} {l : List SV} {u : List Value} (h : EmbL r (.int k x :: l) u) : ∃ u', u = .int k x :: u' ∧ EmbL r l u' := by
  cases h with | cons _ v _ u h k => cases h; exact ⟨u, rfl, k⟩
set_option maxRecDepth 100000 in
theorem eqItems107 (d : Nat) (xs ys : Array Value) (w : World) : ∀ (l m : List (IntKind × Int)), l.map (·.1) = m.map (·.1) → ∀ (is : List Nat), is.length = l.length → (∀ k, k < l.length → ∃ p q, l[k]? = some p ∧ m[k]? = some q ∧ xs[(is[k]?).getD 0]? = some (.int p.1 p.2) ∧ ys[(is[k]?).getD 0]? = some (.int q.1 q.2)) →
    (Op.eqItems (d + 1) 107 (Tryz.prog.cellsOf 107) xs ys is).run Tryz.prog w = .ok (decide (l.map (·.2) = m.map (·.2))) w := by
  have h1 : Tryz.prog.cellsOf 107 = 1 := by kernel_rfl
  have hp : Tryz.prog.plainKey 107 = true := by kernel_rfl
  have hv := Tryz.underlying107
  rw [h1]
  intro l
  induction l with
  | nil => intro m hm is hi hh
           have : m = [] := by cases m <;> simp_all
           subst this
           have : is = [] := List.eq_nil_of_length_eq_zero (by simpa using hi)
           subst this
           simp [Op.eqItems]
  | cons p l ih =>
    intro m hm is hi hh
    cases is with
    | nil => simp at hi
    | cons i is =>
      cases m with
      | nil => simp at hm
      | cons q m =>
        obtain ⟨p', q', e1, e2, e3, e4⟩ := hh 0 (by simp)
        simp at e1 e2 e3 e4 hm
        subst e1; subst e2
        have ih' := ih m hm.2 is (by simpa using hi) (fun k hk => by simpa using hh (k + 1) (by simpa using hk))
        obtain ⟨a, x⟩ := p
        obtain ⟨b, y⟩ := q
        simp only at hm e3 e4
        obtain ⟨rfl, _⟩ := hm
        simp only [Op.eqItems, Sem.run_bind, Nat.mul_one, run_part_plain w hp e3, run_part_plain w hp e4, Result.andThen_ok, Op.equalIn, run_underlying hv]
        by_cases hxy : x = y
        · subst hxy
          simpa using ih'
        · simp [hxy]
theorem eqArr_vals {r : Pl} {l m : List SV} {b : Bool} {u v : List Value} (h : eqArr l m = some b) (hu : EmbL r l u) (hv : EmbL r m v) :
    ∃ p q : List (IntKind × Int), p.map (·.1) = q.map (·.1) ∧ u = p.map (fun z => Value.int z.1 z.2) ∧ v = q.map (fun z => Value.int z.1 z.2) ∧ b = decide (p.map (·.2) = q.map (·.2)) ∧ p.length = l.length := by
  induction l generalizing m b u v with
  | nil =>
    obtain ⟨rfl, rfl⟩ := eqArr_nil h
    cases hu; cases hv
    exact ⟨[], [], rfl, rfl, rfl, by simp, rfl⟩
  | cons a l ih =>
    obtain ⟨k, x, y, m', c, rfl, rfl, h1, rfl⟩ := eqArr_cons h
    obtain ⟨u', eu, hu'⟩ := hu.int_cons
    obtain ⟨v', ev, hv'⟩ := hv.int_cons
    obtain ⟨p, q, e1, rfl, rfl, rfl, e2⟩ := ih h1 hu' hv'
    rw [eu, ev]
    refine ⟨(k, x) :: p, (k, y) :: q, by simp [e1], by simp, by simp, ?_, by simp [e2]⟩
    by_cases hxy : x = y <;> simp [hxy]
theorem eqG109 : Tryz.prog.eqGuardType Tryz.prog.depth 109 = false := by kernel_rfl
theorem eqG363 : Tryz.prog.eqGuardType Tryz.prog.depth 363 = false := by kernel_rfl
theorem guard_agg {ty : TypeId} (h : Tryz.prog.eqGuardType Tryz.prog.depth ty = false) (op : BinOp) (c d : Operand) (u v : Array Value) (w : World) : (eqGuard op ty c d (.agg u) (.agg v)).run Tryz.prog w = .ok () w := by
  unfold eqGuard
  cases op <;> simp [h]
theorem eq109 (d : Nat) (u v : List Value) (p q : List (IntKind × Int)) (h1 : p.map (·.1) = q.map (·.1)) (hu : u = p.map (fun z => Value.int z.1 z.2)) (hv : v = q.map (fun z => Value.int z.1 z.2)) (hl : p.length = 4) (w : World) :
    (Op.equalIn (d + 1 + 1) 109 (.agg u.toArray) (.agg v.toArray)).run Tryz.prog w = .ok (decide (p.map (·.2) = q.map (·.2))) w := by
  obtain ⟨i, hi⟩ := info_of_underlying Tryz.underlying107
  rw [run_equalIn_array w (d + 1) u.toArray v.toArray Tryz.underlying109 hi]
  have hlen : q.length = 4 := by have := congrArg List.length h1; simp at this; omega
  refine eqItems107 d u.toArray v.toArray w p q h1 (List.range 4) (by simp [hl]) (fun k hk => ?_)
  have hk4 : k < 4 := by omega
  refine ⟨p[k], q[k], by simp, by simp, ?_, ?_⟩
  · subst hu; simp [hk4, hk]
  · subst hv; simp [hk4, hlen]
set_option maxRecDepth 100000 in
theorem stood363 : Tryz.prog.stoodInHeld 363 = false := by kernel_rfl
set_option maxRecDepth 100000 in
theorem eq363 (d : Nat) (u v : List Value) (p q : List (IntKind × Int)) (h1 : p.map (·.1) = q.map (·.1)) (hu : u = p.map (fun z => Value.int z.1 z.2)) (hv : v = q.map (fun z => Value.int z.1 z.2)) (hl : p.length = 5) (w : World) :
    (Op.equalIn (d + 1 + 1 + 1) 363 (.agg u.toArray) (.agg v.toArray)).run Tryz.prog w = .ok (decide (p.map (·.2) = q.map (·.2))) w := by
  have hlen : q.length = 5 := by have := congrArg List.length h1; simp at this; omega
  obtain ⟨⟨a, x⟩, p, rfl⟩ : ∃ b l, p = b :: l := by cases p with | nil => simp at hl | cons b l => exact ⟨b, l, rfl⟩
  obtain ⟨⟨b, y⟩, q, rfl⟩ : ∃ b l, q = b :: l := by cases q with | nil => simp at hlen | cons b l => exact ⟨b, l, rfl⟩
  simp only [List.map_cons, List.cons.injEq] at h1 hu hv
  obtain ⟨rfl, h1⟩ := h1
  have hl4 : p.length = 4 := by simpa using hl
  have hq4 : q.length = 4 := by simpa using hlen
  have K := eq109 d (p.map fun z => Value.int z.1 z.2) (q.map fun z => Value.int z.1 z.2) p q h1 rfl rfl hl4 w
  obtain ⟨i, hi⟩ := info_of_underlying Tryz.underlying109
  have hc : Tryz.prog.cellsOf 109 = 4 := by kernel_rfl
  have hp1 : (part 202 u.toArray 0).run Tryz.prog w = .ok (.int a x) w := run_part_plain w (by kernel_rfl) (by rw [hu]; rfl)
  have hp2 : (part 202 v.toArray 0).run Tryz.prog w = .ok (.int a y) w := run_part_plain w (by kernel_rfl) (by rw [hv]; rfl)
  have part109 : ∀ (l : List Value) (z : Value) (cs : List Value), cs = z :: l → l.length = 4 → (part 109 cs.toArray 1).run Tryz.prog w = .ok (.agg l.toArray) w := fun l z cs e hl => by
    subst e
    simp only [part, Sem.run_bind, run_isAgg' Tryz.underlying109, Result.andThen_ok, isRowB, if_true, run_sizeOf w hi, hc, Sem.run_pure]
    have e : ((z :: l).toArray.extract 1 (1 + 4)) = l.toArray := by
      rw [List.extract_toArray, List.extract_eq_take_drop]
      simp [← hl]
    rw [e]
  have hp3 := part109 _ _ u hu (by simp [hl4])
  have hp4 := part109 _ _ v hv (by simp [hq4])
  have e1 : (Op.equalIn (d + 1 + 1) 202 (.int a x) (.int a y)).run Tryz.prog w = .ok (x == y) w := by
    simp [Op.equalIn, run_underlying Tryz.underlying202]
  have hst := stood363
  unfold Op.equalIn
  simp [run_underlying Tryz.underlying363, hst]
  change (Op.equalIn (d + 2) 202 (.int a x) (.int a y)).run Tryz.prog w = _ at e1
  change (Op.equalIn (d + 2) 109 _ _).run Tryz.prog w = _ at K
  simp only [hp1, hp2, hp3, hp4, e1, K, Result.andThen_ok]
  by_cases hxy : x = y
  · subst hxy
    by_cases hpq : p.map (·.2) = q.map (·.2) <;> simp [hpq]
  · simp [hxy]
theorem tabZ_ok : TabOK tabZ := by
  refine tabZ_okE (fun ty n ht r x y u v b op c d w hx hy h => ?_)
  obtain ⟨l, ex, h1⟩ := onAgg_some h
  obtain ⟨m, ey, h2⟩ := onAgg_some h1
  obtain ⟨h3, h4⟩ := bI_some h2
  subst ex; subst ey
  obtain ⟨u', rfl, hu⟩ := hx.aggI
  obtain ⟨v', rfl, hv⟩ := hy.aggI
  obtain ⟨p, q, e1, e2, e3, e4, e5⟩ := eqArr_vals h4 hu hv
  rw [lenS_eq] at h3
  have h3 : l.length = n := Nat.eq_of_beq_eq_true h3
  have ht : bI (Nat.beq ty 109) (some 4) (bI (Nat.beq ty 363) (some 5) none) = some n := ht
  rw [bI_eq, bI_eq] at ht
  split at ht
  · rename_i hty
    have hty : ty = 109 := Nat.eq_of_beq_eq_true hty
    subst hty
    have hn : 4 = n := Option.some.inj ht
    refine ⟨?_, guard_agg eqG109 op c d _ _ w⟩
    rw [e4]
    show (Op.equalIn (9998 + 1 + 1) 109 _ _).run Tryz.prog w = _
    generalize 9998 = d9
    exact eq109 d9 u' v' p q e1 e2 e3 (by omega) w
  · split at ht
    · rename_i hty
      have hty : ty = 363 := Nat.eq_of_beq_eq_true hty
      subst hty
      have hn : 5 = n := Option.some.inj ht
      refine ⟨?_, guard_agg eqG363 op c d _ _ w⟩
      rw [e4]
      show (Op.equalIn (9997 + 1 + 1 + 1) 363 _ _).run Tryz.prog w = _
      generalize 9997 = d9
      exact eq363 d9 u' v' p q e1 e2 e3 (by omega) w
    · exact nosome ht
end Go.Proofs.YtgpkpheejefiiaaGreatDoor
end
