/- The plans of the program's drawn regions are right: checked by the kernel. | The table of functions is the program's. -/
import Derived.Test.YtgpkpheejefiiaaGreatDoorX03
import Derived.Test.YtgpkpheejefiiaaGreatDoorX11
section
set_option linter.unusedVariables false
set_option maxRecDepth 100000
namespace Go.Proofs.YtgpkpheejefiiaaGreatDoor
noncomputable def fnB (f : Nat) : Bool := match fnTab f with
  | some g => (match g.body with | some c => codeB tabZ g.ntmps (planTab f) c | none => true)
  | none => true
theorem fnB_a : (List.range' 0 100).all fnB = true := by decide +kernel
theorem fnB_b : (List.range' 100 100).all fnB = true := by decide +kernel
theorem fnB_c : (List.range' 200 100).all fnB = true := by decide +kernel
theorem fnB_d : (List.range' 300 100).all fnB = true := by decide +kernel
theorem fnB_e : (List.range' 400 100).all fnB = true := by decide +kernel
theorem fnB_all (f : Nat) (h : f < 500) : fnB f = true := by
  have key : ∀ s, (List.range' s 100).all fnB = true → s ≤ f → f < s + 100 → fnB f = true := fun s hs h1 h2 => List.all_eq_true.1 hs f (List.mem_range'_1.2 ⟨h1, h2⟩)
  by_cases h1 : f < 100
  · exact key 0 fnB_a (by omega) (by omega)
  · by_cases h2 : f < 200
    · exact key 100 fnB_b (by omega) (by omega)
    · by_cases h3 : f < 300
      · exact key 200 fnB_c (by omega) (by omega)
      · by_cases h4 : f < 400
        · exact key 300 fnB_d (by omega) (by omega)
        · exact key 400 fnB_e (by omega) (by omega)
theorem fnB_use {f : Nat} (h : fnB f = true) {g : Func} (hf : fnTab f = some g) {c : Code} (hb : g.body = some c) : codeB tabZ g.ntmps (planTab f) c = true := by
  unfold fnB at h
  rw [hf] at h
  simp only [hb] at h
  exact h
/-- All drawn regions are right. -/
theorem plans_ok (hT : TabOK tabZ) (hm : Tryz.prog.follows .mixedOrders = true) (hlt : ∀ f g, fnTab f = some g → f < 500) (f : Nat) (g : Func) (c : Code) (hf : fnTab f = some g) (hb : g.body = some c) : AnyOK tabZ g.ntmps (planTab f) c :=
  codeB_ok hT hm c (fnB_use (fnB_all f (hlt f g hf)) hf hb)
end Go.Proofs.YtgpkpheejefiiaaGreatDoor
end
section
set_option linter.unusedVariables false
set_option maxRecDepth 100000
namespace Go.Proofs.YtgpkpheejefiiaaGreatDoor
open Go.RowKit
def FOK (f : Nat) (g : Func) : Prop := Tryz.prog.funcs[f]? = some g ∧ g.name ≠ "runtime.NumGoroutine" ∧ f < 500
theorem nd {c : Bool} {a b : Option Func} {Q : Func → Prop} (ha : ∀ g, a = some g → Q g) (hb : ∀ g, b = some g → Q g) : ∀ g, bI c a b = some g → Q g := by
  cases c
  · exact hb
  · exact ha
theorem lf {f k : Nat} {x : Func} (h : FOK k x) : ∀ g, bI (Nat.beq f k) (some x) none = some g → FOK f g := by
  intro g hg
  have hq := bI_some hg
  have e1 : f = k := Nat.eq_of_beq_eq_true hq.1
  have e2 : x = g := Option.some.inj hq.2
  rw [e1, ← e2]
  exact h
theorem k3 : FOK 3 Tryz.f3 := ⟨Tryz.func3, by decide +kernel, by decide⟩
theorem k4 : FOK 4 Tryz.f4 := ⟨Tryz.func4, by decide +kernel, by decide⟩
theorem k5 : FOK 5 Tryz.f5 := ⟨Tryz.func5, by decide +kernel, by decide⟩
theorem k6 : FOK 6 Tryz.f6 := ⟨Tryz.func6, by decide +kernel, by decide⟩
theorem k7 : FOK 7 Tryz.f7 := ⟨Tryz.func7, by decide +kernel, by decide⟩
theorem k8 : FOK 8 Tryz.f8 := ⟨Tryz.func8, by decide +kernel, by decide⟩
theorem k9 : FOK 9 Tryz.f9 := ⟨Tryz.func9, by decide +kernel, by decide⟩
theorem k10 : FOK 10 Tryz.f10 := ⟨Tryz.func10, by decide +kernel, by decide⟩
theorem k11 : FOK 11 Tryz.f11 := ⟨Tryz.func11, by decide +kernel, by decide⟩
theorem k12 : FOK 12 Tryz.f12 := ⟨Tryz.func12, by decide +kernel, by decide⟩
theorem k13 : FOK 13 Tryz.f13 := ⟨Tryz.func13, by decide +kernel, by decide⟩
theorem k14 : FOK 14 Tryz.f14 := ⟨Tryz.func14, by decide +kernel, by decide⟩
theorem k15 : FOK 15 Tryz.f15 := ⟨Tryz.func15, by decide +kernel, by decide⟩
theorem k16 : FOK 16 Tryz.f16 := ⟨Tryz.func16, by decide +kernel, by decide⟩
theorem k17 : FOK 17 Tryz.f17 := ⟨Tryz.func17, by decide +kernel, by decide⟩
theorem k18 : FOK 18 Tryz.f18 := ⟨Tryz.func18, by decide +kernel, by decide⟩
theorem k19 : FOK 19 Tryz.f19 := ⟨Tryz.func19, by decide +kernel, by decide⟩
theorem k20 : FOK 20 Tryz.f20 := ⟨Tryz.func20, by decide +kernel, by decide⟩
theorem k21 : FOK 21 Tryz.f21 := ⟨Tryz.func21, by decide +kernel, by decide⟩
theorem k22 : FOK 22 Tryz.f22 := ⟨Tryz.func22, by decide +kernel, by decide⟩
theorem k23 : FOK 23 Tryz.f23 := ⟨Tryz.func23, by decide +kernel, by decide⟩
theorem k24 : FOK 24 Tryz.f24 := ⟨Tryz.func24, by decide +kernel, by decide⟩
theorem k25 : FOK 25 Tryz.f25 := ⟨Tryz.func25, by decide +kernel, by decide⟩
theorem k26 : FOK 26 Tryz.f26 := ⟨Tryz.func26, by decide +kernel, by decide⟩
theorem k27 : FOK 27 Tryz.f27 := ⟨Tryz.func27, by decide +kernel, by decide⟩
theorem k28 : FOK 28 Tryz.f28 := ⟨Tryz.func28, by decide +kernel, by decide⟩
theorem k29 : FOK 29 Tryz.f29 := ⟨Tryz.func29, by decide +kernel, by decide⟩
theorem k30 : FOK 30 Tryz.f30 := ⟨Tryz.func30, by decide +kernel, by decide⟩
theorem k31 : FOK 31 Tryz.f31 := ⟨Tryz.func31, by decide +kernel, by decide⟩
theorem k32 : FOK 32 Tryz.f32 := ⟨Tryz.func32, by decide +kernel, by decide⟩
theorem k33 : FOK 33 Tryz.f33 := ⟨Tryz.func33, by decide +kernel, by decide⟩
theorem k34 : FOK 34 Tryz.f34 := ⟨Tryz.func34, by decide +kernel, by decide⟩
theorem k35 : FOK 35 Tryz.f35 := ⟨Tryz.func35, by decide +kernel, by decide⟩
theorem k36 : FOK 36 Tryz.f36 := ⟨Tryz.func36, by decide +kernel, by decide⟩
theorem k37 : FOK 37 Tryz.f37 := ⟨Tryz.func37, by decide +kernel, by decide⟩
theorem k38 : FOK 38 Tryz.f38 := ⟨Tryz.func38, by decide +kernel, by decide⟩
theorem k39 : FOK 39 Tryz.f39 := ⟨Tryz.func39, by decide +kernel, by decide⟩
theorem k40 : FOK 40 Tryz.f40 := ⟨Tryz.func40, by decide +kernel, by decide⟩
theorem k41 : FOK 41 Tryz.f41 := ⟨Tryz.func41, by decide +kernel, by decide⟩
theorem k42 : FOK 42 Tryz.f42 := ⟨Tryz.func42, by decide +kernel, by decide⟩
theorem k43 : FOK 43 Tryz.f43 := ⟨Tryz.func43, by decide +kernel, by decide⟩
theorem k44 : FOK 44 Tryz.f44 := ⟨Tryz.func44, by decide +kernel, by decide⟩
theorem k45 : FOK 45 Tryz.f45 := ⟨Tryz.func45, by decide +kernel, by decide⟩
theorem k46 : FOK 46 Tryz.f46 := ⟨Tryz.func46, by decide +kernel, by decide⟩
theorem k47 : FOK 47 Tryz.f47 := ⟨Tryz.func47, by decide +kernel, by decide⟩
theorem k48 : FOK 48 Tryz.f48 := ⟨Tryz.func48, by decide +kernel, by decide⟩
theorem k49 : FOK 49 Tryz.f49 := ⟨Tryz.func49, by decide +kernel, by decide⟩
theorem k50 : FOK 50 Tryz.f50 := ⟨Tryz.func50, by decide +kernel, by decide⟩
theorem k51 : FOK 51 Tryz.f51 := ⟨Tryz.func51, by decide +kernel, by decide⟩
theorem k52 : FOK 52 Tryz.f52 := ⟨Tryz.func52, by decide +kernel, by decide⟩
theorem k53 : FOK 53 Tryz.f53 := ⟨Tryz.func53, by decide +kernel, by decide⟩
theorem k54 : FOK 54 Tryz.f54 := ⟨Tryz.func54, by decide +kernel, by decide⟩
theorem k55 : FOK 55 Tryz.f55 := ⟨Tryz.func55, by decide +kernel, by decide⟩
theorem k56 : FOK 56 Tryz.f56 := ⟨Tryz.func56, by decide +kernel, by decide⟩
theorem k57 : FOK 57 Tryz.f57 := ⟨Tryz.func57, by decide +kernel, by decide⟩
theorem k58 : FOK 58 Tryz.f58 := ⟨Tryz.func58, by decide +kernel, by decide⟩
theorem k59 : FOK 59 Tryz.f59 := ⟨Tryz.func59, by decide +kernel, by decide⟩
theorem k60 : FOK 60 Tryz.f60 := ⟨Tryz.func60, by decide +kernel, by decide⟩
theorem k61 : FOK 61 Tryz.f61 := ⟨Tryz.func61, by decide +kernel, by decide⟩
theorem k62 : FOK 62 Tryz.f62 := ⟨Tryz.func62, by decide +kernel, by decide⟩
theorem k63 : FOK 63 Tryz.f63 := ⟨Tryz.func63, by decide +kernel, by decide⟩
theorem k64 : FOK 64 Tryz.f64 := ⟨Tryz.func64, by decide +kernel, by decide⟩
theorem k65 : FOK 65 Tryz.f65 := ⟨Tryz.func65, by decide +kernel, by decide⟩
theorem k66 : FOK 66 Tryz.f66 := ⟨Tryz.func66, by decide +kernel, by decide⟩
theorem k67 : FOK 67 Tryz.f67 := ⟨Tryz.func67, by decide +kernel, by decide⟩
theorem k68 : FOK 68 Tryz.f68 := ⟨Tryz.func68, by decide +kernel, by decide⟩
theorem k69 : FOK 69 Tryz.f69 := ⟨Tryz.func69, by decide +kernel, by decide⟩
theorem k70 : FOK 70 Tryz.f70 := ⟨Tryz.func70, by decide +kernel, by decide⟩
theorem k71 : FOK 71 Tryz.f71 := ⟨Tryz.func71, by decide +kernel, by decide⟩
theorem k72 : FOK 72 Tryz.f72 := ⟨Tryz.func72, by decide +kernel, by decide⟩
theorem k73 : FOK 73 Tryz.f73 := ⟨Tryz.func73, by decide +kernel, by decide⟩
theorem k74 : FOK 74 Tryz.f74 := ⟨Tryz.func74, by decide +kernel, by decide⟩
theorem k75 : FOK 75 Tryz.f75 := ⟨Tryz.func75, by decide +kernel, by decide⟩
theorem k76 : FOK 76 Tryz.f76 := ⟨Tryz.func76, by decide +kernel, by decide⟩
theorem k77 : FOK 77 Tryz.f77 := ⟨Tryz.func77, by decide +kernel, by decide⟩
theorem k78 : FOK 78 Tryz.f78 := ⟨Tryz.func78, by decide +kernel, by decide⟩
theorem k79 : FOK 79 Tryz.f79 := ⟨Tryz.func79, by decide +kernel, by decide⟩
theorem k80 : FOK 80 Tryz.f80 := ⟨Tryz.func80, by decide +kernel, by decide⟩
theorem k81 : FOK 81 Tryz.f81 := ⟨Tryz.func81, by decide +kernel, by decide⟩
theorem k82 : FOK 82 Tryz.f82 := ⟨Tryz.func82, by decide +kernel, by decide⟩
theorem k83 : FOK 83 Tryz.f83 := ⟨Tryz.func83, by decide +kernel, by decide⟩
theorem k84 : FOK 84 Tryz.f84 := ⟨Tryz.func84, by decide +kernel, by decide⟩
theorem k85 : FOK 85 Tryz.f85 := ⟨Tryz.func85, by decide +kernel, by decide⟩
theorem k86 : FOK 86 Tryz.f86 := ⟨Tryz.func86, by decide +kernel, by decide⟩
theorem k87 : FOK 87 Tryz.f87 := ⟨Tryz.func87, by decide +kernel, by decide⟩
theorem k88 : FOK 88 Tryz.f88 := ⟨Tryz.func88, by decide +kernel, by decide⟩
theorem k89 : FOK 89 Tryz.f89 := ⟨Tryz.func89, by decide +kernel, by decide⟩
theorem k90 : FOK 90 Tryz.f90 := ⟨Tryz.func90, by decide +kernel, by decide⟩
theorem k91 : FOK 91 Tryz.f91 := ⟨Tryz.func91, by decide +kernel, by decide⟩
theorem k92 : FOK 92 Tryz.f92 := ⟨Tryz.func92, by decide +kernel, by decide⟩
theorem k93 : FOK 93 Tryz.f93 := ⟨Tryz.func93, by decide +kernel, by decide⟩
theorem k94 : FOK 94 Tryz.f94 := ⟨Tryz.func94, by decide +kernel, by decide⟩
theorem k95 : FOK 95 Tryz.f95 := ⟨Tryz.func95, by decide +kernel, by decide⟩
theorem k96 : FOK 96 Tryz.f96 := ⟨Tryz.func96, by decide +kernel, by decide⟩
theorem k97 : FOK 97 Tryz.f97 := ⟨Tryz.func97, by decide +kernel, by decide⟩
theorem k98 : FOK 98 Tryz.f98 := ⟨Tryz.func98, by decide +kernel, by decide⟩
theorem k99 : FOK 99 Tryz.f99 := ⟨Tryz.func99, by decide +kernel, by decide⟩
theorem k100 : FOK 100 Tryz.f100 := ⟨Tryz.func100, by decide +kernel, by decide⟩
theorem k101 : FOK 101 Tryz.f101 := ⟨Tryz.func101, by decide +kernel, by decide⟩
theorem k102 : FOK 102 Tryz.f102 := ⟨Tryz.func102, by decide +kernel, by decide⟩
theorem k103 : FOK 103 Tryz.f103 := ⟨Tryz.func103, by decide +kernel, by decide⟩
theorem k104 : FOK 104 Tryz.f104 := ⟨Tryz.func104, by decide +kernel, by decide⟩
theorem k105 : FOK 105 Tryz.f105 := ⟨Tryz.func105, by decide +kernel, by decide⟩
theorem k106 : FOK 106 Tryz.f106 := ⟨Tryz.func106, by decide +kernel, by decide⟩
theorem k107 : FOK 107 Tryz.f107 := ⟨Tryz.func107, by decide +kernel, by decide⟩
theorem k108 : FOK 108 Tryz.f108 := ⟨Tryz.func108, by decide +kernel, by decide⟩
theorem k109 : FOK 109 Tryz.f109 := ⟨Tryz.func109, by decide +kernel, by decide⟩
theorem k110 : FOK 110 Tryz.f110 := ⟨Tryz.func110, by decide +kernel, by decide⟩
theorem k113 : FOK 113 Tryz.f113 := ⟨Tryz.func113, by decide +kernel, by decide⟩
theorem k114 : FOK 114 Tryz.f114 := ⟨Tryz.func114, by decide +kernel, by decide⟩
theorem k115 : FOK 115 Tryz.f115 := ⟨Tryz.func115, by decide +kernel, by decide⟩
theorem k116 : FOK 116 Tryz.f116 := ⟨Tryz.func116, by decide +kernel, by decide⟩
theorem k117 : FOK 117 Tryz.f117 := ⟨Tryz.func117, by decide +kernel, by decide⟩
theorem k118 : FOK 118 Tryz.f118 := ⟨Tryz.func118, by decide +kernel, by decide⟩
theorem k119 : FOK 119 Tryz.f119 := ⟨Tryz.func119, by decide +kernel, by decide⟩
theorem k120 : FOK 120 Tryz.f120 := ⟨Tryz.func120, by decide +kernel, by decide⟩
theorem k121 : FOK 121 Tryz.f121 := ⟨Tryz.func121, by decide +kernel, by decide⟩
theorem k122 : FOK 122 Tryz.f122 := ⟨Tryz.func122, by decide +kernel, by decide⟩
theorem k123 : FOK 123 Tryz.f123 := ⟨Tryz.func123, by decide +kernel, by decide⟩
theorem k124 : FOK 124 Tryz.f124 := ⟨Tryz.func124, by decide +kernel, by decide⟩
theorem k125 : FOK 125 Tryz.f125 := ⟨Tryz.func125, by decide +kernel, by decide⟩
theorem k126 : FOK 126 Tryz.f126 := ⟨Tryz.func126, by decide +kernel, by decide⟩
theorem k127 : FOK 127 Tryz.f127 := ⟨Tryz.func127, by decide +kernel, by decide⟩
theorem k128 : FOK 128 Tryz.f128 := ⟨Tryz.func128, by decide +kernel, by decide⟩
theorem k129 : FOK 129 Tryz.f129 := ⟨Tryz.func129, by decide +kernel, by decide⟩
theorem k130 : FOK 130 Tryz.f130 := ⟨Tryz.func130, by decide +kernel, by decide⟩
theorem k131 : FOK 131 Tryz.f131 := ⟨Tryz.func131, by decide +kernel, by decide⟩
theorem k132 : FOK 132 Tryz.f132 := ⟨Tryz.func132, by decide +kernel, by decide⟩
theorem k133 : FOK 133 Tryz.f133 := ⟨Tryz.func133, by decide +kernel, by decide⟩
theorem k134 : FOK 134 Tryz.f134 := ⟨Tryz.func134, by decide +kernel, by decide⟩
theorem k135 : FOK 135 Tryz.f135 := ⟨Tryz.func135, by decide +kernel, by decide⟩
theorem k136 : FOK 136 Tryz.f136 := ⟨Tryz.func136, by decide +kernel, by decide⟩
theorem k137 : FOK 137 Tryz.f137 := ⟨Tryz.func137, by decide +kernel, by decide⟩
theorem k138 : FOK 138 Tryz.f138 := ⟨Tryz.func138, by decide +kernel, by decide⟩
theorem k139 : FOK 139 Tryz.f139 := ⟨Tryz.func139, by decide +kernel, by decide⟩
theorem k140 : FOK 140 Tryz.f140 := ⟨Tryz.func140, by decide +kernel, by decide⟩
theorem k141 : FOK 141 Tryz.f141 := ⟨Tryz.func141, by decide +kernel, by decide⟩
theorem k142 : FOK 142 Tryz.f142 := ⟨Tryz.func142, by decide +kernel, by decide⟩
theorem k143 : FOK 143 Tryz.f143 := ⟨Tryz.func143, by decide +kernel, by decide⟩
theorem k144 : FOK 144 Tryz.f144 := ⟨Tryz.func144, by decide +kernel, by decide⟩
theorem k145 : FOK 145 Tryz.f145 := ⟨Tryz.func145, by decide +kernel, by decide⟩
theorem k146 : FOK 146 Tryz.f146 := ⟨Tryz.func146, by decide +kernel, by decide⟩
theorem k147 : FOK 147 Tryz.f147 := ⟨Tryz.func147, by decide +kernel, by decide⟩
theorem k148 : FOK 148 Tryz.f148 := ⟨Tryz.func148, by decide +kernel, by decide⟩
theorem k149 : FOK 149 Tryz.f149 := ⟨Tryz.func149, by decide +kernel, by decide⟩
theorem k150 : FOK 150 Tryz.f150 := ⟨Tryz.func150, by decide +kernel, by decide⟩
theorem k151 : FOK 151 Tryz.f151 := ⟨Tryz.func151, by decide +kernel, by decide⟩
theorem k152 : FOK 152 Tryz.f152 := ⟨Tryz.func152, by decide +kernel, by decide⟩
theorem k153 : FOK 153 Tryz.f153 := ⟨Tryz.func153, by decide +kernel, by decide⟩
theorem k154 : FOK 154 Tryz.f154 := ⟨Tryz.func154, by decide +kernel, by decide⟩
theorem k155 : FOK 155 Tryz.f155 := ⟨Tryz.func155, by decide +kernel, by decide⟩
theorem k156 : FOK 156 Tryz.f156 := ⟨Tryz.func156, by decide +kernel, by decide⟩
theorem k157 : FOK 157 Tryz.f157 := ⟨Tryz.func157, by decide +kernel, by decide⟩
theorem k158 : FOK 158 Tryz.f158 := ⟨Tryz.func158, by decide +kernel, by decide⟩
theorem k159 : FOK 159 Tryz.f159 := ⟨Tryz.func159, by decide +kernel, by decide⟩
theorem k160 : FOK 160 Tryz.f160 := ⟨Tryz.func160, by decide +kernel, by decide⟩
theorem k162 : FOK 162 Tryz.f162 := ⟨Tryz.func162, by decide +kernel, by decide⟩
theorem k163 : FOK 163 Tryz.f163 := ⟨Tryz.func163, by decide +kernel, by decide⟩
theorem k164 : FOK 164 Tryz.f164 := ⟨Tryz.func164, by decide +kernel, by decide⟩
theorem k165 : FOK 165 Tryz.f165 := ⟨Tryz.func165, by decide +kernel, by decide⟩
theorem k167 : FOK 167 Tryz.f167 := ⟨Tryz.func167, by decide +kernel, by decide⟩
theorem k168 : FOK 168 Tryz.f168 := ⟨Tryz.func168, by decide +kernel, by decide⟩
theorem k169 : FOK 169 Tryz.f169 := ⟨Tryz.func169, by decide +kernel, by decide⟩
theorem k170 : FOK 170 Tryz.f170 := ⟨Tryz.func170, by decide +kernel, by decide⟩
theorem k171 : FOK 171 Tryz.f171 := ⟨Tryz.func171, by decide +kernel, by decide⟩
theorem k172 : FOK 172 Tryz.f172 := ⟨Tryz.func172, by decide +kernel, by decide⟩
theorem k173 : FOK 173 Tryz.f173 := ⟨Tryz.func173, by decide +kernel, by decide⟩
theorem k174 : FOK 174 Tryz.f174 := ⟨Tryz.func174, by decide +kernel, by decide⟩
theorem k175 : FOK 175 Tryz.f175 := ⟨Tryz.func175, by decide +kernel, by decide⟩
theorem k176 : FOK 176 Tryz.f176 := ⟨Tryz.func176, by decide +kernel, by decide⟩
theorem k177 : FOK 177 Tryz.f177 := ⟨Tryz.func177, by decide +kernel, by decide⟩
theorem k178 : FOK 178 Tryz.f178 := ⟨Tryz.func178, by decide +kernel, by decide⟩
theorem k179 : FOK 179 Tryz.f179 := ⟨Tryz.func179, by decide +kernel, by decide⟩
theorem k180 : FOK 180 Tryz.f180 := ⟨Tryz.func180, by decide +kernel, by decide⟩
theorem k181 : FOK 181 Tryz.f181 := ⟨Tryz.func181, by decide +kernel, by decide⟩
theorem k182 : FOK 182 Tryz.f182 := ⟨Tryz.func182, by decide +kernel, by decide⟩
theorem k183 : FOK 183 Tryz.f183 := ⟨Tryz.func183, by decide +kernel, by decide⟩
theorem k184 : FOK 184 Tryz.f184 := ⟨Tryz.func184, by decide +kernel, by decide⟩
theorem k185 : FOK 185 Tryz.f185 := ⟨Tryz.func185, by decide +kernel, by decide⟩
theorem k186 : FOK 186 Tryz.f186 := ⟨Tryz.func186, by decide +kernel, by decide⟩
theorem k187 : FOK 187 Tryz.f187 := ⟨Tryz.func187, by decide +kernel, by decide⟩
theorem k188 : FOK 188 Tryz.f188 := ⟨Tryz.func188, by decide +kernel, by decide⟩
theorem k192 : FOK 192 Tryz.f192 := ⟨Tryz.func192, by decide +kernel, by decide⟩
theorem k193 : FOK 193 Tryz.f193 := ⟨Tryz.func193, by decide +kernel, by decide⟩
theorem k194 : FOK 194 Tryz.f194 := ⟨Tryz.func194, by decide +kernel, by decide⟩
theorem k195 : FOK 195 Tryz.f195 := ⟨Tryz.func195, by decide +kernel, by decide⟩
theorem k196 : FOK 196 Tryz.f196 := ⟨Tryz.func196, by decide +kernel, by decide⟩
theorem k197 : FOK 197 Tryz.f197 := ⟨Tryz.func197, by decide +kernel, by decide⟩
theorem k198 : FOK 198 Tryz.f198 := ⟨Tryz.func198, by decide +kernel, by decide⟩
theorem k199 : FOK 199 Tryz.f199 := ⟨Tryz.func199, by decide +kernel, by decide⟩
theorem k200 : FOK 200 Tryz.f200 := ⟨Tryz.func200, by decide +kernel, by decide⟩
theorem k201 : FOK 201 Tryz.f201 := ⟨Tryz.func201, by decide +kernel, by decide⟩
theorem k202 : FOK 202 Tryz.f202 := ⟨Tryz.func202, by decide +kernel, by decide⟩
theorem k203 : FOK 203 Tryz.f203 := ⟨Tryz.func203, by decide +kernel, by decide⟩
theorem k204 : FOK 204 Tryz.f204 := ⟨Tryz.func204, by decide +kernel, by decide⟩
theorem k205 : FOK 205 Tryz.f205 := ⟨Tryz.func205, by decide +kernel, by decide⟩
theorem k206 : FOK 206 Tryz.f206 := ⟨Tryz.func206, by decide +kernel, by decide⟩
theorem k207 : FOK 207 Tryz.f207 := ⟨Tryz.func207, by decide +kernel, by decide⟩
theorem k208 : FOK 208 Tryz.f208 := ⟨Tryz.func208, by decide +kernel, by decide⟩
theorem k209 : FOK 209 Tryz.f209 := ⟨Tryz.func209, by decide +kernel, by decide⟩
theorem k210 : FOK 210 Tryz.f210 := ⟨Tryz.func210, by decide +kernel, by decide⟩
theorem k211 : FOK 211 Tryz.f211 := ⟨Tryz.func211, by decide +kernel, by decide⟩
theorem k212 : FOK 212 Tryz.f212 := ⟨Tryz.func212, by decide +kernel, by decide⟩
theorem k213 : FOK 213 Tryz.f213 := ⟨Tryz.func213, by decide +kernel, by decide⟩
theorem k214 : FOK 214 Tryz.f214 := ⟨Tryz.func214, by decide +kernel, by decide⟩
theorem k215 : FOK 215 Tryz.f215 := ⟨Tryz.func215, by decide +kernel, by decide⟩
theorem k216 : FOK 216 Tryz.f216 := ⟨Tryz.func216, by decide +kernel, by decide⟩
theorem k217 : FOK 217 Tryz.f217 := ⟨Tryz.func217, by decide +kernel, by decide⟩
theorem k218 : FOK 218 Tryz.f218 := ⟨Tryz.func218, by decide +kernel, by decide⟩
theorem k219 : FOK 219 Tryz.f219 := ⟨Tryz.func219, by decide +kernel, by decide⟩
theorem k220 : FOK 220 Tryz.f220 := ⟨Tryz.func220, by decide +kernel, by decide⟩
theorem k221 : FOK 221 Tryz.f221 := ⟨Tryz.func221, by decide +kernel, by decide⟩
theorem k222 : FOK 222 Tryz.f222 := ⟨Tryz.func222, by decide +kernel, by decide⟩
theorem k223 : FOK 223 Tryz.f223 := ⟨Tryz.func223, by decide +kernel, by decide⟩
theorem k224 : FOK 224 Tryz.f224 := ⟨Tryz.func224, by decide +kernel, by decide⟩
theorem k225 : FOK 225 Tryz.f225 := ⟨Tryz.func225, by decide +kernel, by decide⟩
theorem k226 : FOK 226 Tryz.f226 := ⟨Tryz.func226, by decide +kernel, by decide⟩
theorem k227 : FOK 227 Tryz.f227 := ⟨Tryz.func227, by decide +kernel, by decide⟩
theorem k228 : FOK 228 Tryz.f228 := ⟨Tryz.func228, by decide +kernel, by decide⟩
theorem k229 : FOK 229 Tryz.f229 := ⟨Tryz.func229, by decide +kernel, by decide⟩
theorem k230 : FOK 230 Tryz.f230 := ⟨Tryz.func230, by decide +kernel, by decide⟩
theorem k231 : FOK 231 Tryz.f231 := ⟨Tryz.func231, by decide +kernel, by decide⟩
theorem k232 : FOK 232 Tryz.f232 := ⟨Tryz.func232, by decide +kernel, by decide⟩
theorem k233 : FOK 233 Tryz.f233 := ⟨Tryz.func233, by decide +kernel, by decide⟩
theorem k234 : FOK 234 Tryz.f234 := ⟨Tryz.func234, by decide +kernel, by decide⟩
theorem k235 : FOK 235 Tryz.f235 := ⟨Tryz.func235, by decide +kernel, by decide⟩
theorem k236 : FOK 236 Tryz.f236 := ⟨Tryz.func236, by decide +kernel, by decide⟩
theorem k237 : FOK 237 Tryz.f237 := ⟨Tryz.func237, by decide +kernel, by decide⟩
theorem k238 : FOK 238 Tryz.f238 := ⟨Tryz.func238, by decide +kernel, by decide⟩
theorem k240 : FOK 240 Tryz.f240 := ⟨Tryz.func240, by decide +kernel, by decide⟩
theorem k241 : FOK 241 Tryz.f241 := ⟨Tryz.func241, by decide +kernel, by decide⟩
theorem k242 : FOK 242 Tryz.f242 := ⟨Tryz.func242, by decide +kernel, by decide⟩
theorem k243 : FOK 243 Tryz.f243 := ⟨Tryz.func243, by decide +kernel, by decide⟩
theorem k244 : FOK 244 Tryz.f244 := ⟨Tryz.func244, by decide +kernel, by decide⟩
theorem k245 : FOK 245 Tryz.f245 := ⟨Tryz.func245, by decide +kernel, by decide⟩
theorem k246 : FOK 246 Tryz.f246 := ⟨Tryz.func246, by decide +kernel, by decide⟩
theorem k247 : FOK 247 Tryz.f247 := ⟨Tryz.func247, by decide +kernel, by decide⟩
theorem k248 : FOK 248 Tryz.f248 := ⟨Tryz.func248, by decide +kernel, by decide⟩
theorem k249 : FOK 249 Tryz.f249 := ⟨Tryz.func249, by decide +kernel, by decide⟩
theorem k250 : FOK 250 Tryz.f250 := ⟨Tryz.func250, by decide +kernel, by decide⟩
theorem k251 : FOK 251 Tryz.f251 := ⟨Tryz.func251, by decide +kernel, by decide⟩
theorem k252 : FOK 252 Tryz.f252 := ⟨Tryz.func252, by decide +kernel, by decide⟩
theorem k253 : FOK 253 Tryz.f253 := ⟨Tryz.func253, by decide +kernel, by decide⟩
theorem k254 : FOK 254 Tryz.f254 := ⟨Tryz.func254, by decide +kernel, by decide⟩
theorem k255 : FOK 255 Tryz.f255 := ⟨Tryz.func255, by decide +kernel, by decide⟩
theorem k256 : FOK 256 Tryz.f256 := ⟨Tryz.func256, by decide +kernel, by decide⟩
theorem k257 : FOK 257 Tryz.f257 := ⟨Tryz.func257, by decide +kernel, by decide⟩
theorem k258 : FOK 258 Tryz.f258 := ⟨Tryz.func258, by decide +kernel, by decide⟩
theorem k259 : FOK 259 Tryz.f259 := ⟨Tryz.func259, by decide +kernel, by decide⟩
theorem k260 : FOK 260 Tryz.f260 := ⟨Tryz.func260, by decide +kernel, by decide⟩
theorem k261 : FOK 261 Tryz.f261 := ⟨Tryz.func261, by decide +kernel, by decide⟩
theorem k262 : FOK 262 Tryz.f262 := ⟨Tryz.func262, by decide +kernel, by decide⟩
theorem k263 : FOK 263 Tryz.f263 := ⟨Tryz.func263, by decide +kernel, by decide⟩
theorem k264 : FOK 264 Tryz.f264 := ⟨Tryz.func264, by decide +kernel, by decide⟩
theorem k265 : FOK 265 Tryz.f265 := ⟨Tryz.func265, by decide +kernel, by decide⟩
theorem k266 : FOK 266 Tryz.f266 := ⟨Tryz.func266, by decide +kernel, by decide⟩
theorem k267 : FOK 267 Tryz.f267 := ⟨Tryz.func267, by decide +kernel, by decide⟩
theorem k268 : FOK 268 Tryz.f268 := ⟨Tryz.func268, by decide +kernel, by decide⟩
theorem k269 : FOK 269 Tryz.f269 := ⟨Tryz.func269, by decide +kernel, by decide⟩
theorem k270 : FOK 270 Tryz.f270 := ⟨Tryz.func270, by decide +kernel, by decide⟩
theorem k271 : FOK 271 Tryz.f271 := ⟨Tryz.func271, by decide +kernel, by decide⟩
theorem k272 : FOK 272 Tryz.f272 := ⟨Tryz.func272, by decide +kernel, by decide⟩
theorem k273 : FOK 273 Tryz.f273 := ⟨Tryz.func273, by decide +kernel, by decide⟩
theorem k274 : FOK 274 Tryz.f274 := ⟨Tryz.func274, by decide +kernel, by decide⟩
theorem k275 : FOK 275 Tryz.f275 := ⟨Tryz.func275, by decide +kernel, by decide⟩
theorem k276 : FOK 276 Tryz.f276 := ⟨Tryz.func276, by decide +kernel, by decide⟩
theorem k277 : FOK 277 Tryz.f277 := ⟨Tryz.func277, by decide +kernel, by decide⟩
theorem k278 : FOK 278 Tryz.f278 := ⟨Tryz.func278, by decide +kernel, by decide⟩
theorem k279 : FOK 279 Tryz.f279 := ⟨Tryz.func279, by decide +kernel, by decide⟩
theorem k280 : FOK 280 Tryz.f280 := ⟨Tryz.func280, by decide +kernel, by decide⟩
theorem k281 : FOK 281 Tryz.f281 := ⟨Tryz.func281, by decide +kernel, by decide⟩
theorem k282 : FOK 282 Tryz.f282 := ⟨Tryz.func282, by decide +kernel, by decide⟩
theorem k283 : FOK 283 Tryz.f283 := ⟨Tryz.func283, by decide +kernel, by decide⟩
theorem k284 : FOK 284 Tryz.f284 := ⟨Tryz.func284, by decide +kernel, by decide⟩
theorem k285 : FOK 285 Tryz.f285 := ⟨Tryz.func285, by decide +kernel, by decide⟩
theorem k286 : FOK 286 Tryz.f286 := ⟨Tryz.func286, by decide +kernel, by decide⟩
theorem k287 : FOK 287 Tryz.f287 := ⟨Tryz.func287, by decide +kernel, by decide⟩
theorem k288 : FOK 288 Tryz.f288 := ⟨Tryz.func288, by decide +kernel, by decide⟩
theorem k289 : FOK 289 Tryz.f289 := ⟨Tryz.func289, by decide +kernel, by decide⟩
theorem k290 : FOK 290 Tryz.f290 := ⟨Tryz.func290, by decide +kernel, by decide⟩
theorem k291 : FOK 291 Tryz.f291 := ⟨Tryz.func291, by decide +kernel, by decide⟩
theorem k292 : FOK 292 Tryz.f292 := ⟨Tryz.func292, by decide +kernel, by decide⟩
theorem k293 : FOK 293 Tryz.f293 := ⟨Tryz.func293, by decide +kernel, by decide⟩
theorem k294 : FOK 294 Tryz.f294 := ⟨Tryz.func294, by decide +kernel, by decide⟩
theorem k295 : FOK 295 Tryz.f295 := ⟨Tryz.func295, by decide +kernel, by decide⟩
theorem k296 : FOK 296 Tryz.f296 := ⟨Tryz.func296, by decide +kernel, by decide⟩
theorem k297 : FOK 297 Tryz.f297 := ⟨Tryz.func297, by decide +kernel, by decide⟩
theorem k298 : FOK 298 Tryz.f298 := ⟨Tryz.func298, by decide +kernel, by decide⟩
theorem k299 : FOK 299 Tryz.f299 := ⟨Tryz.func299, by decide +kernel, by decide⟩
theorem k300 : FOK 300 Tryz.f300 := ⟨Tryz.func300, by decide +kernel, by decide⟩
theorem k301 : FOK 301 Tryz.f301 := ⟨Tryz.func301, by decide +kernel, by decide⟩
theorem k302 : FOK 302 Tryz.f302 := ⟨Tryz.func302, by decide +kernel, by decide⟩
theorem k303 : FOK 303 Tryz.f303 := ⟨Tryz.func303, by decide +kernel, by decide⟩
theorem k304 : FOK 304 Tryz.f304 := ⟨Tryz.func304, by decide +kernel, by decide⟩
theorem k305 : FOK 305 Tryz.f305 := ⟨Tryz.func305, by decide +kernel, by decide⟩
theorem k306 : FOK 306 Tryz.f306 := ⟨Tryz.func306, by decide +kernel, by decide⟩
theorem k307 : FOK 307 Tryz.f307 := ⟨Tryz.func307, by decide +kernel, by decide⟩
theorem k308 : FOK 308 Tryz.f308 := ⟨Tryz.func308, by decide +kernel, by decide⟩
theorem k309 : FOK 309 Tryz.f309 := ⟨Tryz.func309, by decide +kernel, by decide⟩
theorem k310 : FOK 310 Tryz.f310 := ⟨Tryz.func310, by decide +kernel, by decide⟩
theorem k311 : FOK 311 Tryz.f311 := ⟨Tryz.func311, by decide +kernel, by decide⟩
theorem k312 : FOK 312 Tryz.f312 := ⟨Tryz.func312, by decide +kernel, by decide⟩
theorem k313 : FOK 313 Tryz.f313 := ⟨Tryz.func313, by decide +kernel, by decide⟩
theorem k314 : FOK 314 Tryz.f314 := ⟨Tryz.func314, by decide +kernel, by decide⟩
theorem k315 : FOK 315 Tryz.f315 := ⟨Tryz.func315, by decide +kernel, by decide⟩
theorem k316 : FOK 316 Tryz.f316 := ⟨Tryz.func316, by decide +kernel, by decide⟩
theorem k317 : FOK 317 Tryz.f317 := ⟨Tryz.func317, by decide +kernel, by decide⟩
theorem k318 : FOK 318 Tryz.f318 := ⟨Tryz.func318, by decide +kernel, by decide⟩
theorem k319 : FOK 319 Tryz.f319 := ⟨Tryz.func319, by decide +kernel, by decide⟩
theorem k320 : FOK 320 Tryz.f320 := ⟨Tryz.func320, by decide +kernel, by decide⟩
theorem k321 : FOK 321 Tryz.f321 := ⟨Tryz.func321, by decide +kernel, by decide⟩
theorem k322 : FOK 322 Tryz.f322 := ⟨Tryz.func322, by decide +kernel, by decide⟩
theorem k323 : FOK 323 Tryz.f323 := ⟨Tryz.func323, by decide +kernel, by decide⟩
theorem k324 : FOK 324 Tryz.f324 := ⟨Tryz.func324, by decide +kernel, by decide⟩
theorem k325 : FOK 325 Tryz.f325 := ⟨Tryz.func325, by decide +kernel, by decide⟩
theorem k326 : FOK 326 Tryz.f326 := ⟨Tryz.func326, by decide +kernel, by decide⟩
theorem k327 : FOK 327 Tryz.f327 := ⟨Tryz.func327, by decide +kernel, by decide⟩
theorem k328 : FOK 328 Tryz.f328 := ⟨Tryz.func328, by decide +kernel, by decide⟩
theorem k329 : FOK 329 Tryz.f329 := ⟨Tryz.func329, by decide +kernel, by decide⟩
theorem k330 : FOK 330 Tryz.f330 := ⟨Tryz.func330, by decide +kernel, by decide⟩
theorem k331 : FOK 331 Tryz.f331 := ⟨Tryz.func331, by decide +kernel, by decide⟩
theorem k332 : FOK 332 Tryz.f332 := ⟨Tryz.func332, by decide +kernel, by decide⟩
theorem k333 : FOK 333 Tryz.f333 := ⟨Tryz.func333, by decide +kernel, by decide⟩
theorem k334 : FOK 334 Tryz.f334 := ⟨Tryz.func334, by decide +kernel, by decide⟩
theorem k335 : FOK 335 Tryz.f335 := ⟨Tryz.func335, by decide +kernel, by decide⟩
theorem k336 : FOK 336 Tryz.f336 := ⟨Tryz.func336, by decide +kernel, by decide⟩
theorem k337 : FOK 337 Tryz.f337 := ⟨Tryz.func337, by decide +kernel, by decide⟩
theorem k338 : FOK 338 Tryz.f338 := ⟨Tryz.func338, by decide +kernel, by decide⟩
theorem k339 : FOK 339 Tryz.f339 := ⟨Tryz.func339, by decide +kernel, by decide⟩
theorem k340 : FOK 340 Tryz.f340 := ⟨Tryz.func340, by decide +kernel, by decide⟩
theorem k341 : FOK 341 Tryz.f341 := ⟨Tryz.func341, by decide +kernel, by decide⟩
theorem k342 : FOK 342 Tryz.f342 := ⟨Tryz.func342, by decide +kernel, by decide⟩
theorem k343 : FOK 343 Tryz.f343 := ⟨Tryz.func343, by decide +kernel, by decide⟩
theorem k344 : FOK 344 Tryz.f344 := ⟨Tryz.func344, by decide +kernel, by decide⟩
theorem k347 : FOK 347 Tryz.f347 := ⟨Tryz.func347, by decide +kernel, by decide⟩
theorem k348 : FOK 348 Tryz.f348 := ⟨Tryz.func348, by decide +kernel, by decide⟩
theorem k349 : FOK 349 Tryz.f349 := ⟨Tryz.func349, by decide +kernel, by decide⟩
theorem k350 : FOK 350 Tryz.f350 := ⟨Tryz.func350, by decide +kernel, by decide⟩
theorem k351 : FOK 351 Tryz.f351 := ⟨Tryz.func351, by decide +kernel, by decide⟩
theorem k352 : FOK 352 Tryz.f352 := ⟨Tryz.func352, by decide +kernel, by decide⟩
theorem k353 : FOK 353 Tryz.f353 := ⟨Tryz.func353, by decide +kernel, by decide⟩
theorem k354 : FOK 354 Tryz.f354 := ⟨Tryz.func354, by decide +kernel, by decide⟩
theorem k355 : FOK 355 Tryz.f355 := ⟨Tryz.func355, by decide +kernel, by decide⟩
theorem k356 : FOK 356 Tryz.f356 := ⟨Tryz.func356, by decide +kernel, by decide⟩
theorem k357 : FOK 357 Tryz.f357 := ⟨Tryz.func357, by decide +kernel, by decide⟩
theorem k358 : FOK 358 Tryz.f358 := ⟨Tryz.func358, by decide +kernel, by decide⟩
theorem k359 : FOK 359 Tryz.f359 := ⟨Tryz.func359, by decide +kernel, by decide⟩
theorem k360 : FOK 360 Tryz.f360 := ⟨Tryz.func360, by decide +kernel, by decide⟩
theorem k361 : FOK 361 Tryz.f361 := ⟨Tryz.func361, by decide +kernel, by decide⟩
theorem k362 : FOK 362 Tryz.f362 := ⟨Tryz.func362, by decide +kernel, by decide⟩
theorem k363 : FOK 363 Tryz.f363 := ⟨Tryz.func363, by decide +kernel, by decide⟩
theorem k364 : FOK 364 Tryz.f364 := ⟨Tryz.func364, by decide +kernel, by decide⟩
theorem k365 : FOK 365 Tryz.f365 := ⟨Tryz.func365, by decide +kernel, by decide⟩
theorem k366 : FOK 366 Tryz.f366 := ⟨Tryz.func366, by decide +kernel, by decide⟩
theorem k367 : FOK 367 Tryz.f367 := ⟨Tryz.func367, by decide +kernel, by decide⟩
theorem k368 : FOK 368 Tryz.f368 := ⟨Tryz.func368, by decide +kernel, by decide⟩
theorem k369 : FOK 369 Tryz.f369 := ⟨Tryz.func369, by decide +kernel, by decide⟩
theorem k370 : FOK 370 Tryz.f370 := ⟨Tryz.func370, by decide +kernel, by decide⟩
theorem k375 : FOK 375 Tryz.f375 := ⟨Tryz.func375, by decide +kernel, by decide⟩
theorem k378 : FOK 378 Tryz.f378 := ⟨Tryz.func378, by decide +kernel, by decide⟩
theorem k379 : FOK 379 Tryz.f379 := ⟨Tryz.func379, by decide +kernel, by decide⟩
theorem k380 : FOK 380 Tryz.f380 := ⟨Tryz.func380, by decide +kernel, by decide⟩
theorem k420 : FOK 420 Tryz.f420 := ⟨Tryz.func420, by decide +kernel, by decide⟩
theorem fnTab_ok (f : Nat) : ∀ g, fnTab f = some g → FOK f g := by
  unfold fnTab
  exact (nd (nd (nd (nd (nd (nd (nd (nd (lf k3) (lf k4)) (nd (lf k5) (nd (lf k6) (lf k7)))) (nd (nd (lf k8) (nd (lf k9) (lf k10))) (nd (lf k11) (nd (lf k12) (lf k13))))) (nd (nd (nd (lf k14) (lf k15)) (nd (lf k16) (nd (lf k17) (lf k18)))) (nd (nd (lf k19) (nd (lf k20) (lf k21))) (nd (lf k22) (nd (lf k23) (lf k24)))))) (nd (nd (nd (nd (lf k25) (lf k26)) (nd (lf k27) (nd (lf k28) (lf k29)))) (nd (nd (lf k30) (nd (lf k31) (lf k32))) (nd (lf k33) (nd (lf k34) (lf k35))))) (nd (nd (nd (lf k36) (nd (lf k37) (lf k38))) (nd (lf k39) (nd (lf k40) (lf k41)))) (nd (nd (lf k42) (nd (lf k43) (lf k44))) (nd (lf k45) (nd (lf k46) (lf k47))))))) (nd (nd (nd (nd (nd (lf k48) (lf k49)) (nd (lf k50) (nd (lf k51) (lf k52)))) (nd (nd (lf k53) (nd (lf k54) (lf k55))) (nd (lf k56) (nd (lf k57) (lf k58))))) (nd (nd (nd (lf k59) (lf k60)) (nd (lf k61) (nd (lf k62) (lf k63)))) (nd (nd (lf k64) (nd (lf k65) (lf k66))) (nd (lf k67) (nd (lf k68) (lf k69)))))) (nd (nd (nd (nd (lf k70) (lf k71)) (nd (lf k72) (nd (lf k73) (lf k74)))) (nd (nd (lf k75) (nd (lf k76) (lf k77))) (nd (lf k78) (nd (lf k79) (lf k80))))) (nd (nd (nd (lf k81) (nd (lf k82) (lf k83))) (nd (lf k84) (nd (lf k85) (lf k86)))) (nd (nd (lf k87) (nd (lf k88) (lf k89))) (nd (lf k90) (nd (lf k91) (lf k92)))))))) (nd (nd (nd (nd (nd (nd (lf k93) (lf k94)) (nd (lf k95) (nd (lf k96) (lf k97)))) (nd (nd (lf k98) (nd (lf k99) (lf k100))) (nd (lf k101) (nd (lf k102) (lf k103))))) (nd (nd (nd (lf k104) (lf k105)) (nd (lf k106) (nd (lf k107) (lf k108)))) (nd (nd (lf k109) (nd (lf k110) (lf k113))) (nd (lf k114) (nd (lf k115) (lf k116)))))) (nd (nd (nd (nd (lf k117) (lf k118)) (nd (lf k119) (nd (lf k120) (lf k121)))) (nd (nd (lf k122) (nd (lf k123) (lf k124))) (nd (lf k125) (nd (lf k126) (lf k127))))) (nd (nd (nd (lf k128) (nd (lf k129) (lf k130))) (nd (lf k131) (nd (lf k132) (lf k133)))) (nd (nd (lf k134) (nd (lf k135) (lf k136))) (nd (lf k137) (nd (lf k138) (lf k139))))))) (nd (nd (nd (nd (nd (lf k140) (lf k141)) (nd (lf k142) (nd (lf k143) (lf k144)))) (nd (nd (lf k145) (nd (lf k146) (lf k147))) (nd (lf k148) (nd (lf k149) (lf k150))))) (nd (nd (nd (lf k151) (nd (lf k152) (lf k153))) (nd (lf k154) (nd (lf k155) (lf k156)))) (nd (nd (lf k157) (nd (lf k158) (lf k159))) (nd (lf k160) (nd (lf k162) (lf k163)))))) (nd (nd (nd (nd (lf k164) (lf k165)) (nd (lf k167) (nd (lf k168) (lf k169)))) (nd (nd (lf k170) (nd (lf k171) (lf k172))) (nd (lf k173) (nd (lf k174) (lf k175))))) (nd (nd (nd (lf k176) (nd (lf k177) (lf k178))) (nd (lf k179) (nd (lf k180) (lf k181)))) (nd (nd (lf k182) (nd (lf k183) (lf k184))) (nd (lf k185) (nd (lf k186) (lf k187))))))))) (nd (nd (nd (nd (nd (nd (nd (lf k188) (lf k192)) (nd (lf k193) (nd (lf k194) (lf k195)))) (nd (nd (lf k196) (nd (lf k197) (lf k198))) (nd (lf k199) (nd (lf k200) (lf k201))))) (nd (nd (nd (lf k202) (lf k203)) (nd (lf k204) (nd (lf k205) (lf k206)))) (nd (nd (lf k207) (nd (lf k208) (lf k209))) (nd (lf k210) (nd (lf k211) (lf k212)))))) (nd (nd (nd (nd (lf k213) (lf k214)) (nd (lf k215) (nd (lf k216) (lf k217)))) (nd (nd (lf k218) (nd (lf k219) (lf k220))) (nd (lf k221) (nd (lf k222) (lf k223))))) (nd (nd (nd (lf k224) (nd (lf k225) (lf k226))) (nd (lf k227) (nd (lf k228) (lf k229)))) (nd (nd (lf k230) (nd (lf k231) (lf k232))) (nd (lf k233) (nd (lf k234) (lf k235))))))) (nd (nd (nd (nd (nd (lf k236) (lf k237)) (nd (lf k238) (nd (lf k240) (lf k241)))) (nd (nd (lf k242) (nd (lf k243) (lf k244))) (nd (lf k245) (nd (lf k246) (lf k247))))) (nd (nd (nd (lf k248) (nd (lf k249) (lf k250))) (nd (lf k251) (nd (lf k252) (lf k253)))) (nd (nd (lf k254) (nd (lf k255) (lf k256))) (nd (lf k257) (nd (lf k258) (lf k259)))))) (nd (nd (nd (nd (lf k260) (lf k261)) (nd (lf k262) (nd (lf k263) (lf k264)))) (nd (nd (lf k265) (nd (lf k266) (lf k267))) (nd (lf k268) (nd (lf k269) (lf k270))))) (nd (nd (nd (lf k271) (nd (lf k272) (lf k273))) (nd (lf k274) (nd (lf k275) (lf k276)))) (nd (nd (lf k277) (nd (lf k278) (lf k279))) (nd (lf k280) (nd (lf k281) (lf k282)))))))) (nd (nd (nd (nd (nd (nd (lf k283) (lf k284)) (nd (lf k285) (nd (lf k286) (lf k287)))) (nd (nd (lf k288) (nd (lf k289) (lf k290))) (nd (lf k291) (nd (lf k292) (lf k293))))) (nd (nd (nd (lf k294) (lf k295)) (nd (lf k296) (nd (lf k297) (lf k298)))) (nd (nd (lf k299) (nd (lf k300) (lf k301))) (nd (lf k302) (nd (lf k303) (lf k304)))))) (nd (nd (nd (nd (lf k305) (lf k306)) (nd (lf k307) (nd (lf k308) (lf k309)))) (nd (nd (lf k310) (nd (lf k311) (lf k312))) (nd (lf k313) (nd (lf k314) (lf k315))))) (nd (nd (nd (lf k316) (nd (lf k317) (lf k318))) (nd (lf k319) (nd (lf k320) (lf k321)))) (nd (nd (lf k322) (nd (lf k323) (lf k324))) (nd (lf k325) (nd (lf k326) (lf k327))))))) (nd (nd (nd (nd (nd (lf k328) (lf k329)) (nd (lf k330) (nd (lf k331) (lf k332)))) (nd (nd (lf k333) (nd (lf k334) (lf k335))) (nd (lf k336) (nd (lf k337) (lf k338))))) (nd (nd (nd (lf k339) (nd (lf k340) (lf k341))) (nd (lf k342) (nd (lf k343) (lf k344)))) (nd (nd (lf k347) (nd (lf k348) (lf k349))) (nd (lf k350) (nd (lf k351) (lf k352)))))) (nd (nd (nd (nd (lf k353) (lf k354)) (nd (lf k355) (nd (lf k356) (lf k357)))) (nd (nd (lf k358) (nd (lf k359) (lf k360))) (nd (lf k361) (nd (lf k362) (lf k363))))) (nd (nd (nd (lf k364) (nd (lf k365) (lf k366))) (nd (lf k367) (nd (lf k368) (lf k369)))) (nd (nd (lf k370) (nd (lf k375) (lf k378))) (nd (lf k379) (nd (lf k380) (lf k420))))))))))
end Go.Proofs.YtgpkpheejefiiaaGreatDoor
end
