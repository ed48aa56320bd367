import Derived.Test.YtlmgngibnioljaaGreatTabT1
import Derived.Test.YtlmgngibnioljaaGreatTabT2
import Derived.Test.YtlmgngibnioljaaGreatTabT3
import Derived.Test.YtlmgngibnioljaaGreatRepeatT
set_option linter.unusedVariables false
set_option linter.unusedSimpArgs false
/-
  The table: each function's machine code is what it compiles to, or it is told by what it answers.
-/
namespace Go.Abs.T
open Go Go.Abs Go.Proofs
theorem hmix : Tryz.prog.follows .mixedOrders = true := by kernel_rfl
def good (f : Nat) (m : MFunc) : Prop := ∃ fn, Tryz.prog.funcs[f]? = some fn ∧ ((∃ mu, compFn Tryz.prog mu fn = some m) ∨ Good Tryz.prog f m ∨ GoodT Tryz.prog f m) ∧ (fn.name == "runtime.NumGoroutine") = false
theorem tree_all : tree.all = [(3, m3), (4, m4), (5, m5), (6, m6), (7, m7), (8, m8), (9, m9), (10, m10), (11, m11), (12, m12), (13, m13), (14, m14), (15, m15), (16, m16), (17, m17), (18, m18), (19, m19), (20, m20), (21, m21), (22, m22), (23, m23), (24, m24), (25, m25), (26, m26), (27, m27), (28, m28), (29, m29), (30, m30), (31, m31), (32, m32), (33, m33), (34, m34), (35, m35), (36, m36), (37, m37), (38, m38), (40, m40), (41, m41), (43, m43), (44, m44), (45, m45), (46, m46), (47, m47), (48, m48), (50, m50), (51, m51), (55, m55), (56, m56), (57, m57), (58, m58), (59, m59), (61, m61), (62, m62), (63, m63), (67, m67), (68, m68), (69, m69), (70, m70), (72, m72), (73, m73), (74, m74), (75, m75), (76, m76), (77, m77), (79, m79), (80, m80), (81, m81), (82, m82), (83, m83), (84, m84), (85, m85), (92, m92), (93, m93), (94, m94), (101, m101), (102, m102), (109, m109), (110, m110), (112, m112), (121, m121), (122, m122), (123, m123), (124, m124), (126, m126), (127, m127), (128, m128), (129, m129), (135, m135), (138, m138), (140, m140), (146, m146), (147, m147), (148, m148), (159, m159), (160, m160), (161, m161), (162, m162), (170, m170), (171, m171), (172, m172), (176, m176), (181, m181), (182, m182), (191, m191), (203, m203), (207, m207)] := by kernel_rfl
theorem tab_ok : TabOK Tryz.prog T := by
  intro f m h
  have hm := BT.look_mem (t := tree) h
  rw [tree_all] at hm
  simp only [List.mem_cons, List.not_mem_nil, or_false, Prod.mk.injEq] at hm
  rcases hm with ⟨rfl, rfl⟩ | ⟨rfl, rfl⟩ | ⟨rfl, rfl⟩ | ⟨rfl, rfl⟩ | ⟨rfl, rfl⟩ | ⟨rfl, rfl⟩ | ⟨rfl, rfl⟩ | ⟨rfl, rfl⟩ | ⟨rfl, rfl⟩ | ⟨rfl, rfl⟩ | ⟨rfl, rfl⟩ | ⟨rfl, rfl⟩ | ⟨rfl, rfl⟩ | ⟨rfl, rfl⟩ | ⟨rfl, rfl⟩ | ⟨rfl, rfl⟩ | ⟨rfl, rfl⟩ | ⟨rfl, rfl⟩ | ⟨rfl, rfl⟩ | ⟨rfl, rfl⟩ | ⟨rfl, rfl⟩ | ⟨rfl, rfl⟩ | ⟨rfl, rfl⟩ | ⟨rfl, rfl⟩ | ⟨rfl, rfl⟩ | ⟨rfl, rfl⟩ | ⟨rfl, rfl⟩ | ⟨rfl, rfl⟩ | ⟨rfl, rfl⟩ | ⟨rfl, rfl⟩ | ⟨rfl, rfl⟩ | ⟨rfl, rfl⟩ | ⟨rfl, rfl⟩ | ⟨rfl, rfl⟩ | ⟨rfl, rfl⟩ | ⟨rfl, rfl⟩ | ⟨rfl, rfl⟩ | ⟨rfl, rfl⟩ | ⟨rfl, rfl⟩ | ⟨rfl, rfl⟩ | ⟨rfl, rfl⟩ | ⟨rfl, rfl⟩ | ⟨rfl, rfl⟩ | ⟨rfl, rfl⟩ | ⟨rfl, rfl⟩ | ⟨rfl, rfl⟩ | ⟨rfl, rfl⟩ | ⟨rfl, rfl⟩ | ⟨rfl, rfl⟩ | ⟨rfl, rfl⟩ | ⟨rfl, rfl⟩ | ⟨rfl, rfl⟩ | ⟨rfl, rfl⟩ | ⟨rfl, rfl⟩ | ⟨rfl, rfl⟩ | ⟨rfl, rfl⟩ | ⟨rfl, rfl⟩ | ⟨rfl, rfl⟩ | ⟨rfl, rfl⟩ | ⟨rfl, rfl⟩ | ⟨rfl, rfl⟩ | ⟨rfl, rfl⟩ | ⟨rfl, rfl⟩ | ⟨rfl, rfl⟩ | ⟨rfl, rfl⟩ | ⟨rfl, rfl⟩ | ⟨rfl, rfl⟩ | ⟨rfl, rfl⟩ | ⟨rfl, rfl⟩ | ⟨rfl, rfl⟩ | ⟨rfl, rfl⟩ | ⟨rfl, rfl⟩ | ⟨rfl, rfl⟩ | ⟨rfl, rfl⟩ | ⟨rfl, rfl⟩ | ⟨rfl, rfl⟩ | ⟨rfl, rfl⟩ | ⟨rfl, rfl⟩ | ⟨rfl, rfl⟩ | ⟨rfl, rfl⟩ | ⟨rfl, rfl⟩ | ⟨rfl, rfl⟩ | ⟨rfl, rfl⟩ | ⟨rfl, rfl⟩ | ⟨rfl, rfl⟩ | ⟨rfl, rfl⟩ | ⟨rfl, rfl⟩ | ⟨rfl, rfl⟩ | ⟨rfl, rfl⟩ | ⟨rfl, rfl⟩ | ⟨rfl, rfl⟩ | ⟨rfl, rfl⟩ | ⟨rfl, rfl⟩ | ⟨rfl, rfl⟩ | ⟨rfl, rfl⟩ | ⟨rfl, rfl⟩ | ⟨rfl, rfl⟩ | ⟨rfl, rfl⟩ | ⟨rfl, rfl⟩ | ⟨rfl, rfl⟩ | ⟨rfl, rfl⟩ | ⟨rfl, rfl⟩ | ⟨rfl, rfl⟩ | ⟨rfl, rfl⟩ | ⟨rfl, rfl⟩ | ⟨rfl, rfl⟩
  · exact ⟨Tryz.f3, Tryz.func3, .inl ⟨_, ok3⟩, by kernel_rfl⟩
  · exact ⟨Tryz.f4, Tryz.func4, .inl ⟨_, ok4⟩, by kernel_rfl⟩
  · exact ⟨Tryz.f5, Tryz.func5, .inl ⟨_, ok5⟩, by kernel_rfl⟩
  · exact ⟨Tryz.f6, Tryz.func6, .inl ⟨_, ok6⟩, by kernel_rfl⟩
  · exact ⟨Tryz.f7, Tryz.func7, .inl ⟨_, ok7⟩, by kernel_rfl⟩
  · exact ⟨Tryz.f8, Tryz.func8, .inl ⟨_, ok8⟩, by kernel_rfl⟩
  · exact ⟨Tryz.f9, Tryz.func9, .inl ⟨_, ok9⟩, by kernel_rfl⟩
  · exact ⟨Tryz.f10, Tryz.func10, .inl ⟨_, ok10⟩, by kernel_rfl⟩
  · exact ⟨Tryz.f11, Tryz.func11, .inl ⟨_, ok11⟩, by kernel_rfl⟩
  · exact ⟨Tryz.f12, Tryz.func12, .inl ⟨_, ok12⟩, by kernel_rfl⟩
  · exact ⟨Tryz.f13, Tryz.func13, .inl ⟨_, ok13⟩, by kernel_rfl⟩
  · exact ⟨Tryz.f14, Tryz.func14, .inl ⟨_, ok14⟩, by kernel_rfl⟩
  · exact ⟨Tryz.f15, Tryz.func15, .inl ⟨_, ok15⟩, by kernel_rfl⟩
  · exact ⟨Tryz.f16, Tryz.func16, .inl ⟨_, ok16⟩, by kernel_rfl⟩
  · exact ⟨Tryz.f17, Tryz.func17, .inl ⟨_, ok17⟩, by kernel_rfl⟩
  · exact ⟨Tryz.f18, Tryz.func18, .inl ⟨_, ok18⟩, by kernel_rfl⟩
  · exact ⟨Tryz.f19, Tryz.func19, .inl ⟨_, ok19⟩, by kernel_rfl⟩
  · exact ⟨Tryz.f20, Tryz.func20, .inl ⟨_, ok20⟩, by kernel_rfl⟩
  · exact ⟨Tryz.f21, Tryz.func21, .inl ⟨_, ok21⟩, by kernel_rfl⟩
  · exact ⟨Tryz.f22, Tryz.func22, .inl ⟨_, ok22⟩, by kernel_rfl⟩
  · exact ⟨Tryz.f23, Tryz.func23, .inl ⟨_, ok23⟩, by kernel_rfl⟩
  · exact ⟨Tryz.f24, Tryz.func24, .inl ⟨_, ok24⟩, by kernel_rfl⟩
  · exact ⟨Tryz.f25, Tryz.func25, .inl ⟨_, ok25⟩, by kernel_rfl⟩
  · exact ⟨Tryz.f26, Tryz.func26, .inl ⟨_, ok26⟩, by kernel_rfl⟩
  · exact ⟨Tryz.f27, Tryz.func27, .inl ⟨_, ok27⟩, by kernel_rfl⟩
  · exact ⟨Tryz.f28, Tryz.func28, .inl ⟨_, ok28⟩, by kernel_rfl⟩
  · exact ⟨Tryz.f29, Tryz.func29, .inl ⟨_, ok29⟩, by kernel_rfl⟩
  · exact ⟨Tryz.f30, Tryz.func30, .inl ⟨_, ok30⟩, by kernel_rfl⟩
  · exact ⟨Tryz.f31, Tryz.func31, .inl ⟨_, ok31⟩, by kernel_rfl⟩
  · exact ⟨Tryz.f32, Tryz.func32, .inl ⟨_, ok32⟩, by kernel_rfl⟩
  · exact ⟨Tryz.f33, Tryz.func33, .inl ⟨_, ok33⟩, by kernel_rfl⟩
  · exact ⟨Tryz.f34, Tryz.func34, .inl ⟨_, ok34⟩, by kernel_rfl⟩
  · exact ⟨Tryz.f35, Tryz.func35, .inl ⟨_, ok35⟩, by kernel_rfl⟩
  · exact ⟨Tryz.f36, Tryz.func36, .inl ⟨_, ok36⟩, by kernel_rfl⟩
  · exact ⟨Tryz.f37, Tryz.func37, .inl ⟨_, ok37⟩, by kernel_rfl⟩
  · exact ⟨Tryz.f38, Tryz.func38, .inl ⟨_, ok38⟩, by kernel_rfl⟩
  · exact ⟨Tryz.f40, Tryz.func40, .inl ⟨_, ok40⟩, by kernel_rfl⟩
  · exact ⟨Tryz.f41, Tryz.func41, .inl ⟨_, ok41⟩, by kernel_rfl⟩
  · exact ⟨Tryz.f43, Tryz.func43, .inl ⟨_, ok43⟩, by kernel_rfl⟩
  · exact ⟨Tryz.f44, Tryz.func44, .inl ⟨_, ok44⟩, by kernel_rfl⟩
  · exact ⟨Tryz.f45, Tryz.func45, .inl ⟨_, ok45⟩, by kernel_rfl⟩
  · exact ⟨Tryz.f46, Tryz.func46, .inl ⟨_, ok46⟩, by kernel_rfl⟩
  · exact ⟨Tryz.f47, Tryz.func47, .inl ⟨_, ok47⟩, by kernel_rfl⟩
  · exact ⟨Tryz.f48, Tryz.func48, .inl ⟨_, ok48⟩, by kernel_rfl⟩
  · exact ⟨Tryz.f50, Tryz.func50, .inl ⟨_, ok50⟩, by kernel_rfl⟩
  · exact ⟨Tryz.f51, Tryz.func51, .inl ⟨_, ok51⟩, by kernel_rfl⟩
  · exact ⟨Tryz.f55, Tryz.func55, .inl ⟨_, ok55⟩, by kernel_rfl⟩
  · exact ⟨Tryz.f56, Tryz.func56, .inl ⟨_, ok56⟩, by kernel_rfl⟩
  · exact ⟨Tryz.f57, Tryz.func57, .inl ⟨_, ok57⟩, by kernel_rfl⟩
  · exact ⟨Tryz.f58, Tryz.func58, .inl ⟨_, ok58⟩, by kernel_rfl⟩
  · exact ⟨Tryz.f59, Tryz.func59, .inl ⟨_, ok59⟩, by kernel_rfl⟩
  · exact ⟨Tryz.f61, Tryz.func61, .inl ⟨_, ok61⟩, by kernel_rfl⟩
  · exact ⟨Tryz.f62, Tryz.func62, .inl ⟨_, ok62⟩, by kernel_rfl⟩
  · exact ⟨Tryz.f63, Tryz.func63, .inl ⟨_, ok63⟩, by kernel_rfl⟩
  · exact ⟨Tryz.f67, Tryz.func67, .inl ⟨_, ok67⟩, by kernel_rfl⟩
  · exact ⟨Tryz.f68, Tryz.func68, .inl ⟨_, ok68⟩, by kernel_rfl⟩
  · exact ⟨Tryz.f69, Tryz.func69, .inl ⟨_, ok69⟩, by kernel_rfl⟩
  · exact ⟨Tryz.f70, Tryz.func70, .inl ⟨_, ok70⟩, by kernel_rfl⟩
  · exact ⟨Tryz.f72, Tryz.func72, .inl ⟨_, ok72⟩, by kernel_rfl⟩
  · exact ⟨Tryz.f73, Tryz.func73, .inr (.inr good73), by kernel_rfl⟩
  · exact ⟨Tryz.f74, Tryz.func74, .inl ⟨_, ok74⟩, by kernel_rfl⟩
  · exact ⟨Tryz.f75, Tryz.func75, .inl ⟨_, ok75⟩, by kernel_rfl⟩
  · exact ⟨Tryz.f76, Tryz.func76, .inl ⟨_, ok76⟩, by kernel_rfl⟩
  · exact ⟨Tryz.f77, Tryz.func77, .inl ⟨_, ok77⟩, by kernel_rfl⟩
  · exact ⟨Tryz.f79, Tryz.func79, .inl ⟨_, ok79⟩, by kernel_rfl⟩
  · exact ⟨Tryz.f80, Tryz.func80, .inl ⟨_, ok80⟩, by kernel_rfl⟩
  · exact ⟨Tryz.f81, Tryz.func81, .inl ⟨_, ok81⟩, by kernel_rfl⟩
  · exact ⟨Tryz.f82, Tryz.func82, .inl ⟨_, ok82⟩, by kernel_rfl⟩
  · exact ⟨Tryz.f83, Tryz.func83, .inl ⟨_, ok83⟩, by kernel_rfl⟩
  · exact ⟨Tryz.f84, Tryz.func84, .inl ⟨_, ok84⟩, by kernel_rfl⟩
  · exact ⟨Tryz.f85, Tryz.func85, .inl ⟨_, ok85⟩, by kernel_rfl⟩
  · exact ⟨Tryz.f92, Tryz.func92, .inl ⟨_, ok92⟩, by kernel_rfl⟩
  · exact ⟨Tryz.f93, Tryz.func93, .inl ⟨_, ok93⟩, by kernel_rfl⟩
  · exact ⟨Tryz.f94, Tryz.func94, .inl ⟨_, ok94⟩, by kernel_rfl⟩
  · exact ⟨Tryz.f101, Tryz.func101, .inl ⟨_, ok101⟩, by kernel_rfl⟩
  · exact ⟨Tryz.f102, Tryz.func102, .inl ⟨_, ok102⟩, by kernel_rfl⟩
  · exact ⟨Tryz.f109, Tryz.func109, .inl ⟨_, ok109⟩, by kernel_rfl⟩
  · exact ⟨Tryz.f110, Tryz.func110, .inl ⟨_, ok110⟩, by kernel_rfl⟩
  · exact ⟨Tryz.f112, Tryz.func112, .inl ⟨_, ok112⟩, by kernel_rfl⟩
  · exact ⟨Tryz.f121, Tryz.func121, .inl ⟨_, ok121⟩, by kernel_rfl⟩
  · exact ⟨Tryz.f122, Tryz.func122, .inl ⟨_, ok122⟩, by kernel_rfl⟩
  · exact ⟨Tryz.f123, Tryz.func123, .inl ⟨_, ok123⟩, by kernel_rfl⟩
  · exact ⟨Tryz.f124, Tryz.func124, .inl ⟨_, ok124⟩, by kernel_rfl⟩
  · exact ⟨Tryz.f126, Tryz.func126, .inl ⟨_, ok126⟩, by kernel_rfl⟩
  · exact ⟨Tryz.f127, Tryz.func127, .inr (.inl good127), by kernel_rfl⟩
  · exact ⟨Tryz.f128, Tryz.func128, .inl ⟨_, ok128⟩, by kernel_rfl⟩
  · exact ⟨Tryz.f129, Tryz.func129, .inl ⟨_, ok129⟩, by kernel_rfl⟩
  · exact ⟨Tryz.f135, Tryz.func135, .inl ⟨_, ok135⟩, by kernel_rfl⟩
  · exact ⟨Tryz.f138, Tryz.func138, .inl ⟨_, ok138⟩, by kernel_rfl⟩
  · exact ⟨Tryz.f140, Tryz.func140, .inl ⟨_, ok140⟩, by kernel_rfl⟩
  · exact ⟨Tryz.f146, Tryz.func146, .inl ⟨_, ok146⟩, by kernel_rfl⟩
  · exact ⟨Tryz.f147, Tryz.func147, .inl ⟨_, ok147⟩, by kernel_rfl⟩
  · exact ⟨Tryz.f148, Tryz.func148, .inl ⟨_, ok148⟩, by kernel_rfl⟩
  · exact ⟨Tryz.f159, Tryz.func159, .inl ⟨_, ok159⟩, by kernel_rfl⟩
  · exact ⟨Tryz.f160, Tryz.func160, .inl ⟨_, ok160⟩, by kernel_rfl⟩
  · exact ⟨Tryz.f161, Tryz.func161, .inl ⟨_, ok161⟩, by kernel_rfl⟩
  · exact ⟨Tryz.f162, Tryz.func162, .inl ⟨_, ok162⟩, by kernel_rfl⟩
  · exact ⟨Tryz.f170, Tryz.func170, .inl ⟨_, ok170⟩, by kernel_rfl⟩
  · exact ⟨Tryz.f171, Tryz.func171, .inl ⟨_, ok171⟩, by kernel_rfl⟩
  · exact ⟨Tryz.f172, Tryz.func172, .inl ⟨_, ok172⟩, by kernel_rfl⟩
  · exact ⟨Tryz.f176, Tryz.func176, .inl ⟨_, ok176⟩, by kernel_rfl⟩
  · exact ⟨Tryz.f181, Tryz.func181, .inl ⟨_, ok181⟩, by kernel_rfl⟩
  · exact ⟨Tryz.f182, Tryz.func182, .inl ⟨_, ok182⟩, by kernel_rfl⟩
  · exact ⟨Tryz.f191, Tryz.func191, .inl ⟨_, ok191⟩, by kernel_rfl⟩
  · exact ⟨Tryz.f203, Tryz.func203, .inl ⟨_, ok203⟩, by kernel_rfl⟩
  · exact ⟨Tryz.f207, Tryz.func207, .inl ⟨_, ok207⟩, by kernel_rfl⟩
end Go.Abs.T
