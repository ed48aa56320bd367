/-
  A part of AnalyzeFew's proof.
-/
import Derived.Test.YthbfgdbbnapjeaaGreatFm
set_option linter.unusedVariables false
set_option linter.unusedSimpArgs false
namespace Go.Abs.W
open Go Go.Abs Go.Proofs
theorem tree_all : tree.all = [(3, m3), (4, m4), (5, m5), (6, m6), (7, m7), (8, m8), (9, m9), (10, m10), (11, m11), (12, m12), (13, m13), (14, m14), (15, m15), (16, m16n), (17, m17), (18, m18), (19, m19), (20, m20), (21, m21), (22, m22), (23, m23), (24, m24), (25, m25), (26, m26), (28, m28), (29, m29), (30, m30), (31, m31n), (32, m32), (33, m33), (34, m34), (35, m35n), (36, m36), (37, m37), (38, m38), (39, m39), (40, m40), (41, m41), (42, m42), (43, m43), (44, m44), (45, m45), (46, m46), (47, m47), (48, m48), (49, m49), (50, m50), (51, m51), (52, m52), (53, m53), (54, m54), (55, m55), (56, m56), (57, m57), (58, m58), (59, m59), (60, m60), (61, m61), (62, m62), (63, m63), (64, m64n), (65, m65), (67, m67), (68, m68), (69, m69), (70, m70), (71, m71), (72, m72), (73, m73), (74, m74), (75, m75), (76, m76), (77, m77), (78, m78), (79, m79), (80, m80), (82, m82), (83, m83), (84, m84), (85, m85), (86, m86), (87, m87), (88, m88), (89, m89), (90, m90), (91, m91), (92, m92), (93, m93), (94, m94), (95, m95), (96, m96), (97, m97), (98, m98), (99, m99), (101, m101), (102, m102), (103, m103), (104, m104), (106, m106), (108, m108), (110, m110), (111, m111), (112, m112), (113, m113), (115, m115), (116, m116), (123, m123), (124, m124), (126, m126), (135, m135), (136, m136), (139, m139), (141, m141), (142, m142), (151, m151), (163, m163), (164, m164)] := by kernel_rfl
theorem tab_ok : TabOK Tryz.prog T := by
 intro f m h
 have hm := BT.look_mem (t := tree) h
 rw [tree_all] at hm
 simp only [List.mem_cons, List.not_mem_nil, or_false, Prod.mk.injEq] at hm
 rcases hm with ⟨rfl, rfl⟩ | ⟨rfl, rfl⟩ | ⟨rfl, rfl⟩ | ⟨rfl, rfl⟩ | ⟨rfl, rfl⟩ | ⟨rfl, rfl⟩ | ⟨rfl, rfl⟩ | ⟨rfl, rfl⟩ | ⟨rfl, rfl⟩ | ⟨rfl, rfl⟩ | ⟨rfl, rfl⟩ | ⟨rfl, rfl⟩ | ⟨rfl, rfl⟩ | ⟨rfl, rfl⟩ | ⟨rfl, rfl⟩ | ⟨rfl, rfl⟩ | ⟨rfl, rfl⟩ | ⟨rfl, rfl⟩ | ⟨rfl, rfl⟩ | ⟨rfl, rfl⟩ | ⟨rfl, rfl⟩ | ⟨rfl, rfl⟩ | ⟨rfl, rfl⟩ | ⟨rfl, rfl⟩ | ⟨rfl, rfl⟩ | ⟨rfl, rfl⟩ | ⟨rfl, rfl⟩ | ⟨rfl, rfl⟩ | ⟨rfl, rfl⟩ | ⟨rfl, rfl⟩ | ⟨rfl, rfl⟩ | ⟨rfl, rfl⟩ | ⟨rfl, rfl⟩ | ⟨rfl, rfl⟩ | ⟨rfl, rfl⟩ | ⟨rfl, rfl⟩ | ⟨rfl, rfl⟩ | ⟨rfl, rfl⟩ | ⟨rfl, rfl⟩ | ⟨rfl, rfl⟩ | ⟨rfl, rfl⟩ | ⟨rfl, rfl⟩ | ⟨rfl, rfl⟩ | ⟨rfl, rfl⟩ | ⟨rfl, rfl⟩ | ⟨rfl, rfl⟩ | ⟨rfl, rfl⟩ | ⟨rfl, rfl⟩ | ⟨rfl, rfl⟩ | ⟨rfl, rfl⟩ | ⟨rfl, rfl⟩ | ⟨rfl, rfl⟩ | ⟨rfl, rfl⟩ | ⟨rfl, rfl⟩ | ⟨rfl, rfl⟩ | ⟨rfl, rfl⟩ | ⟨rfl, rfl⟩ | ⟨rfl, rfl⟩ | ⟨rfl, rfl⟩ | ⟨rfl, rfl⟩ | ⟨rfl, rfl⟩ | ⟨rfl, rfl⟩ | ⟨rfl, rfl⟩ | ⟨rfl, rfl⟩ | ⟨rfl, rfl⟩ | ⟨rfl, rfl⟩ | ⟨rfl, rfl⟩ | ⟨rfl, rfl⟩ | ⟨rfl, rfl⟩ | ⟨rfl, rfl⟩ | ⟨rfl, rfl⟩ | ⟨rfl, rfl⟩ | ⟨rfl, rfl⟩ | ⟨rfl, rfl⟩ | ⟨rfl, rfl⟩ | ⟨rfl, rfl⟩ | ⟨rfl, rfl⟩ | ⟨rfl, rfl⟩ | ⟨rfl, rfl⟩ | ⟨rfl, rfl⟩ | ⟨rfl, rfl⟩ | ⟨rfl, rfl⟩ | ⟨rfl, rfl⟩ | ⟨rfl, rfl⟩ | ⟨rfl, rfl⟩ | ⟨rfl, rfl⟩ | ⟨rfl, rfl⟩ | ⟨rfl, rfl⟩ | ⟨rfl, rfl⟩ | ⟨rfl, rfl⟩ | ⟨rfl, rfl⟩ | ⟨rfl, rfl⟩ | ⟨rfl, rfl⟩ | ⟨rfl, rfl⟩ | ⟨rfl, rfl⟩ | ⟨rfl, rfl⟩ | ⟨rfl, rfl⟩ | ⟨rfl, rfl⟩ | ⟨rfl, rfl⟩ | ⟨rfl, rfl⟩ | ⟨rfl, rfl⟩ | ⟨rfl, rfl⟩ | ⟨rfl, rfl⟩ | ⟨rfl, rfl⟩ | ⟨rfl, rfl⟩ | ⟨rfl, rfl⟩ | ⟨rfl, rfl⟩ | ⟨rfl, rfl⟩ | ⟨rfl, rfl⟩ | ⟨rfl, rfl⟩ | ⟨rfl, rfl⟩ | ⟨rfl, rfl⟩ | ⟨rfl, rfl⟩ | ⟨rfl, rfl⟩ | ⟨rfl, rfl⟩ | ⟨rfl, rfl⟩ | ⟨rfl, rfl⟩
 ·exact ⟨Tryz.f3, Tryz.func3, .inl ⟨_, ok3⟩, kr⟩
 ·exact ⟨Tryz.f4, Tryz.func4, .inl ⟨_, ok4⟩, kr⟩
 ·exact ⟨Tryz.f5, Tryz.func5, .inl ⟨_, ok5⟩, kr⟩
 ·exact ⟨Tryz.f6, Tryz.func6, .inl ⟨_, ok6⟩, kr⟩
 ·exact ⟨Tryz.f7, Tryz.func7, .inl ⟨_, ok7⟩, kr⟩
 ·exact ⟨Tryz.f8, Tryz.func8, .inl ⟨_, ok8⟩, kr⟩
 ·exact ⟨Tryz.f9, Tryz.func9, .inl ⟨_, ok9⟩, kr⟩
 ·exact ⟨Tryz.f10, Tryz.func10, .inl ⟨_, ok10⟩, kr⟩
 ·exact ⟨Tryz.f11, Tryz.func11, .inl ⟨_, ok11⟩, kr⟩
 ·exact ⟨Tryz.f12, Tryz.func12, .inl ⟨_, ok12⟩, kr⟩
 ·exact ⟨Tryz.f13, Tryz.func13, .inl ⟨_, ok13⟩, kr⟩
 ·exact ⟨Tryz.f14, Tryz.func14, .inl ⟨_, ok14⟩, kr⟩
 ·exact ⟨Tryz.f15, Tryz.func15, .inl ⟨_, ok15⟩, kr⟩
 ·exact ⟨Tryz.f16, Tryz.func16, .inr (.inr good16), kr⟩
 ·exact ⟨Tryz.f17, Tryz.func17, .inl ⟨_, ok17⟩, kr⟩
 ·exact ⟨Tryz.f18, Tryz.func18, .inl ⟨_, ok18⟩, kr⟩
 ·exact ⟨Tryz.f19, Tryz.func19, .inl ⟨_, ok19⟩, kr⟩
 ·exact ⟨Tryz.f20, Tryz.func20, .inl ⟨_, ok20⟩, kr⟩
 ·exact ⟨Tryz.f21, Tryz.func21, .inl ⟨_, ok21⟩, kr⟩
 ·exact ⟨Tryz.f22, Tryz.func22, .inl ⟨_, ok22⟩, kr⟩
 ·exact ⟨Tryz.f23, Tryz.func23, .inl ⟨_, ok23⟩, kr⟩
 ·exact ⟨Tryz.f24, Tryz.func24, .inl ⟨_, ok24⟩, kr⟩
 ·exact ⟨Tryz.f25, Tryz.func25, .inl ⟨_, ok25⟩, kr⟩
 ·exact ⟨Tryz.f26, Tryz.func26, .inr (.inl good26), kr⟩
 ·exact ⟨Tryz.f28, Tryz.func28, .inl ⟨_, ok28⟩, kr⟩
 ·exact ⟨Tryz.f29, Tryz.func29, .inl ⟨_, ok29⟩, kr⟩
 ·exact ⟨Tryz.f30, Tryz.func30, .inl ⟨_, ok30⟩, kr⟩
 ·exact ⟨Tryz.f31, Tryz.func31, .inr (.inr good31), kr⟩
 ·exact ⟨Tryz.f32, Tryz.func32, .inl ⟨_, ok32⟩, kr⟩
 ·exact ⟨Tryz.f33, Tryz.func33, .inl ⟨_, ok33⟩, kr⟩
 ·exact ⟨Tryz.f34, Tryz.func34, .inl ⟨_, ok34⟩, kr⟩
 ·exact ⟨Tryz.f35, Tryz.func35, .inr (.inr good35), kr⟩
 ·exact ⟨Tryz.f36, Tryz.func36, .inl ⟨_, ok36⟩, kr⟩
 ·exact ⟨Tryz.f37, Tryz.func37, .inl ⟨_, ok37⟩, kr⟩
 ·exact ⟨Tryz.f38, Tryz.func38, .inl ⟨_, ok38⟩, kr⟩
 ·exact ⟨Tryz.f39, Tryz.func39, .inl ⟨_, ok39⟩, kr⟩
 ·exact ⟨Tryz.f40, Tryz.func40, .inl ⟨_, ok40⟩, kr⟩
 ·exact ⟨Tryz.f41, Tryz.func41, .inl ⟨_, ok41⟩, kr⟩
 ·exact ⟨Tryz.f42, Tryz.func42, .inl ⟨_, ok42⟩, kr⟩
 ·exact ⟨Tryz.f43, Tryz.func43, .inl ⟨_, ok43⟩, kr⟩
 ·exact ⟨Tryz.f44, Tryz.func44, .inl ⟨_, ok44⟩, kr⟩
 ·exact ⟨Tryz.f45, Tryz.func45, .inl ⟨_, ok45⟩, kr⟩
 ·exact ⟨Tryz.f46, Tryz.func46, .inl ⟨_, ok46⟩, kr⟩
 ·exact ⟨Tryz.f47, Tryz.func47, .inl ⟨_, ok47⟩, kr⟩
 ·exact ⟨Tryz.f48, Tryz.func48, .inl ⟨_, ok48⟩, kr⟩
 ·exact ⟨Tryz.f49, Tryz.func49, .inl ⟨_, ok49⟩, kr⟩
 ·exact ⟨Tryz.f50, Tryz.func50, .inl ⟨_, ok50⟩, kr⟩
 ·exact ⟨Tryz.f51, Tryz.func51, .inl ⟨_, ok51⟩, kr⟩
 ·exact ⟨Tryz.f52, Tryz.func52, .inl ⟨_, ok52⟩, kr⟩
 ·exact ⟨Tryz.f53, Tryz.func53, .inl ⟨_, ok53⟩, kr⟩
 ·exact ⟨Tryz.f54, Tryz.func54, .inl ⟨_, ok54⟩, kr⟩
 ·exact ⟨Tryz.f55, Tryz.func55, .inl ⟨_, ok55⟩, kr⟩
 ·exact ⟨Tryz.f56, Tryz.func56, .inl ⟨_, ok56⟩, kr⟩
 ·exact ⟨Tryz.f57, Tryz.func57, .inl ⟨_, ok57⟩, kr⟩
 ·exact ⟨Tryz.f58, Tryz.func58, .inl ⟨_, ok58⟩, kr⟩
 ·exact ⟨Tryz.f59, Tryz.func59, .inl ⟨_, ok59⟩, kr⟩
 ·exact ⟨Tryz.f60, Tryz.func60, .inl ⟨_, ok60⟩, kr⟩
 ·exact ⟨Tryz.f61, Tryz.func61, .inl ⟨_, ok61⟩, kr⟩
 ·exact ⟨Tryz.f62, Tryz.func62, .inl ⟨_, ok62⟩, kr⟩
 ·exact ⟨Tryz.f63, Tryz.func63, .inl ⟨_, ok63⟩, kr⟩
 ·exact ⟨Tryz.f64, Tryz.func64, .inr (.inr good64), kr⟩
 ·exact ⟨Tryz.f65, Tryz.func65, .inl ⟨_, ok65⟩, kr⟩
 ·exact ⟨Tryz.f67, Tryz.func67, .inl ⟨_, ok67⟩, kr⟩
 ·exact ⟨Tryz.f68, Tryz.func68, .inl ⟨_, ok68⟩, kr⟩
 ·exact ⟨Tryz.f69, Tryz.func69, .inl ⟨_, ok69⟩, kr⟩
 ·exact ⟨Tryz.f70, Tryz.func70, .inl ⟨_, ok70⟩, kr⟩
 ·exact ⟨Tryz.f71, Tryz.func71, .inl ⟨_, ok71⟩, kr⟩
 ·exact ⟨Tryz.f72, Tryz.func72, .inl ⟨_, ok72⟩, kr⟩
 ·exact ⟨Tryz.f73, Tryz.func73, .inl ⟨_, ok73⟩, kr⟩
 ·exact ⟨Tryz.f74, Tryz.func74, .inl ⟨_, ok74⟩, kr⟩
 ·exact ⟨Tryz.f75, Tryz.func75, .inl ⟨_, ok75⟩, kr⟩
 ·exact ⟨Tryz.f76, Tryz.func76, .inl ⟨_, ok76⟩, kr⟩
 ·exact ⟨Tryz.f77, Tryz.func77, .inl ⟨_, ok77⟩, kr⟩
 ·exact ⟨Tryz.f78, Tryz.func78, .inl ⟨_, ok78⟩, kr⟩
 ·exact ⟨Tryz.f79, Tryz.func79, .inl ⟨_, ok79⟩, kr⟩
 ·exact ⟨Tryz.f80, Tryz.func80, .inl ⟨_, ok80⟩, kr⟩
 ·exact ⟨Tryz.f82, Tryz.func82, .inl ⟨_, ok82⟩, kr⟩
 ·exact ⟨Tryz.f83, Tryz.func83, .inl ⟨_, ok83⟩, kr⟩
 ·exact ⟨Tryz.f84, Tryz.func84, .inl ⟨_, ok84⟩, kr⟩
 ·exact ⟨Tryz.f85, Tryz.func85, .inl ⟨_, ok85⟩, kr⟩
 ·exact ⟨Tryz.f86, Tryz.func86, .inl ⟨_, ok86⟩, kr⟩
 ·exact ⟨Tryz.f87, Tryz.func87, .inl ⟨_, ok87⟩, kr⟩
 ·exact ⟨Tryz.f88, Tryz.func88, .inl ⟨_, ok88⟩, kr⟩
 ·exact ⟨Tryz.f89, Tryz.func89, .inl ⟨_, ok89⟩, kr⟩
 ·exact ⟨Tryz.f90, Tryz.func90, .inl ⟨_, ok90⟩, kr⟩
 ·exact ⟨Tryz.f91, Tryz.func91, .inl ⟨_, ok91⟩, kr⟩
 ·exact ⟨Tryz.f92, Tryz.func92, .inl ⟨_, ok92⟩, kr⟩
 ·exact ⟨Tryz.f93, Tryz.func93, .inl ⟨_, ok93⟩, kr⟩
 ·exact ⟨Tryz.f94, Tryz.func94, .inl ⟨_, ok94⟩, kr⟩
 ·exact ⟨Tryz.f95, Tryz.func95, .inr (.inr good95), kr⟩
 ·exact ⟨Tryz.f96, Tryz.func96, .inl ⟨_, ok96⟩, kr⟩
 ·exact ⟨Tryz.f97, Tryz.func97, .inl ⟨_, ok97⟩, kr⟩
 ·exact ⟨Tryz.f98, Tryz.func98, .inl ⟨_, ok98⟩, kr⟩
 ·exact ⟨Tryz.f99, Tryz.func99, .inl ⟨_, ok99⟩, kr⟩
 ·exact ⟨Tryz.f101, Tryz.func101, .inl ⟨_, ok101⟩, kr⟩
 ·exact ⟨Tryz.f102, Tryz.func102, .inl ⟨_, ok102⟩, kr⟩
 ·exact ⟨Tryz.f103, Tryz.func103, .inl ⟨_, ok103⟩, kr⟩
 ·exact ⟨Tryz.f104, Tryz.func104, .inl ⟨_, ok104⟩, kr⟩
 ·exact ⟨Tryz.f106, Tryz.func106, .inl ⟨_, ok106⟩, kr⟩
 ·exact ⟨Tryz.f108, Tryz.func108, .inl ⟨_, ok108⟩, kr⟩
 ·exact ⟨Tryz.f110, Tryz.func110, .inl ⟨_, ok110⟩, kr⟩
 ·exact ⟨Tryz.f111, Tryz.func111, .inl ⟨_, ok111⟩, kr⟩
 ·exact ⟨Tryz.f112, Tryz.func112, .inl ⟨_, ok112⟩, kr⟩
 ·exact ⟨Tryz.f113, Tryz.func113, .inl ⟨_, ok113⟩, kr⟩
 ·exact ⟨Tryz.f115, Tryz.func115, .inl ⟨_, ok115⟩, kr⟩
 ·exact ⟨Tryz.f116, Tryz.func116, .inl ⟨_, ok116⟩, kr⟩
 ·exact ⟨Tryz.f123, Tryz.func123, .inl ⟨_, ok123⟩, kr⟩
 ·exact ⟨Tryz.f124, Tryz.func124, .inl ⟨_, ok124⟩, kr⟩
 ·exact ⟨Tryz.f126, Tryz.func126, .inl ⟨_, ok126⟩, kr⟩
 ·exact ⟨Tryz.f135, Tryz.func135, .inl ⟨_, ok135⟩, kr⟩
 ·exact ⟨Tryz.f136, Tryz.func136, .inl ⟨_, ok136⟩, kr⟩
 ·exact ⟨Tryz.f139, Tryz.func139, .inl ⟨_, ok139⟩, kr⟩
 ·exact ⟨Tryz.f141, Tryz.func141, .inl ⟨_, ok141⟩, kr⟩
 ·exact ⟨Tryz.f142, Tryz.func142, .inl ⟨_, ok142⟩, kr⟩
 ·exact ⟨Tryz.f151, Tryz.func151, .inl ⟨_, ok151⟩, kr⟩
 ·exact ⟨Tryz.f163, Tryz.func163, .inl ⟨_, ok163⟩, kr⟩
 ·exact ⟨Tryz.f164, Tryz.func164, .inl ⟨_, ok164⟩, kr⟩
end Go.Abs.W
