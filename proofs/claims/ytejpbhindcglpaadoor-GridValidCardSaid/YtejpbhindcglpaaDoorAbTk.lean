/- The table is the program's. -/
import Derived.Test.YtejpbhindcglpaaDoorAbTb
import Derived.Test.YtejpbhindcglpaaDoorAbTl
namespace Go.Ab.Fn
open Go.Ab Go.Proofs
set_option maxRecDepth 100000
theorem tabList : tab.list = [(3, f3), (7, f7), (15, f15), (31, f31), (63, f63), (47, f47), (79, f79), (23, f23), (39, f39), (71, f71), (55, f55), (87, f87), (11, f11), (19, f19), (35, f35), (67, f67), (51, f51), (83, f83), (27, f27), (43, f43), (75, f75), (59, f59), (5, f5), (9, f9), (17, f17), (33, f33), (65, f65), (49, f49), (81, f81), (25, f25), (41, f41), (73, f73), (57, f57), (89, f89), (13, f13), (21, f21), (37, f37), (69, f69), (53, f53), (85, f85), (29, f29), (45, f45), (77, f77), (61, f61), (4, f4), (8, f8), (16, f16), (32, f32), (64, f64), (48, f48), (80, f80), (24, f24), (40, f40), (72, f72), (56, f56), (88, f88), (12, f12), (20, f20), (36, f36), (68, f68), (52, f52), (84, f84), (28, f28), (44, f44), (76, f76), (60, f60), (6, f6), (10, f10), (18, f18), (34, f34), (66, f66), (50, f50), (82, f82), (26, f26), (42, f42), (74, f74), (58, f58), (90, f90), (14, f14), (22, f22), (38, f38), (70, f70), (54, f54), (86, f86), (30, f30), (46, f46), (78, f78), (62, f62)] := by kernel_rfl
theorem is3 : isFn Tryd.prog 3 = true := by kernel_rfl
theorem is4 : isFn Tryd.prog 4 = true := by kernel_rfl
theorem is5 : isFn Tryd.prog 5 = true := by kernel_rfl
theorem is6 : isFn Tryd.prog 6 = true := by kernel_rfl
theorem is7 : isFn Tryd.prog 7 = true := by kernel_rfl
theorem is8 : isFn Tryd.prog 8 = true := by kernel_rfl
theorem is9 : isFn Tryd.prog 9 = true := by kernel_rfl
theorem is10 : isFn Tryd.prog 10 = true := by kernel_rfl
theorem is11 : isFn Tryd.prog 11 = true := by kernel_rfl
theorem is12 : isFn Tryd.prog 12 = true := by kernel_rfl
theorem is13 : isFn Tryd.prog 13 = true := by kernel_rfl
theorem is14 : isFn Tryd.prog 14 = true := by kernel_rfl
theorem is15 : isFn Tryd.prog 15 = true := by kernel_rfl
theorem is16 : isFn Tryd.prog 16 = true := by kernel_rfl
theorem is17 : isFn Tryd.prog 17 = true := by kernel_rfl
theorem is18 : isFn Tryd.prog 18 = true := by kernel_rfl
theorem is19 : isFn Tryd.prog 19 = true := by kernel_rfl
theorem is20 : isFn Tryd.prog 20 = true := by kernel_rfl
theorem is21 : isFn Tryd.prog 21 = true := by kernel_rfl
theorem is22 : isFn Tryd.prog 22 = true := by kernel_rfl
theorem is23 : isFn Tryd.prog 23 = true := by kernel_rfl
theorem is24 : isFn Tryd.prog 24 = true := by kernel_rfl
theorem is25 : isFn Tryd.prog 25 = true := by kernel_rfl
theorem is26 : isFn Tryd.prog 26 = true := by kernel_rfl
theorem is27 : isFn Tryd.prog 27 = true := by kernel_rfl
theorem is28 : isFn Tryd.prog 28 = true := by kernel_rfl
theorem is29 : isFn Tryd.prog 29 = true := by kernel_rfl
theorem is30 : isFn Tryd.prog 30 = true := by kernel_rfl
theorem is31 : isFn Tryd.prog 31 = true := by kernel_rfl
theorem is32 : isFn Tryd.prog 32 = true := by kernel_rfl
theorem is33 : isFn Tryd.prog 33 = true := by kernel_rfl
theorem is34 : isFn Tryd.prog 34 = true := by kernel_rfl
theorem is35 : isFn Tryd.prog 35 = true := by kernel_rfl
theorem is36 : isFn Tryd.prog 36 = true := by kernel_rfl
theorem is37 : isFn Tryd.prog 37 = true := by kernel_rfl
theorem is38 : isFn Tryd.prog 38 = true := by kernel_rfl
theorem is39 : isFn Tryd.prog 39 = true := by kernel_rfl
theorem is40 : isFn Tryd.prog 40 = true := by kernel_rfl
theorem is41 : isFn Tryd.prog 41 = true := by kernel_rfl
theorem is42 : isFn Tryd.prog 42 = true := by kernel_rfl
theorem is43 : isFn Tryd.prog 43 = true := by kernel_rfl
theorem is44 : isFn Tryd.prog 44 = true := by kernel_rfl
theorem is45 : isFn Tryd.prog 45 = true := by kernel_rfl
theorem is46 : isFn Tryd.prog 46 = true := by kernel_rfl
theorem is47 : isFn Tryd.prog 47 = true := by kernel_rfl
theorem is48 : isFn Tryd.prog 48 = true := by kernel_rfl
theorem is49 : isFn Tryd.prog 49 = true := by kernel_rfl
theorem is50 : isFn Tryd.prog 50 = true := by kernel_rfl
theorem is51 : isFn Tryd.prog 51 = true := by kernel_rfl
theorem is52 : isFn Tryd.prog 52 = true := by kernel_rfl
theorem is53 : isFn Tryd.prog 53 = true := by kernel_rfl
theorem is54 : isFn Tryd.prog 54 = true := by kernel_rfl
theorem is55 : isFn Tryd.prog 55 = true := by kernel_rfl
theorem is56 : isFn Tryd.prog 56 = true := by kernel_rfl
theorem is57 : isFn Tryd.prog 57 = true := by kernel_rfl
theorem is58 : isFn Tryd.prog 58 = true := by kernel_rfl
theorem is59 : isFn Tryd.prog 59 = true := by kernel_rfl
theorem is60 : isFn Tryd.prog 60 = true := by kernel_rfl
theorem is61 : isFn Tryd.prog 61 = true := by kernel_rfl
theorem is62 : isFn Tryd.prog 62 = true := by kernel_rfl
theorem is63 : isFn Tryd.prog 63 = true := by kernel_rfl
theorem is64 : isFn Tryd.prog 64 = true := by kernel_rfl
theorem is65 : isFn Tryd.prog 65 = true := by kernel_rfl
theorem is66 : isFn Tryd.prog 66 = true := by kernel_rfl
theorem is67 : isFn Tryd.prog 67 = true := by kernel_rfl
theorem is68 : isFn Tryd.prog 68 = true := by kernel_rfl
theorem is69 : isFn Tryd.prog 69 = true := by kernel_rfl
theorem is70 : isFn Tryd.prog 70 = true := by kernel_rfl
theorem is71 : isFn Tryd.prog 71 = true := by kernel_rfl
theorem is72 : isFn Tryd.prog 72 = true := by kernel_rfl
theorem is73 : isFn Tryd.prog 73 = true := by kernel_rfl
theorem is74 : isFn Tryd.prog 74 = true := by kernel_rfl
theorem is75 : isFn Tryd.prog 75 = true := by kernel_rfl
theorem is76 : isFn Tryd.prog 76 = true := by kernel_rfl
theorem is77 : isFn Tryd.prog 77 = true := by kernel_rfl
theorem is78 : isFn Tryd.prog 78 = true := by kernel_rfl
theorem is79 : isFn Tryd.prog 79 = true := by kernel_rfl
theorem is80 : isFn Tryd.prog 80 = true := by kernel_rfl
theorem is81 : isFn Tryd.prog 81 = true := by kernel_rfl
theorem is82 : isFn Tryd.prog 82 = true := by kernel_rfl
theorem is83 : isFn Tryd.prog 83 = true := by kernel_rfl
theorem is84 : isFn Tryd.prog 84 = true := by kernel_rfl
theorem is85 : isFn Tryd.prog 85 = true := by kernel_rfl
theorem is86 : isFn Tryd.prog 86 = true := by kernel_rfl
theorem is87 : isFn Tryd.prog 87 = true := by kernel_rfl
theorem is88 : isFn Tryd.prog 88 = true := by kernel_rfl
theorem is89 : isFn Tryd.prog 89 = true := by kernel_rfl
theorem is90 : isFn Tryd.prog 90 = true := by kernel_rfl
theorem tabOk : TabOk Tryd.prog 1 tab.get := by
  refine tabOk_of ?_
  rw [tabList]
  refine List.forall_mem_cons.2 ⟨⟨cp3, is3⟩, ?_⟩
  refine List.forall_mem_cons.2 ⟨⟨cp7, is7⟩, ?_⟩
  refine List.forall_mem_cons.2 ⟨⟨cp15, is15⟩, ?_⟩
  refine List.forall_mem_cons.2 ⟨⟨cp31, is31⟩, ?_⟩
  refine List.forall_mem_cons.2 ⟨⟨cp63, is63⟩, ?_⟩
  refine List.forall_mem_cons.2 ⟨⟨cp47, is47⟩, ?_⟩
  refine List.forall_mem_cons.2 ⟨⟨cp79, is79⟩, ?_⟩
  refine List.forall_mem_cons.2 ⟨⟨cp23, is23⟩, ?_⟩
  refine List.forall_mem_cons.2 ⟨⟨cp39, is39⟩, ?_⟩
  refine List.forall_mem_cons.2 ⟨⟨cp71, is71⟩, ?_⟩
  refine List.forall_mem_cons.2 ⟨⟨cp55, is55⟩, ?_⟩
  refine List.forall_mem_cons.2 ⟨⟨cp87, is87⟩, ?_⟩
  refine List.forall_mem_cons.2 ⟨⟨cp11, is11⟩, ?_⟩
  refine List.forall_mem_cons.2 ⟨⟨cp19, is19⟩, ?_⟩
  refine List.forall_mem_cons.2 ⟨⟨cp35, is35⟩, ?_⟩
  refine List.forall_mem_cons.2 ⟨⟨cp67, is67⟩, ?_⟩
  refine List.forall_mem_cons.2 ⟨⟨cp51, is51⟩, ?_⟩
  refine List.forall_mem_cons.2 ⟨⟨cp83, is83⟩, ?_⟩
  refine List.forall_mem_cons.2 ⟨⟨cp27, is27⟩, ?_⟩
  refine List.forall_mem_cons.2 ⟨⟨cp43, is43⟩, ?_⟩
  refine List.forall_mem_cons.2 ⟨⟨cp75, is75⟩, ?_⟩
  refine List.forall_mem_cons.2 ⟨⟨cp59, is59⟩, ?_⟩
  refine List.forall_mem_cons.2 ⟨⟨cp5, is5⟩, ?_⟩
  refine List.forall_mem_cons.2 ⟨⟨cp9, is9⟩, ?_⟩
  refine List.forall_mem_cons.2 ⟨⟨cp17, is17⟩, ?_⟩
  refine List.forall_mem_cons.2 ⟨⟨cp33, is33⟩, ?_⟩
  refine List.forall_mem_cons.2 ⟨⟨cp65, is65⟩, ?_⟩
  refine List.forall_mem_cons.2 ⟨⟨cp49, is49⟩, ?_⟩
  refine List.forall_mem_cons.2 ⟨⟨cp81, is81⟩, ?_⟩
  refine List.forall_mem_cons.2 ⟨⟨cp25, is25⟩, ?_⟩
  refine List.forall_mem_cons.2 ⟨⟨cp41, is41⟩, ?_⟩
  refine List.forall_mem_cons.2 ⟨⟨cp73, is73⟩, ?_⟩
  refine List.forall_mem_cons.2 ⟨⟨cp57, is57⟩, ?_⟩
  refine List.forall_mem_cons.2 ⟨⟨cp89, is89⟩, ?_⟩
  refine List.forall_mem_cons.2 ⟨⟨cp13, is13⟩, ?_⟩
  refine List.forall_mem_cons.2 ⟨⟨cp21, is21⟩, ?_⟩
  refine List.forall_mem_cons.2 ⟨⟨cp37, is37⟩, ?_⟩
  refine List.forall_mem_cons.2 ⟨⟨cp69, is69⟩, ?_⟩
  refine List.forall_mem_cons.2 ⟨⟨cp53, is53⟩, ?_⟩
  refine List.forall_mem_cons.2 ⟨⟨cp85, is85⟩, ?_⟩
  refine List.forall_mem_cons.2 ⟨⟨cp29, is29⟩, ?_⟩
  refine List.forall_mem_cons.2 ⟨⟨cp45, is45⟩, ?_⟩
  refine List.forall_mem_cons.2 ⟨⟨cp77, is77⟩, ?_⟩
  refine List.forall_mem_cons.2 ⟨⟨cp61, is61⟩, ?_⟩
  refine List.forall_mem_cons.2 ⟨⟨cp4, is4⟩, ?_⟩
  refine List.forall_mem_cons.2 ⟨⟨cp8, is8⟩, ?_⟩
  refine List.forall_mem_cons.2 ⟨⟨cp16, is16⟩, ?_⟩
  refine List.forall_mem_cons.2 ⟨⟨cp32, is32⟩, ?_⟩
  refine List.forall_mem_cons.2 ⟨⟨cp64, is64⟩, ?_⟩
  refine List.forall_mem_cons.2 ⟨⟨cp48, is48⟩, ?_⟩
  refine List.forall_mem_cons.2 ⟨⟨cp80, is80⟩, ?_⟩
  refine List.forall_mem_cons.2 ⟨⟨cp24, is24⟩, ?_⟩
  refine List.forall_mem_cons.2 ⟨⟨cp40, is40⟩, ?_⟩
  refine List.forall_mem_cons.2 ⟨⟨cp72, is72⟩, ?_⟩
  refine List.forall_mem_cons.2 ⟨⟨cp56, is56⟩, ?_⟩
  refine List.forall_mem_cons.2 ⟨⟨cp88, is88⟩, ?_⟩
  refine List.forall_mem_cons.2 ⟨⟨cp12, is12⟩, ?_⟩
  refine List.forall_mem_cons.2 ⟨⟨cp20, is20⟩, ?_⟩
  refine List.forall_mem_cons.2 ⟨⟨cp36, is36⟩, ?_⟩
  refine List.forall_mem_cons.2 ⟨⟨cp68, is68⟩, ?_⟩
  refine List.forall_mem_cons.2 ⟨⟨cp52, is52⟩, ?_⟩
  refine List.forall_mem_cons.2 ⟨⟨cp84, is84⟩, ?_⟩
  refine List.forall_mem_cons.2 ⟨⟨cp28, is28⟩, ?_⟩
  refine List.forall_mem_cons.2 ⟨⟨cp44, is44⟩, ?_⟩
  refine List.forall_mem_cons.2 ⟨⟨cp76, is76⟩, ?_⟩
  refine List.forall_mem_cons.2 ⟨⟨cp60, is60⟩, ?_⟩
  refine List.forall_mem_cons.2 ⟨⟨cp6, is6⟩, ?_⟩
  refine List.forall_mem_cons.2 ⟨⟨cp10, is10⟩, ?_⟩
  refine List.forall_mem_cons.2 ⟨⟨cp18, is18⟩, ?_⟩
  refine List.forall_mem_cons.2 ⟨⟨cp34, is34⟩, ?_⟩
  refine List.forall_mem_cons.2 ⟨⟨cp66, is66⟩, ?_⟩
  refine List.forall_mem_cons.2 ⟨⟨cp50, is50⟩, ?_⟩
  refine List.forall_mem_cons.2 ⟨⟨cp82, is82⟩, ?_⟩
  refine List.forall_mem_cons.2 ⟨⟨cp26, is26⟩, ?_⟩
  refine List.forall_mem_cons.2 ⟨⟨cp42, is42⟩, ?_⟩
  refine List.forall_mem_cons.2 ⟨⟨cp74, is74⟩, ?_⟩
  refine List.forall_mem_cons.2 ⟨⟨cp58, is58⟩, ?_⟩
  refine List.forall_mem_cons.2 ⟨⟨cp90, is90⟩, ?_⟩
  refine List.forall_mem_cons.2 ⟨⟨cp14, is14⟩, ?_⟩
  refine List.forall_mem_cons.2 ⟨⟨cp22, is22⟩, ?_⟩
  refine List.forall_mem_cons.2 ⟨⟨cp38, is38⟩, ?_⟩
  refine List.forall_mem_cons.2 ⟨⟨cp70, is70⟩, ?_⟩
  refine List.forall_mem_cons.2 ⟨⟨cp54, is54⟩, ?_⟩
  refine List.forall_mem_cons.2 ⟨⟨cp86, is86⟩, ?_⟩
  refine List.forall_mem_cons.2 ⟨⟨cp30, is30⟩, ?_⟩
  refine List.forall_mem_cons.2 ⟨⟨cp46, is46⟩, ?_⟩
  refine List.forall_mem_cons.2 ⟨⟨cp78, is78⟩, ?_⟩
  refine List.forall_mem_cons.2 ⟨⟨cp62, is62⟩, ?_⟩
  intro x hx
  cases hx
end Go.Ab.Fn
