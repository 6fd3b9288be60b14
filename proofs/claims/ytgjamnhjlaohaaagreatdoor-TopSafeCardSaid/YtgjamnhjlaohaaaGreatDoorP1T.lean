/- YtgjamnhjlaohaaaGreatDoor: a text of our own, by an AI agent -/
import Derived.Test.YtgjamnhjlaohaaaGreatDoorP0T
import Derived.KernelRfl
import Derived.WalkKit
set_option maxRecDepth 100000
set_option maxHeartbeats 400000
set_option linter.unusedSectionVars false
set_option linter.unusedVariables false
set_option linter.unusedSimpArgs false
namespace Go.Proofs.YtgjamnhjlaohaaaGreatDoor.T
open Go Go.Alog
def tyL : Unit -> List (Nat × TD) := fun _ => [(1, ⟨false, [.any], [], 0, 8⟩),
 (2, ⟨false, [.int .i64], [], 0, 8⟩),
 (3, ⟨false, [.int .i64], [], 0, 8⟩),
 (4, ⟨false, [.bool], [], 0, 1⟩),
 (5, ⟨false, [.int .u8], [], 0, 1⟩),
 (6, ⟨false, [.int .u8], [], 0, 1⟩),
 (7, ⟨true, [.int .i64, .int .i64, .bool, .int .u8], [(0, 2), (1, 3), (2, 4), (3, 6)], 0, 24⟩),
 (8, ⟨true, [.int .i64, .int .i64, .bool, .int .u8], [(0, 2), (1, 3), (2, 4), (3, 6)], 0, 24⟩),
 (9, ⟨false, [.str], [], 0, 16⟩),
 (10, ⟨false, [.str], [], 0, 16⟩),
 (11, ⟨false, [.str], [], 0, 16⟩),
 (12, ⟨false, [.int .u64], [], 0, 8⟩),
 (13, ⟨true, [.str, .int .u64], [(0, 9), (1, 12)], 0, 24⟩),
 (14, ⟨true, [.str, .int .u64], [(0, 9), (1, 12)], 0, 24⟩),
 (15, ⟨false, [.ptr], [], 0, 8⟩),
 (16, ⟨false, [.ptr], [], 0, 8⟩),
 (17, ⟨false, [.ptr], [], 0, 8⟩),
 (18, ⟨true, [.ptr], [(0, 17)], 0, 8⟩),
 (19, ⟨true, [.ptr], [(0, 17)], 0, 8⟩),
 (20, ⟨false, [.any], [], 0, 16⟩),
 (21, ⟨false, [.int .i32], [], 0, 4⟩),
 (22, ⟨false, [.slice], [], 9, 24⟩),
 (23, ⟨false, [.any], [], 0, 8⟩),
 (24, ⟨false, [.any], [], 0, 8⟩),
 (25, ⟨false, [.slice], [], 57, 24⟩),
 (26, ⟨true, [.slice, .int .i64], [(0, 25), (1, 3)], 0, 32⟩),
 (27, ⟨true, [.slice, .int .i64], [(0, 25), (1, 3)], 0, 32⟩),
 (28, ⟨true, [.slice, .int .i64, .slice, .int .i64], [(0, 27), (2, 25), (3, 3)], 0, 64⟩),
 (29, ⟨true, [.slice, .int .i64, .slice, .int .i64], [(0, 27), (2, 25), (3, 3)], 0, 64⟩),
 (30, ⟨false, [.int .i64], [], 0, 8⟩),
 (32, ⟨false, [.any], [], 0, 8⟩),
 (33, ⟨false, [.slice], [], 3, 24⟩),
 (35, ⟨false, [.any], [], 0, 8⟩),
 (36, ⟨false, [.any], [], 0, 8⟩),
 (37, ⟨false, [.any], [], 0, 8⟩),
 (38, ⟨true, [.int .i64, .int .i64, .slice, .slice], [(0, 3), (1, 3), (2, 33), (3, 33)], 0, 64⟩),
 (39, ⟨true, [.int .i64, .int .i64, .slice, .slice], [(0, 3), (1, 3), (2, 33), (3, 33)], 0, 64⟩),
 (40, ⟨false, [.any], [], 0, 8⟩),
 (41, ⟨false, [.slice], [], 45, 24⟩),
 (42, ⟨false, [.slice], [], 137, 24⟩),
 (43, ⟨false, [.slice], [], 86, 24⟩),
 (44, ⟨true, [.str, .slice, .int .i64, .slice, .slice, .slice], [(0, 9), (1, 25), (2, 3), (3, 42), (4, 22), (5, 43)], 0, 120⟩),
 (45, ⟨true, [.str, .slice, .int .i64, .slice, .slice, .slice], [(0, 9), (1, 25), (2, 3), (3, 42), (4, 22), (5, 43)], 0, 120⟩),
 (47, ⟨false, [.any], [], 0, 8⟩),
 (49, ⟨false, [.any], [], 0, 8⟩),
 (50, ⟨false, [.map], [], 3, 8⟩),
 (51, ⟨true, [.slice, .slice, .map, .slice], [(0, 25), (1, 33), (2, 50), (3, 33)], 0, 80⟩),
 (52, ⟨true, [.slice, .slice, .map, .slice], [(0, 25), (1, 33), (2, 50), (3, 33)], 0, 80⟩),
 (53, ⟨false, [.any], [], 0, 8⟩),
 (55, ⟨false, [.any], [], 0, 8⟩),
 (56, ⟨true, [.int .i64, .int .i64, .int .i64, .int .i64, .int .i64], [(0, 3), (1, 3), (2, 3), (3, 3), (4, 3)], 0, 40⟩),
 (57, ⟨true, [.int .i64, .int .i64, .int .i64, .int .i64, .int .i64], [(0, 3), (1, 3), (2, 3), (3, 3), (4, 3)], 0, 40⟩),
 (58, ⟨false, [.any], [], 0, 8⟩),
 (60, ⟨false, [.any], [], 0, 8⟩),
 (61, ⟨false, [.any], [], 0, 8⟩),
 (62, ⟨false, [.slice], [], 120, 24⟩),
 (64, ⟨false, [.any], [], 0, 8⟩),
 (65, ⟨false, [.ptr], [], 0, 8⟩),
 (66, ⟨true, [.slice, .slice, .int .i64], [(0, 25), (1, 43), (2, 3)], 0, 56⟩),
 (67, ⟨true, [.slice, .slice, .int .i64], [(0, 25), (1, 43), (2, 3)], 0, 56⟩),
 (68, ⟨false, [.slice], [], 243, 24⟩),
 (69, ⟨true, [.slice, .slice], [(0, 68), (1, 33)], 0, 48⟩),
 (70, ⟨true, [.slice, .slice], [(0, 68), (1, 33)], 0, 48⟩),
 (71, ⟨true, [.slice, .int .i64, .slice, .slice, .int .i64, .slice, .slice, .str, .slice, .int .i64, .slice, .slice, .slice, .int .i64, .int .i64, .int .i64, .int .i64], [(0, 62), (1, 3), (2, 67), (5, 70), (7, 45), (13, 30), (14, 3), (15, 3), (16, 3)], 0, 288⟩),
 (72, ⟨true, [.slice, .int .i64, .slice, .slice, .int .i64, .slice, .slice, .str, .slice, .int .i64, .slice, .slice, .slice, .int .i64, .int .i64, .int .i64, .int .i64], [(0, 62), (1, 3), (2, 67), (5, 70), (7, 45), (13, 30), (14, 3), (15, 3), (16, 3)], 0, 288⟩),
 (73, ⟨false, [.any], [], 0, 8⟩),
 (74, ⟨false, [.any], [], 0, 8⟩),
 (75, ⟨false, [.any], [], 0, 8⟩),
 (76, ⟨false, [.any], [], 0, 8⟩),
 (77, ⟨false, [.any], [], 0, 8⟩),
 (78, ⟨false, [.ptr], [], 0, 8⟩),
 (79, ⟨false, [.map], [], 3, 8⟩),
 (80, ⟨false, [.slice], [], 89, 24⟩),
 (81, ⟨true, [.slice, .int .i64, .slice, .map, .int .i64], [(0, 27), (2, 80), (3, 79), (4, 3)], 0, 72⟩),
 (82, ⟨true, [.slice, .int .i64, .slice, .map, .int .i64], [(0, 27), (2, 80), (3, 79), (4, 3)], 0, 72⟩),
 (83, ⟨false, [.any], [], 0, 8⟩),
 (84, ⟨false, [.any], [], 0, 8⟩),
 (85, ⟨true, [.int .i64, .int .i64, .int .i64], [(0, 3), (1, 3), (2, 3)], 0, 24⟩),
 (86, ⟨true, [.int .i64, .int .i64, .int .i64], [(0, 3), (1, 3), (2, 3)], 0, 24⟩),
 (87, ⟨false, [.any], [], 0, 8⟩),
 (88, ⟨true, [.int .i64, .int .i64], [(0, 3), (1, 3)], 0, 16⟩),
 (89, ⟨true, [.int .i64, .int .i64], [(0, 3), (1, 3)], 0, 16⟩),
 (90, ⟨false, [.any], [], 0, 8⟩),
 (91, ⟨false, [.slice], [], 94, 24⟩),
 (92, ⟨false, [.any], [], 0, 8⟩),
 (93, ⟨true, [.int .i64, .int .i64], [(0, 3), (1, 3)], 0, 16⟩),
 (94, ⟨true, [.int .i64, .int .i64], [(0, 3), (1, 3)], 0, 16⟩),
 (95, ⟨false, [.any], [], 0, 8⟩),
 (96, ⟨false, [.any], [], 0, 8⟩),
 (97, ⟨true, [.bool, .bool, .bool, .bool], [(0, 4), (1, 4), (2, 4), (3, 4)], 0, 4⟩),
 (98, ⟨true, [.bool, .bool, .bool, .bool], [(0, 4), (1, 4), (2, 4), (3, 4)], 0, 4⟩),
 (100, ⟨false, [.any], [], 0, 8⟩),
 (101, ⟨false, [.any], [], 0, 8⟩),
 (102, ⟨false, [.any], [], 0, 8⟩),
 (103, ⟨false, [.any], [], 0, 8⟩),
 (104, ⟨false, [.ptr], [], 0, 8⟩),
 (105, ⟨false, [.any], [], 0, 8⟩),
 (106, ⟨false, [.ptr], [], 0, 8⟩),
 (107, ⟨false, [.any], [], 0, 8⟩),
 (108, ⟨true, [.int .i64, .int .i64, .int .i64, .int .i64, .int .i64, .int .i64, .int .i64, .int .i64, .int .i64, .int .i64, .int .i64, .int .i64, .int .i64, .int .i64, .int .i64, .int .i64, .int .i64, .int .i64, .int .i64, .int .i64, .int .i64, .int .i64, .int .i64, .int .i64, .int .i64, .int .i64, .int .i64, .int .i64, .int .i64, .int .i64, .int .i64, .int .i64], [], 3, 32⟩),
 (109, ⟨true, [.slice, .ptr, .int .i64, .int .i64, .int .i64, .int .i64, .int .i64, .int .i64, .int .i64, .int .i64, .int .i64, .int .i64, .int .i64, .int .i64, .int .i64, .int .i64, .int .i64, .int .i64, .int .i64, .int .i64, .int .i64, .int .i64, .int .i64, .int .i64, .int .i64, .int .i64, .int .i64, .int .i64, .int .i64, .int .i64, .int .i64, .int .i64, .int .i64, .int .i64, .int .i64, .slice, .slice], [(0, 25), (1, 104), (2, 108), (34, 3), (35, 33), (36, 33)], 0, 344⟩),
 (110, ⟨true, [.slice, .ptr, .int .i64, .int .i64, .int .i64, .int .i64, .int .i64, .int .i64, .int .i64, .int .i64, .int .i64, .int .i64, .int .i64, .int .i64, .int .i64, .int .i64, .int .i64, .int .i64, .int .i64, .int .i64, .int .i64, .int .i64, .int .i64, .int .i64, .int .i64, .int .i64, .int .i64, .int .i64, .int .i64, .int .i64, .int .i64, .int .i64, .int .i64, .int .i64, .int .i64, .slice, .slice], [(0, 25), (1, 104), (2, 108), (34, 3), (35, 33), (36, 33)], 0, 344⟩),
 (111, ⟨false, [.any], [], 0, 8⟩),
 (112, ⟨false, [.any], [], 0, 8⟩),
 (113, ⟨false, [.ptr], [], 0, 8⟩),
 (114, ⟨true, [.bool, .int .i64, .int .i64, .int .i64, .int .i64, .int .i64, .int .i64, .int .i64, .int .i64, .int .i64, .int .i64, .int .i64], [(0, 4), (1, 57), (6, 3), (7, 3), (8, 3), (9, 3), (10, 3), (11, 3)], 0, 96⟩),
 (115, ⟨true, [.bool, .int .i64, .int .i64, .int .i64, .int .i64, .int .i64, .int .i64, .int .i64, .int .i64, .int .i64, .int .i64, .int .i64], [(0, 4), (1, 57), (6, 3), (7, 3), (8, 3), (9, 3), (10, 3), (11, 3)], 0, 96⟩),
 (116, ⟨true, [.slice, .ptr, .int .i64, .int .i64, .int .i64, .int .i64, .int .i64, .int .i64, .int .i64, .int .i64, .int .i64, .int .i64, .int .i64, .int .i64, .int .i64, .int .i64, .int .i64, .int .i64, .int .i64, .int .i64, .int .i64, .int .i64, .int .i64, .int .i64, .int .i64, .int .i64, .int .i64, .int .i64, .int .i64, .int .i64, .int .i64, .int .i64, .int .i64, .int .i64, .int .i64, .slice, .slice, .bool, .int .i64, .int .i64, .int .i64, .int .i64, .int .i64, .int .i64, .int .i64, .int .i64, .int .i64, .int .i64, .int .i64, .bool, .int .i64, .int .i64, .int .i64, .int .i64, .int .i64, .int .i64, .int .i64, .int .i64, .int .i64, .int .i64, .int .i64, .bool, .int .i64, .int .i64, .int .i64, .int .i64, .int .i64, .int .i64, .int .i64, .int .i64, .int .i64, .int .i64, .int .i64, .bool, .int .i64, .int .i64, .int .i64, .int .i64, .int .i64, .int .i64, .int .i64, .int .i64, .int .i64, .int .i64, .int .i64], [(0, 25), (1, 104), (2, 108), (34, 3), (35, 33), (36, 33), (37, 115), (49, 115), (61, 115), (73, 115)], 0, 728⟩),
 (117, ⟨true, [.slice, .ptr, .int .i64, .int .i64, .int .i64, .int .i64, .int .i64, .int .i64, .int .i64, .int .i64, .int .i64, .int .i64, .int .i64, .int .i64, .int .i64, .int .i64, .int .i64, .int .i64, .int .i64, .int .i64, .int .i64, .int .i64, .int .i64, .int .i64, .int .i64, .int .i64, .int .i64, .int .i64, .int .i64, .int .i64, .int .i64, .int .i64, .int .i64, .int .i64, .int .i64, .slice, .slice, .bool, .int .i64, .int .i64, .int .i64, .int .i64, .int .i64, .int .i64, .int .i64, .int .i64, .int .i64, .int .i64, .int .i64, .bool, .int .i64, .int .i64, .int .i64, .int .i64, .int .i64, .int .i64, .int .i64, .int .i64, .int .i64, .int .i64, .int .i64, .bool, .int .i64, .int .i64, .int .i64, .int .i64, .int .i64, .int .i64, .int .i64, .int .i64, .int .i64, .int .i64, .int .i64, .bool, .int .i64, .int .i64, .int .i64, .int .i64, .int .i64, .int .i64, .int .i64, .int .i64, .int .i64, .int .i64, .int .i64], [(0, 25), (1, 104), (2, 108), (34, 3), (35, 33), (36, 33), (37, 115), (49, 115), (61, 115), (73, 115)], 0, 728⟩),
 (118, ⟨false, [.any], [], 0, 8⟩),
 (119, ⟨true, [.int .i64, .str, .int .i64, .int .i64], [(0, 3), (1, 9), (2, 3), (3, 3)], 0, 40⟩),
 (120, ⟨true, [.int .i64, .str, .int .i64, .int .i64], [(0, 3), (1, 9), (2, 3), (3, 3)], 0, 40⟩),
 (122, ⟨false, [.any], [], 0, 8⟩),
 (123, ⟨false, [.any], [], 0, 8⟩),
 (124, ⟨false, [.any], [], 0, 8⟩),
 (126, ⟨false, [.any], [], 0, 8⟩),
 (127, ⟨true, [.int .i64, .int .i64, .int .i64, .bool], [(0, 3), (1, 3), (2, 3), (3, 4)], 0, 32⟩),
 (128, ⟨true, [.int .i64, .int .i64, .int .i64, .bool], [(0, 3), (1, 3), (2, 3), (3, 4)], 0, 32⟩),
 (129, ⟨false, [.any], [], 0, 8⟩),
 (130, ⟨false, [.any], [], 0, 8⟩),
 (131, ⟨false, [.any], [], 0, 8⟩),
 (132, ⟨false, [.ptr], [], 0, 8⟩),
 (133, ⟨false, [.any], [], 0, 8⟩),
 (134, ⟨false, [.any], [], 0, 8⟩),
 (135, ⟨false, [.any], [], 0, 8⟩),
 (136, ⟨true, [.str, .int .i64], [(0, 9), (1, 3)], 0, 24⟩),
 (137, ⟨true, [.str, .int .i64], [(0, 9), (1, 3)], 0, 24⟩),
 (138, ⟨false, [.any], [], 0, 8⟩),
 (139, ⟨false, [.any], [], 0, 8⟩),
 (140, ⟨false, [.any], [], 0, 8⟩),
 (141, ⟨false, [.map], [], 4, 8⟩),
 (142, ⟨true, [.map, .slice], [(0, 141), (1, 22)], 0, 32⟩),
 (143, ⟨true, [.map, .slice], [(0, 141), (1, 22)], 0, 32⟩),
 (144, ⟨false, [.any], [], 0, 8⟩),
 (145, ⟨false, [.any], [], 0, 8⟩),
 (146, ⟨false, [.any], [], 0, 8⟩),
 (147, ⟨false, [.any], [], 0, 8⟩),
 (148, ⟨true, [.slice], [(0, 33)], 0, 24⟩),
 (149, ⟨true, [.slice], [(0, 33)], 0, 24⟩),
 (151, ⟨false, [.any], [], 0, 8⟩),
 (152, ⟨false, [.any], [], 0, 8⟩),
 (153, ⟨false, [.any], [], 0, 8⟩),
 (154, ⟨false, [.any], [], 0, 8⟩),
 (155, ⟨false, [.any], [], 0, 8⟩),
 (156, ⟨false, [.any], [], 0, 8⟩),
 (157, ⟨false, [.any], [], 0, 8⟩),
 (158, ⟨false, [.any], [], 0, 8⟩),
 (159, ⟨false, [.ptr], [], 0, 8⟩),
 (160, ⟨false, [.any], [], 0, 8⟩),
 (161, ⟨false, [.any], [], 0, 8⟩),
 (162, ⟨false, [.any], [], 0, 8⟩),
 (163, ⟨false, [.any], [], 0, 8⟩),
 (164, ⟨false, [.ptr], [], 0, 8⟩),
 (165, ⟨false, [.map], [], 4, 8⟩),
 (166, ⟨true, [.map, .slice], [(0, 165), (1, 33)], 0, 32⟩),
 (167, ⟨true, [.map, .slice], [(0, 165), (1, 33)], 0, 32⟩),
 (168, ⟨false, [.any], [], 0, 8⟩),
 (169, ⟨false, [.any], [], 0, 8⟩),
 (170, ⟨false, [.any], [], 0, 8⟩),
 (171, ⟨false, [.any], [], 0, 8⟩),
 (172, ⟨false, [.any], [], 0, 8⟩),
 (173, ⟨false, [.any], [], 0, 8⟩),
 (174, ⟨false, [.any], [], 0, 8⟩),
 (175, ⟨false, [.any], [], 0, 8⟩),
 (176, ⟨false, [.any], [], 0, 8⟩),
 (177, ⟨false, [.any], [], 0, 8⟩),
 (179, ⟨false, [.any], [], 0, 8⟩),
 (180, ⟨false, [.any], [], 0, 8⟩),
 (181, ⟨false, [.any], [], 0, 8⟩),
 (182, ⟨false, [.any], [], 0, 8⟩),
 (183, ⟨false, [.any], [], 0, 8⟩),
 (184, ⟨false, [.any], [], 0, 8⟩),
 (185, ⟨false, [.any], [], 0, 8⟩),
 (186, ⟨false, [.any], [], 0, 8⟩),
 (187, ⟨false, [.any], [], 0, 8⟩),
 (188, ⟨false, [.slice], [], 5, 24⟩),
 (189, ⟨false, [.any], [], 0, 8⟩),
 (190, ⟨false, [.any], [], 0, 8⟩),
 (191, ⟨false, [.any], [], 0, 8⟩),
 (192, ⟨false, [.any], [], 0, 8⟩),
 (193, ⟨false, [.any], [], 0, 8⟩),
 (194, ⟨false, [.any], [], 0, 8⟩),
 (195, ⟨false, [.any], [], 0, 8⟩),
 (197, ⟨false, [.any], [], 0, 8⟩),
 (198, ⟨false, [.any], [], 0, 8⟩),
 (199, ⟨false, [.any], [], 0, 8⟩),
 (200, ⟨false, [.any], [], 0, 8⟩),
 (201, ⟨false, [.ptr], [], 0, 8⟩),
 (202, ⟨false, [.any], [], 0, 8⟩),
 (203, ⟨false, [.any], [], 0, 8⟩),
 (204, ⟨false, [.any], [], 0, 8⟩),
 (205, ⟨false, [.any], [], 0, 8⟩),
 (206, ⟨false, [.int .u64], [], 0, 8⟩),
 (208, ⟨false, [.any], [], 0, 8⟩),
 (209, ⟨false, [.any], [], 0, 8⟩),
 (210, ⟨false, [.any], [], 0, 8⟩),
 (211, ⟨false, [.any], [], 0, 8⟩),
 (212, ⟨false, [.any], [], 0, 8⟩),
 (213, ⟨false, [.any], [], 0, 8⟩),
 (214, ⟨false, [.any], [], 0, 8⟩),
 (215, ⟨false, [.slice], [], 128, 24⟩),
 (216, ⟨false, [.any], [], 0, 8⟩),
 (217, ⟨false, [.any], [], 0, 8⟩),
 (218, ⟨false, [.any], [], 0, 8⟩),
 (220, ⟨false, [.any], [], 0, 8⟩),
 (221, ⟨false, [.any], [], 0, 8⟩),
 (222, ⟨false, [.any], [], 0, 8⟩),
 (223, ⟨false, [.any], [], 0, 8⟩),
 (224, ⟨false, [.any], [], 0, 8⟩),
 (225, ⟨false, [.any], [], 0, 8⟩),
 (226, ⟨false, [.int .i64], [], 0, 8⟩),
 (228, ⟨false, [.any], [], 0, 8⟩),
 (229, ⟨false, [.any], [], 0, 8⟩),
 (230, ⟨false, [.any], [], 0, 8⟩),
 (231, ⟨false, [.any], [], 0, 8⟩),
 (232, ⟨false, [.any], [], 0, 8⟩),
 (233, ⟨false, [.int .u32], [], 0, 4⟩),
 (234, ⟨false, [.any], [], 0, 8⟩),
 (235, ⟨false, [.int .u64], [], 0, 8⟩),
 (237, ⟨false, [.any], [], 0, 8⟩),
 (239, ⟨false, [.any], [], 0, 8⟩),
 (240, ⟨true, [.int .u8, .int .u8, .int .u8, .int .u8, .int .u8, .int .u8, .int .u8, .int .u8, .int .u8, .int .u8, .int .u8, .int .u8, .int .u8, .int .u8, .int .u8, .int .u8, .int .u8, .int .u8, .int .u8, .int .u8, .int .u8, .int .u8, .int .u8, .int .u8, .int .u8, .int .u8, .int .u8, .int .u8, .int .u8, .int .u8, .int .u8, .int .u8, .int .u8, .int .u8, .int .u8, .int .u8, .int .u8, .int .u8, .int .u8, .int .u8, .int .u8, .int .u8, .int .u8, .int .u8, .int .u8, .int .u8, .int .u8, .int .u8, .int .u8, .int .u8, .int .u8, .int .u8, .int .u8, .int .u8, .int .u8, .int .u8, .int .u8, .int .u8, .int .u8, .int .u8, .int .u8, .int .u8, .int .u8, .int .u8, .int .u8, .int .u8, .int .u8, .int .u8, .int .u8, .int .u8, .int .u8, .int .u8, .int .u8, .int .u8, .int .u8, .int .u8, .int .u8, .int .u8, .int .u8, .int .u8, .int .u8, .int .u8, .int .u8, .int .u8, .int .u8, .int .u8, .int .u8, .int .u8, .int .u8, .int .u8, .int .u8, .int .u8, .int .u8, .int .u8, .int .u8, .int .u8, .int .u8, .int .u8, .int .u8, .int .u8, .int .u8, .int .u8, .int .u8, .int .u8, .int .u8, .int .u8, .int .u8, .int .u8, .int .u8, .int .u8, .int .u8, .int .u8, .int .u8, .int .u8, .int .u8, .int .u8, .int .u8, .int .u8, .int .u8, .int .u8, .int .u8, .int .u8, .int .u8, .int .u8, .int .u8, .int .u8, .int .u8, .int .u8, .int .u8, .int .u8, .int .u8, .int .u8, .int .u8, .int .u8, .int .u8, .int .u8, .int .u8, .int .u8, .int .u8, .int .u8, .int .u8, .int .u8, .int .u8, .int .u8, .int .u8, .int .u8, .int .u8, .int .u8, .int .u8, .int .u8, .int .u8, .int .u8, .int .u8, .int .u8, .int .u8, .int .u8, .int .u8, .int .u8, .int .u8, .int .u8, .int .u8, .int .u8, .int .u8, .int .u8, .int .u8, .int .u8, .int .u8, .int .u8, .int .u8, .int .u8, .int .u8, .int .u8, .int .u8, .int .u8, .int .u8, .int .u8, .int .u8, .int .u8, .int .u8, .int .u8, .int .u8, .int .u8, .int .u8, .int .u8, .int .u8, .int .u8, .int .u8, .int .u8, .int .u8, .int .u8, .int .u8, .int .u8, .int .u8, .int .u8, .int .u8, .int .u8, .int .u8, .int .u8, .int .u8, .int .u8, .int .u8, .int .u8, .int .u8, .int .u8, .int .u8, .int .u8, .int .u8, .int .u8, .int .u8, .int .u8, .int .u8, .int .u8, .int .u8, .int .u8, .int .u8, .int .u8, .int .u8, .int .u8, .int .u8, .int .u8, .int .u8, .int .u8, .int .u8, .int .u8, .int .u8, .int .u8, .int .u8, .int .u8, .int .u8, .int .u8, .int .u8, .int .u8, .int .u8, .int .u8, .int .u8, .int .u8, .int .u8, .int .u8, .int .u8, .int .u8, .int .u8, .int .u8, .int .u8, .int .u8, .int .u8, .int .u8, .int .u8, .int .u8, .int .u8, .int .u8, .int .u8, .int .u8, .int .u8, .int .u8, .int .u8, .int .u8], [], 5, 256⟩),
 (241, ⟨false, [.any], [], 0, 8⟩),
 (242, ⟨true, [.str, .int .i64, .int .i64, .int .i64, .bool], [(0, 9), (1, 128)], 0, 48⟩),
 (243, ⟨true, [.str, .int .i64, .int .i64, .int .i64, .bool], [(0, 9), (1, 128)], 0, 48⟩),
 (244, ⟨false, [.any], [], 0, 8⟩),
 (245, ⟨false, [.any], [], 0, 8⟩),
 (246, ⟨false, [.int .u64], [], 0, 8⟩),
 (247, ⟨false, [.any], [], 0, 8⟩),
 (248, ⟨false, [.any], [], 0, 8⟩),
 (249, ⟨false, [.any], [], 0, 8⟩),
 (250, ⟨false, [.ptr], [], 0, 8⟩),
 (251, ⟨false, [.any], [], 0, 8⟩),
 (252, ⟨false, [.slice], [], 254, 24⟩),
 (253, ⟨true, [.int .i64, .int .i64], [(0, 3), (1, 3)], 0, 16⟩),
 (254, ⟨true, [.int .i64, .int .i64], [(0, 3), (1, 3)], 0, 16⟩),
 (255, ⟨false, [.any], [], 0, 8⟩),
 (256, ⟨false, [.ptr], [], 0, 8⟩),
 (257, ⟨false, [.any], [], 0, 8⟩),
 (258, ⟨false, [.ptr], [], 0, 8⟩),
 (259, ⟨false, [.any], [], 0, 8⟩),
 (260, ⟨false, [.slice], [], 266, 24⟩),
 (261, ⟨false, [.slice], [], 269, 24⟩),
 (262, ⟨true, [.slice, .slice, .int .i64], [(0, 260), (1, 261), (2, 3)], 0, 56⟩),
 (263, ⟨true, [.slice, .slice, .int .i64], [(0, 260), (1, 261), (2, 3)], 0, 56⟩),
 (264, ⟨false, [.int .u16], [], 0, 2⟩),
 (265, ⟨true, [.int .u16, .int .u16, .int .u16], [(0, 264), (1, 264), (2, 264)], 0, 6⟩),
 (266, ⟨true, [.int .u16, .int .u16, .int .u16], [(0, 264), (1, 264), (2, 264)], 0, 6⟩),
 (267, ⟨false, [.any], [], 0, 8⟩),
 (268, ⟨true, [.int .u32, .int .u32, .int .u32], [(0, 233), (1, 233), (2, 233)], 0, 12⟩),
 (269, ⟨true, [.int .u32, .int .u32, .int .u32], [(0, 233), (1, 233), (2, 233)], 0, 12⟩),
 (270, ⟨false, [.any], [], 0, 8⟩),
 (271, ⟨false, [.ptr], [], 0, 8⟩),
 (272, ⟨false, [.ptr], [], 0, 8⟩),
 (273, ⟨false, [.any], [], 0, 8⟩),
 (274, ⟨false, [.any], [], 0, 8⟩),
 (275, ⟨true, [.ptr, .ptr, .ptr, .str], [(0, 17), (1, 17), (2, 17), (3, 9)], 0, 40⟩),
 (276, ⟨true, [.ptr, .ptr, .ptr, .str], [(0, 17), (1, 17), (2, 17), (3, 9)], 0, 40⟩),
 (280, ⟨false, [.int .u8], [], 0, 1⟩),
 (281, ⟨false, [.int .u8], [], 0, 1⟩),
 (282, ⟨false, [.any], [], 0, 8⟩),
 (283, ⟨false, [.ptr], [], 0, 8⟩),
 (284, ⟨false, [.int .i32], [], 0, 4⟩),
 (285, ⟨false, [.int .i32], [], 0, 4⟩),
 (286, ⟨true, [.int .u64, .int .u64, .int .u32, .int .u8, .int .u8, .int .u8, .int .u8, .any, .ptr, .int .i32, .int .i32], [(0, 12), (1, 12), (2, 233), (3, 280), (4, 5), (5, 5), (6, 281), (7, 282), (8, 283), (9, 284), (10, 285)], 0, 48⟩),
 (287, ⟨true, [.int .u64, .int .u64, .int .u32, .int .u8, .int .u8, .int .u8, .int .u8, .any, .ptr, .int .i32, .int .i32], [(0, 12), (1, 12), (2, 233), (3, 280), (4, 5), (5, 5), (6, 281), (7, 282), (8, 283), (9, 284), (10, 285)], 0, 48⟩),
 (288, ⟨false, [.any], [], 0, 8⟩),
 (289, ⟨false, [.ptr], [], 0, 8⟩),
 (290, ⟨false, [.any], [], 0, 8⟩),
 (291, ⟨false, [.any], [], 0, 8⟩)]
def sgL:Unit->List (Nat × List Nat):=fun _=>[(0,[]),(1,[]),(2,[]),(3,[4]),(4,[4]),(5,[4]),(6,[29,3,3,30]),(7,[25,33,30]),(8,[4]),(9,[39]),(10,[39]),(11,[45,3,30]),(12,[27,30]),(13,[4]),(14,[52]),(15,[3,4]),(16,[4]),(17,[3,3]),(18,[39]),(19,[39]),(20,[62,3,30]),(21,[]),(22,[25]),(23,[43]),(24,[]),(25,[4]),(26,[4]),(27,[4]),(28,[4]),(29,[]),(30,[30]),(31,[]),(32,[91]),(33,[33]),(34,[25]),(35,[98,4]),(36,[4]),(37,[4]),(38,[3]),(39,[104]),(40,[33]),(41,[3]),(42,[33]),(43,[3]),(44,[3]),(45,[120,3,30]),(46,[4]),(47,[]),(48,[9,3]),(49,[]),(50,[3]),(51,[]),(52,[4]),(53,[3]),(54,[]),(55,[3]),(56,[3]),(57,[25]),(58,[43]),(59,[3]),(60,[4]),(61,[4]),(62,[4]),(63,[4]),(64,[4]),(65,[4]),(66,[4]),(67,[4]),(68,[33]),(69,[4]),(70,[33]),(71,[4]),(72,[3]),(73,[4]),(74,[4]),(75,[3]),(76,[4]),(77,[33]),(78,[3]),(79,[3,3,4]),(80,[]),(81,[3]),(82,[33]),(83,[]),(84,[3]),(85,[]),(86,[]),(87,[3]),(88,[3]),(89,[4]),(90,[3]),(91,[4]),(92,[4]),(93,[9]),(94,[3]),(95,[3]),(96,[4]),(97,[4]),(98,[4]),(99,[]),(100,[]),(101,[]),(102,[4]),(103,[]),(104,[3]),(105,[4]),(106,[3]),(107,[3]),(108,[4]),(109,[4]),(110,[33]),(111,[33]),(112,[171]),(113,[4]),(114,[]),(115,[33]),(116,[33]),(117,[4]),(118,[3,4]),(119,[4]),(120,[4]),(121,[4]),(122,[33,3]),(123,[3]),(124,[4]),(125,[33]),(126,[3,4]),(127,[3]),(128,[4]),(129,[3]),(130,[3]),(131,[3,4]),(132,[3,3,4]),(133,[115]),(134,[3]),(135,[3]),(136,[3]),(137,[4]),(138,[4]),(139,[22]),(140,[]),(141,[3,3]),(142,[]),(143,[]),(144,[9,3,4]),(145,[3]),(146,[3]),(147,[]),(148,[]),(149,[4]),(150,[]),(151,[]),(152,[3]),(153,[4]),(154,[]),(155,[]),(156,[3]),(157,[4]),(158,[3]),(159,[33]),(160,[]),(161,[]),(162,[3]),(163,[206,206]),(164,[33,3]),(165,[4]),(166,[3]),(167,[108]),(168,[4]),(169,[3]),(170,[22]),(171,[4]),(172,[217]),(173,[128,3,4]),(174,[]),(175,[3]),(176,[3]),(177,[128]),(178,[]),(179,[]),(180,[]),(181,[]),(182,[]),(183,[]),(184,[3,226]),(185,[]),(186,[4]),(187,[4]),(188,[3]),(189,[3,4]),(190,[3]),(191,[3]),(192,[233,233]),(193,[235,235]),(194,[22]),(195,[4]),(196,[3]),(197,[]),(198,[3]),(199,[3]),(200,[3]),(201,[]),(202,[206]),(203,[235]),(204,[3]),(205,[3]),(206,[4]),(207,[4]),(208,[3]),(209,[3]),(210,[3,3]),(211,[4]),(212,[4]),(213,[3]),(214,[3]),(215,[]),(216,[]),(217,[3,4]),(218,[3]),(219,[9]),(220,[]),(221,[9]),(222,[]),(223,[9]),(224,[]),(225,[9]),(226,[]),(227,[9]),(228,[]),(229,[9]),(230,[]),(231,[3]),(232,[9]),(233,[]),(234,[3]),(235,[291]),(236,[3]),(237,[3]),(238,[9]),(239,[]),(240,[]),(241,[]),(242,[]),(243,[]),(244,[]),(245,[]),(246,[])]
abbrev C_ (w0:World) (f:FuncId) (args:Array Value) (m:AM) (R:Value->AM->Prop):Prop:=CallsA Tryz.prog w0 f args m R
end Go.Proofs.YtgjamnhjlaohaaaGreatDoor.T
namespace Go.Proofs.YtgjamnhjlaohaaaGreatDoor.V
open Go Go.Alog Go.Proofs.YtgjamnhjlaohaaaGreatDoor.T
noncomputable def F157:Unit->Nfd | _=>⟨157,Tryz.f157,q0_,[]⟩
noncomputable def F109:Unit->Nfd | _=>⟨109,Tryz.f109,q0_,[]⟩
noncomputable def F112:Unit->Nfd | _=>⟨112,Tryz.f112,q0_,[]⟩
noncomputable def F15:Unit->Nfd | _=>⟨15,Tryz.f15,q0_,[]⟩
noncomputable def F13:Unit->Nfd | _=>⟨13,Tryz.f13,q0_,[58]⟩
noncomputable def F113:Unit->Nfd | _=>⟨113,Tryz.f113,q0_,[]⟩
noncomputable def hF110:Unit->Nfd | _=>⟨110,Tryz.f110,q0_,[122]⟩
noncomputable def hF158:Unit->Nfd | _=>⟨158,Tryz.f158,q0_,[26]⟩
noncomputable def F68:Unit->Nfd | _=>⟨68,Tryz.f68,q0_,[250]⟩
noncomputable def F32:Unit->Nfd | _=>⟨32,Tryz.f32,q0_,[122]⟩
noncomputable def F39:Unit->Nfd | _=>⟨39,Tryz.f39,q0_,[]⟩
noncomputable def F165:Unit->Nfd | _=>⟨165,Tryz.f165,q0_,[]⟩
noncomputable def F126:Unit->Nfd | _=>⟨126,Tryz.f126,q0_,[]⟩
noncomputable def F128:Unit->Nfd | _=>⟨128,Tryz.f128,qsf [(1000003,[(0,0)])],[14]⟩
noncomputable def F82:Unit->Nfd | _=>⟨82,Tryz.f82,q0_,[]⟩
noncomputable def F42:Unit->Nfd | _=>⟨42,Tryz.f42,q0_,[28]⟩
noncomputable def F40:Unit->Nfd | _=>⟨40,Tryz.f40,q0_,[]⟩
noncomputable def F120:Unit->Nfd | _=>⟨120,Tryz.f120,q0_,[]⟩
noncomputable def F72:Unit->Nfd | _=>⟨72,Tryz.f72,qsf [(1,[(1,2)])],[57]⟩
noncomputable def F115:Unit->Nfd | _=>⟨115,Tryz.f115,q0_,[58,3730]⟩
noncomputable def F122:Unit->Nfd | _=>⟨122,Tryz.f122,qsf [(1000011,[(0,0)]),(1000014,[(0,0)])],[53,212,215,860,3455]⟩
noncomputable def F164:Unit->Nfd | _=>⟨164,Tryz.f164,q0_,[]⟩
noncomputable def F75:Unit->Nfd | _=>⟨75,Tryz.f75,q0_,[]⟩
noncomputable def F71:Unit->Nfd | _=>⟨71,Tryz.f71,q0_,[]⟩
noncomputable def F124:Unit->Nfd | _=>⟨124,Tryz.f124,q0_,[]⟩
noncomputable def F121:Unit->Nfd | _=>⟨121,Tryz.f121,q0_,[]⟩
noncomputable def F69:Unit->Nfd | _=>⟨69,Tryz.f69,q0_,[]⟩
noncomputable def F76:Unit->Nfd | _=>⟨76,Tryz.f76,q0_,[]⟩
noncomputable def F123:Unit->Nfd | _=>⟨123,Tryz.f123,q0_,[26]⟩
noncomputable def F158:Unit->Nfd | _=>⟨158,Tryz.f158,q0_,[26]⟩
noncomputable def F110:Unit->Nfd | _=>⟨110,Tryz.f110,q0_,[122]⟩
noncomputable def F125:Unit->Nfd | _=>⟨125,Tryz.f125,q0_,[58,59690]⟩
noncomputable def F114:Unit->Nfd | _=>⟨114,Tryz.f114,q0_,[]⟩
noncomputable def F181:Unit->Nfd | _=>⟨181,Tryz.f181,q0_,[6,402]⟩
noncomputable def F187:Unit->Nfd | _=>⟨187,Tryz.f187,q0_,[]⟩
noncomputable def F206:Unit->Nfd | _=>⟨206,Tryz.f206,q0_,[]⟩
noncomputable def F77:Unit->Nfd | _=>⟨77,Tryz.f77,q0_,[]⟩
noncomputable def F161:Unit->Nfd | _=>⟨161,Tryz.f161,q0_,[14,113,227,455,911,3647,7295]⟩
noncomputable def F162:Unit->Nfd | _=>⟨162,Tryz.f162,q0_,[]⟩
noncomputable def F38:Unit->Nfd | _=>⟨38,Tryz.f38,qsf [(1000012,[(0,0)])],[31,2023,32382]⟩
noncomputable def F17:Unit->Nfd | _=>⟨17,Tryz.f17,q0_,[26]⟩
noncomputable def F8:Unit->Nfd | _=>⟨8,Tryz.f8,q0_,[]⟩
noncomputable def F35:Unit->Nfd | _=>⟨35,Tryz.f35,q0_,[7,215,863,13823]⟩
noncomputable def F36:Unit->Nfd | _=>⟨36,Tryz.f36,q0_,[]⟩
noncomputable def F37:Unit->Nfd | _=>⟨37,Tryz.f37,q0_,[]⟩
noncomputable def F16:Unit->Nfd | _=>⟨16,Tryz.f16,q0_,[]⟩
noncomputable def F83:Unit->Nfd | _=>⟨83,Tryz.f83,q0_,[]⟩
noncomputable def F133:Unit->Nfd | _=>⟨133,Tryz.f133,q0_,[7]⟩
noncomputable def F84:Unit->Nfd | _=>⟨84,Tryz.f84,q0_,[63]⟩
noncomputable def F134:Unit->Nfd | _=>⟨134,Tryz.f134,q0_,[]⟩
noncomputable def F85:Unit->Nfd | _=>⟨85,Tryz.f85,qsf [(4,[(8,2),(17,2),(26,2)])],[31,31477]⟩
noncomputable def F135:Unit->Nfd | _=>⟨135,Tryz.f135,qsf [(2,[(12,2)])],[7]⟩
noncomputable def F167:Unit->Nfd | _=>⟨167,Tryz.f167,q0_,[]⟩
noncomputable def F87:Unit->Nfd | _=>⟨87,Tryz.f87,qsf [(10,[(4,2),(9,2)])],[]⟩
noncomputable def F86:Unit->Nfd | _=>⟨86,Tryz.f86,q0_,[7]⟩
noncomputable def F43:Unit->Nfd | _=>⟨43,Tryz.f43,q0_,[]⟩
noncomputable def F19:Unit->Nfd | _=>⟨19,Tryz.f19,qsf [(1000009,[(0,0)])],[252,254]⟩
noncomputable def F14:Unit->Nfd | _=>⟨14,Tryz.f14,qsf [(1000009,[(0,0)])],[122,125342,501374]⟩
noncomputable def F31:Unit->Nfd | _=>⟨31,Tryz.f31,q0_,[]⟩
noncomputable def F7:Unit->Nfd | _=>⟨7,Tryz.f7,q0_,[250,1025663]⟩
noncomputable def F116:Unit->Nfd | _=>⟨116,Tryz.f116,q0_,[26,122,508]⟩
noncomputable def F193:Unit->Nfd | _=>⟨193,Tryz.f193,q0_,[]⟩
noncomputable def F117:Unit->Nfd | _=>⟨117,Tryz.f117,q0_,[58]⟩
noncomputable def F73:Unit->Nfd | _=>⟨73,Tryz.f73,q0_,[26]⟩
noncomputable def F34:Unit->Nfd | _=>⟨34,Tryz.f34,q0_,[58]⟩
noncomputable def F119:Unit->Nfd | _=>⟨119,Tryz.f119,q0_,[]⟩
noncomputable def F70:Unit->Nfd | _=>⟨70,Tryz.f70,q0_,[250,32042]⟩
noncomputable def F33:Unit->Nfd | _=>⟨33,Tryz.f33,qsf [(1000016,[(0,0)])],[255,1020,8155,32620]⟩
noncomputable def F163:Unit->Nfd | _=>⟨163,Tryz.f163,q0_,[]⟩
noncomputable def F80:Unit->Nfd | _=>⟨80,Tryz.f80,q0_,[]⟩
noncomputable def F166:Unit->Nfd | _=>⟨166,Tryz.f166,q0_,[]⟩
noncomputable def F131:Unit->Nfd | _=>⟨131,Tryz.f131,q0_,[]⟩
noncomputable def F79:Unit->Nfd | _=>⟨79,Tryz.f79,q0_,[]⟩
noncomputable def F129:Unit->Nfd | _=>⟨129,Tryz.f129,q0_,[]⟩
noncomputable def F78:Unit->Nfd | _=>⟨78,Tryz.f78,qsf [(1000004,[(0,0)]),(1000009,[(0,0)])],[468,1884]⟩
noncomputable def F81:Unit->Nfd | _=>⟨81,Tryz.f81,q0_,[]⟩
noncomputable def F41:Unit->Nfd | _=>⟨41,Tryz.f41,q0_,[]⟩
noncomputable def F18:Unit->Nfd | _=>⟨18,Tryz.f18,qsf [(1000009,[(0,0)])],[252,254]⟩
noncomputable def F56:Unit->Nfd | _=>⟨56,Tryz.f56,q0_,[]⟩
noncomputable def F96:Unit->Nfd | _=>⟨96,Tryz.f96,q0_,[]⟩
noncomputable def F46:Unit->Nfd | _=>⟨46,Tryz.f46,q0_,[]⟩
noncomputable def F47:Unit->Nfd | _=>⟨47,Tryz.f47,q0_,[]⟩
noncomputable def F97:Unit->Nfd | _=>⟨97,Tryz.f97,qsf [(1,[(17,4)]),(1000001,[(0,0)])],[6]⟩
noncomputable def F48:Unit->Nfd | _=>⟨48,Tryz.f48,q0_,[]⟩
noncomputable def F141:Unit->Nfd | _=>⟨141,Tryz.f141,q0_,[]⟩
noncomputable def F24:Unit->Nfd | _=>⟨24,Tryz.f24,q0_,[]⟩
noncomputable def F140:Unit->Nfd | _=>⟨140,Tryz.f140,q0_,[]⟩
noncomputable def F177:Unit->Nfd | _=>⟨177,Tryz.f177,q0_,[]⟩
noncomputable def F214:Unit->Nfd | _=>⟨214,Tryz.f214,q0_,[]⟩
noncomputable def F216:Unit->Nfd | _=>⟨216,Tryz.f216,q0_,[]⟩
noncomputable def F178:Unit->Nfd | _=>⟨178,Tryz.f178,q0_,[]⟩
noncomputable def F200:Unit->Nfd | _=>⟨200,Tryz.f200,q0_,[]⟩
noncomputable def F213:Unit->Nfd | _=>⟨213,Tryz.f213,q0_,[]⟩
noncomputable def F208:Unit->Nfd | _=>⟨208,Tryz.f208,q0_,[]⟩
noncomputable def F199:Unit->Nfd | _=>⟨199,Tryz.f199,q0_,[]⟩
noncomputable def F176:Unit->Nfd | _=>⟨176,Tryz.f176,q0_,[]⟩
noncomputable def F152:Unit->Nfd | _=>⟨152,Tryz.f152,q0_,[58,59807,119615]⟩
noncomputable def F180:Unit->Nfd | _=>⟨180,Tryz.f180,qsf [(1000009,[(0,0)])],[30]⟩
noncomputable def F179:Unit->Nfd | _=>⟨179,Tryz.f179,q0_,[]⟩
noncomputable def F155:Unit->Nfd | _=>⟨155,Tryz.f155,q0_,[]⟩
noncomputable def F174:Unit->Nfd | _=>⟨174,Tryz.f174,q0_,[]⟩
noncomputable def F150:Unit->Nfd | _=>⟨150,Tryz.f150,q0_,[]⟩
noncomputable def F151:Unit->Nfd | _=>⟨151,Tryz.f151,q0_,[]⟩
noncomputable def F154:Unit->Nfd | _=>⟨154,Tryz.f154,q0_,[]⟩
noncomputable def F103:Unit->Nfd | _=>⟨103,Tryz.f103,q0_,[]⟩
noncomputable def F54:Unit->Nfd | _=>⟨54,Tryz.f54,q0_,[6]⟩
noncomputable def F99:Unit->Nfd | _=>⟨99,Tryz.f99,q0_,[]⟩
noncomputable def F144:Unit->Nfd | _=>⟨144,Tryz.f144,q0_,[]⟩
noncomputable def F143:Unit->Nfd | _=>⟨143,Tryz.f143,q0_,[]⟩
noncomputable def F100:Unit->Nfd | _=>⟨100,Tryz.f100,q0_,[]⟩
noncomputable def F146:Unit->Nfd | _=>⟨146,Tryz.f146,q0_,[]⟩
noncomputable def F101:Unit->Nfd | _=>⟨101,Tryz.f101,q0_,[262098]⟩
noncomputable def F147:Unit->Nfd | _=>⟨147,Tryz.f147,q0_,[510]⟩
noncomputable def F148:Unit->Nfd | _=>⟨148,Tryz.f148,q0_,[]⟩
noncomputable def F51:Unit->Nfd | _=>⟨51,Tryz.f51,q0_,[2]⟩
noncomputable def F21:Unit->Nfd | _=>⟨21,Tryz.f21,q0_,[7]⟩
noncomputable def F139:Unit->Nfd | _=>⟨139,Tryz.f139,q0_,[]⟩
noncomputable def F209:Unit->Nfd | _=>⟨209,Tryz.f209,q0_,[]⟩
noncomputable def fF209:Unit->Nfd | _=>⟨209,Tryz.f209,q0_,[]⟩
noncomputable def F198:Unit->Nfd | _=>⟨198,Tryz.f198,q0_,[28]⟩
noncomputable def tF198:Unit->Nfd | _=>⟨198,Tryz.f198,q0_,[28]⟩
noncomputable def F11:Unit->Nfd | _=>⟨11,Tryz.f11,qsf [(1000010,[(0,0)])],[255,4084]⟩
noncomputable def F98:Unit->Nfd | _=>⟨98,Tryz.f98,q0_,[]⟩
noncomputable def F55:Unit->Nfd | _=>⟨55,Tryz.f55,q0_,[]⟩
noncomputable def F53:Unit->Nfd | _=>⟨53,Tryz.f53,q0_,[]⟩
noncomputable def F50:Unit->Nfd | _=>⟨50,Tryz.f50,q0_,[]⟩
noncomputable def F102:Unit->Nfd | _=>⟨102,Tryz.f102,q0_,[]⟩
noncomputable def F52:Unit->Nfd | _=>⟨52,Tryz.f52,q0_,[]⟩
noncomputable def F175:Unit->Nfd | _=>⟨175,Tryz.f175,q0_,[]⟩
noncomputable def F215:Unit->Nfd | _=>⟨215,Tryz.f215,q0_,[]⟩
noncomputable def F153:Unit->Nfd | _=>⟨153,Tryz.f153,q0_,[]⟩
noncomputable def F217:Unit->Nfd | _=>⟨217,Tryz.f217,q0_,[]⟩
noncomputable def F145:Unit->Nfd | _=>⟨145,Tryz.f145,q0_,[]⟩
noncomputable def F22:Unit->Nfd | _=>⟨22,Tryz.f22,q0_,[]⟩
noncomputable def F23:Unit->Nfd | _=>⟨23,Tryz.f23,q0_,[]⟩
noncomputable def F57:Unit->Nfd | _=>⟨57,Tryz.f57,q0_,[]⟩
noncomputable def F58:Unit->Nfd | _=>⟨58,Tryz.f58,q0_,[]⟩
noncomputable def F74:Unit->Nfd | _=>⟨74,Tryz.f74,q0_,[]⟩
noncomputable def F130:Unit->Nfd | _=>⟨130,Tryz.f130,q0_,[]⟩
noncomputable def F218:Unit->Nfd | _=>⟨218,Tryz.f218,q0_,[]⟩
noncomputable def F26:Unit->Nfd | _=>⟨26,Tryz.f26,q0_,[]⟩
noncomputable def F59:Unit->Nfd | _=>⟨59,Tryz.f59,q0_,[26]⟩
noncomputable def F25:Unit->Nfd | _=>⟨25,Tryz.f25,q0_,[]⟩
noncomputable def F28:Unit->Nfd | _=>⟨28,Tryz.f28,q0_,[122,125338]⟩
noncomputable def F29:Unit->Nfd | _=>⟨29,Tryz.f29,q0_,[6]⟩
noncomputable def F30:Unit->Nfd | _=>⟨30,Tryz.f30,q0_,[31]⟩
noncomputable def F12:Unit->Nfd | _=>⟨12,Tryz.f12,q0_,[1018,260710]⟩
noncomputable def F60:Unit->Nfd | _=>⟨60,Tryz.f60,q0_,[]⟩
noncomputable def F63:Unit->Nfd | _=>⟨63,Tryz.f63,q0_,[58]⟩
noncomputable def F62:Unit->Nfd | _=>⟨62,Tryz.f62,q0_,[]⟩
noncomputable def F65:Unit->Nfd | _=>⟨65,Tryz.f65,q0_,[]⟩
noncomputable def F66:Unit->Nfd | _=>⟨66,Tryz.f66,q0_,[7,13]⟩
noncomputable def F67:Unit->Nfd | _=>⟨67,Tryz.f67,q0_,[]⟩
noncomputable def F108:Unit->Nfd | _=>⟨108,Tryz.f108,q0_,[]⟩
noncomputable def F106:Unit->Nfd | _=>⟨106,Tryz.f106,q0_,[26]⟩
noncomputable def F61:Unit->Nfd | _=>⟨61,Tryz.f61,q0_,[]⟩
noncomputable def F107:Unit->Nfd | _=>⟨107,Tryz.f107,q0_,[26]⟩
noncomputable def F64:Unit->Nfd | _=>⟨64,Tryz.f64,q0_,[]⟩
noncomputable def F27:Unit->Nfd | _=>⟨27,Tryz.f27,q0_,[58]⟩
noncomputable def F89:Unit->Nfd | _=>⟨89,Tryz.f89,q0_,[]⟩
noncomputable def F92:Unit->Nfd | _=>⟨92,Tryz.f92,q0_,[]⟩
noncomputable def F91:Unit->Nfd | _=>⟨91,Tryz.f91,q0_,[]⟩
noncomputable def F90:Unit->Nfd | _=>⟨90,Tryz.f90,q0_,[28]⟩
noncomputable def tF90:Unit->Nfd | _=>⟨90,Tryz.f90,q0_,[28]⟩
noncomputable def F94:Unit->Nfd | _=>⟨94,Tryz.f94,q0_,[58]⟩
noncomputable def F95:Unit->Nfd | _=>⟨95,Tryz.f95,q0_,[26]⟩
noncomputable def F45:Unit->Nfd | _=>⟨45,Tryz.f45,q0_,[]⟩
noncomputable def F20:Unit->Nfd | _=>⟨20,Tryz.f20,q0_,[58]⟩
noncomputable def F93:Unit->Nfd | _=>⟨93,Tryz.f93,q0_,[58]⟩
noncomputable def F49:Unit->Nfd | _=>⟨49,Tryz.f49,q0_,[]⟩
noncomputable def F149:Unit->Nfd | _=>⟨149,Tryz.f149,q0_,[]⟩
noncomputable def F196:Unit->Nfd | _=>⟨196,Tryz.f196,q0_,[]⟩
noncomputable def F171:Unit->Nfd | _=>⟨171,Tryz.f171,q0_,[]⟩
noncomputable def F173:Unit->Nfd | _=>⟨173,Tryz.f173,q0_,[58,3728]⟩
noncomputable def F6:Unit->Nfd | _=>⟨6,Tryz.f6,q0_,[58]⟩
noncomputable def F9:Unit->Nfd | _=>⟨9,Tryz.f9,q0_,[]⟩
noncomputable def F10:Unit->Nfd | _=>⟨10,Tryz.f10,q0_,[]⟩
noncomputable def F3:Unit->Nfd | _=>⟨3,Tryz.f3,q0_,[]⟩
noncomputable def F4:Unit->Nfd | _=>⟨4,Tryz.f4,q0_,[26]⟩
noncomputable def F5:Unit->Nfd | _=>⟨5,Tryz.f5,qsf [(2,[(1,4),(3,4)]),(1000002,[(0,0)])],[14]⟩
noncomputable def F127:Unit->Nfd | _=>⟨127,Tryz.f127,q0_,[]⟩
noncomputable def F132:Unit->Nfd | _=>⟨132,Tryz.f132,q0_,[]⟩
def lq13_11010 (R:RT) (x0:Option Addr) (x0n x0c:Nat) (x10:Option Addr) (x10n x10c:Nat) (x11:Int) (I0:Nat->Int->AM->Prop) (E0_0:AM->Prop):Nat->Unit->Fz | n,_=>.lp [(0,.slice x0 x0n x0c),(10,.slice x10 x10n x10c),(11,I_ x11)] [(12,.i)] I0 n [(0,⟨[],E0_0⟩)] R
def hlq110_111010 (R:RT) (x0:Option Addr) (x0n x0c x1_0:Nat) (I0:Nat->Int->Int->AM->Prop) (E0_0:Int->AM->Prop):Nat->Unit->Fz | n,_=>.lp [(0,.slice x0 x0n x0c),(1,.func (.func 113) #[] #[pt_ x1_0])] [(5,.i),(6,.i)] I0 n [(0,⟨[(5,.i)],E0_0⟩)] R
def hlq158_1010 (R:RT) (x0:Option Addr) (x0n x0c x1_0:Nat) (x7:Int) (I0:Nat->Int->AM->Prop) (E0_0:AM->Prop):Nat->Unit->Fz | n,_=>.lp [(0,.slice x0 x0n x0c),(1,.func (.func 113) #[] #[pt_ x1_0]),(7,I_ x7)] [(8,.i)] I0 n [(0,⟨[],E0_0⟩)] R
def lq68_1111010 (R:RT) (x1 x3:Nat) (x18:Option Addr) (x18n x18c:Nat) (x19:Int) (I0:Nat->Int->AM->Prop) (E0_0:AM->Prop):Nat->Unit->Fz | n,_=>.lp [(1,pt_ x1),(3,pt_ x3),(18,.slice x18 x18n x18c),(19,I_ x19)] [(20,.i)] I0 n [(0,⟨[],E0_0⟩)] R
def lq32_111010 (R:RT) (x0:Option Addr) (x0n x0c:Nat) (x4:Option Addr) (x4n x4c:Nat) (x10:Option Addr) (x10n x10c:Nat) (x11:Int) (I0:Nat->Option Addr->Nat->Nat->Int->AM->Prop) (E0_0:Option Addr->Nat->Nat->AM->Prop):Nat->Unit->Fz | n,_=>.lp [(0,.slice x0 x0n x0c),(4,.slice x4 x4n x4c),(10,.slice x10 x10n x10c),(11,I_ x11)] [(3,.s),(12,.i)] I0 n [(0,⟨[(3,.s)],E0_0⟩)] R
def lq42_1100 (R:RT) (I0:Nat->Option Addr->Nat->Nat->AM->Prop) (E0_0:Option Addr->Nat->Nat->AM->Prop):Nat->Unit->Fz | n,_=>.lp [] [(3,.s)] I0 n [(0,⟨[(3,.s)],E0_0⟩)] R
def lq115_11010 (R:RT) (x0:Option Addr) (x0n x0c:Nat) (x3:Option Addr) (x3n x3c:Nat) (I0:Nat->Int->AM->Prop) (E0_0:AM->Prop):Nat->Unit->Fz | n,_=>.lp [(0,.slice x0 x0n x0c),(3,.slice x3 x3n x3c)] [(4,.i)] I0 n [(0,⟨[],E0_0⟩)] R
def lq115_11010010010 (R:RT) (x0:Option Addr) (x0n x0c:Nat) (x3:Option Addr) (x3n x3c:Nat) (x4:Int) (I1:Nat->Int->AM->Prop) (E1_2:AM->Prop):Nat->Unit->Fz | n,_=>.lp [(0,.slice x0 x0n x0c),(3,.slice x3 x3n x3c),(4,I_ x4)] [(5,.i)] I1 n [(2,⟨[],E1_2⟩)] R
def lq123_1010 (R:RT) (x0:Option Addr) (x0n x0c:Nat) (x1 x7:Int) (I0:Nat->Int->AM->Prop) (E0_0:AM->Prop):Nat->Unit->Fz | n,_=>.lp [(0,.slice x0 x0n x0c),(1,I_ x1),(7,I_ x7)] [(8,.i)] I0 n [(0,⟨[],E0_0⟩)] R
def lq158_1010 (R:RT) (x0:Option Addr) (x0n x0c:Nat) (x7:Int) (I0:Nat->Int->AM->Prop) (E0_0:AM->Prop):Nat->Unit->Fz | n,_=>.lp [(0,.slice x0 x0n x0c),(1,.func (.func 124) #[] #[]),(7,I_ x7)] [(8,.i)] I0 n [(0,⟨[],E0_0⟩)] R
def lq110_111010 (R:RT) (x0:Option Addr) (x0n x0c:Nat) (I0:Nat->Int->Int->AM->Prop) (E0_0:Int->AM->Prop):Nat->Unit->Fz | n,_=>.lp [(0,.slice x0 x0n x0c),(1,.func (.func 124) #[] #[])] [(5,.i),(6,.i)] I0 n [(0,⟨[(5,.i)],E0_0⟩)] R
def lq125_11010 (R:RT) (x0:Option Addr) (x0n x0c:Nat) (I0:Nat->Int->AM->Prop) (E0_0:AM->Prop):Nat->Unit->Fz | n,_=>.lp [(0,.slice x0 x0n x0c)] [(3,.i)] I0 n [(0,⟨[],E0_0⟩)] R
def lq125_110100100101010 (R:RT) (x0:Option Addr) (x0n x0c:Nat) (x4:Option Addr) (x4n x4c:Nat) (I1:Nat->Int->Int->AM->Prop) (E1_2:Int->AM->Prop):Nat->Unit->Fz | n,_=>.lp [(0,.slice x0 x0n x0c),(4,.slice x4 x4n x4c)] [(3,.i),(5,.i)] I1 n [(2,⟨[(3,.i)],E1_2⟩)] R
def lq181_10 (R:RT) (x0:Option Addr) (x0n x0c:Nat) (x1 x2:Int) (I0:Nat->Int->AM->Prop) (E0_0:AM->Prop):Nat->Unit->Fz | n,_=>.lp [(0,.slice x0 x0n x0c),(1,I_ x1),(2,I_ x2)] [(6,.i)] I0 n [(0,⟨[],E0_0⟩)] R
def lq181_10010010 (R:RT) (x0:Option Addr) (x0n x0c:Nat) (x1 x2 x6:Int) (I1:Nat->Int->AM->Prop) (E1_2:AM->Prop):Nat->Unit->Fz | n,_=>.lp [(0,.slice x0 x0n x0c),(1,I_ x1),(2,I_ x2),(6,I_ x6)] [(7,.i)] I1 n [(2,⟨[],E1_2⟩)] R
def lq17_1010 (R:RT) (x0:Option Addr) (x0n x0c:Nat) (x7:Int) (I0:Nat->Int->AM->Prop) (E0_0:AM->Prop):Nat->Unit->Fz | n,_=>.lp [(0,.slice x0 x0n x0c),(7,I_ x7)] [(8,.i)] I0 n [(0,⟨[],E0_0⟩)] R
def lq19_1111100 (R:RT) (x3:Int) (x8:Nat) (x9:Option Addr) (x10 x11:Nat) (I0:Nat->AM->Prop) (E0_0:AM->Prop):Nat->Unit->Fz | n,_=>.lp [(3,I_ x3),(8,pt_ x8),(9,.pointer x9),(10,pt_ x10),(11,pt_ x11)] [] I0 n [(0,⟨[],E0_0⟩)] R
def lq14_111010 (R:RT) (x0:Option Addr) (x0n x0c x2 x3 x4_0:Nat) (x16:Option Addr) (x16n x16c:Nat) (x17:Int) (I0:Nat->Int->AM->Prop) (E0_0:AM->Prop):Nat->Unit->Fz | n,_=>.lp [(0,.slice x0 x0n x0c),(2,pt_ x2),(3,pt_ x3),(4,.func (.func 31) #[] #[pt_ x4_0]),(16,.slice x16 x16n x16c),(17,I_ x17)] [(18,.i)] I0 n [(0,⟨[],E0_0⟩)] R
def lq14_111010011001111110 (R:RT) (x0:Option Addr) (x0n x0c x2 x3 x4_0 x6:Nat) (x16:Option Addr) (x16n x16c:Nat) (x17 x18:Int) (x41:Option Addr) (x41n x41c:Nat) (x42:Int) (I1:Nat->Int->AM->Prop) (E1_2:AM->Prop):Nat->Unit->Fz | n,_=>.lp [(0,.slice x0 x0n x0c),(2,pt_ x2),(3,pt_ x3),(4,.func (.func 31) #[] #[pt_ x4_0]),(6,pt_ x6),(16,.slice x16 x16n x16c),(17,I_ x17),(18,I_ x18),(41,.slice x41 x41n x41c),(42,I_ x42)] [(43,.i)] I1 n [(2,⟨[],E1_2⟩)] R
def lq7_1111010 (R:RT) (x0:Option Addr) (x0n x0c x5:Nat) (x21:Option Addr) (x21n x21c:Nat) (x22:Int) (I0:Nat->Int->AM->Prop) (E0_0:AM->Prop):Nat->Unit->Fz | n,_=>.lp [(0,.slice x0 x0n x0c),(5,pt_ x5),(21,.slice x21 x21n x21c),(22,I_ x22)] [(23,.i)] I0 n [(0,⟨[],E0_0⟩)] R
def lq116_11111100 (R:RT) (x7:Option Addr) (x7n x7c:Nat) (I0:Nat->Int->AM->Prop) (E0_0:AM->Prop):Nat->Unit->Fz | n,_=>.lp [(7,.slice x7 x7n x7c)] [(8,.i)] I0 n [(0,⟨[],E0_0⟩)] R
def lq117_11010 (R:RT) (x0:Option Addr) (x0n x0c:Nat) (x1:Option Addr) (x1n x1c:Nat) (x2 x3 x16:Int) (I0:Nat->Int->AM->Prop) (E0_0:AM->Prop):Nat->Unit->Fz | n,_=>.lp [(0,.slice x0 x0n x0c),(1,.slice x1 x1n x1c),(2,I_ x2),(3,I_ x3),(16,I_ x16)] [(17,.i)] I0 n [(0,⟨[],E0_0⟩)] R
def lq73_1010 (R:RT) (x0:Option Addr) (x0n x0c:Nat) (x3:Int) (x6:Nat) (x11:Option Addr) (x11n x11c:Nat) (x12:Int) (I0:Nat->Int->AM->Prop) (E0_0:AM->Prop):Nat->Unit->Fz | n,_=>.lp [(0,.slice x0 x0n x0c),(3,I_ x3),(6,pt_ x6),(11,.slice x11 x11n x11c),(12,I_ x12)] [(13,.i)] I0 n [(0,⟨[],E0_0⟩)] R
def lq34_11010 (R:RT) (x0:Option Addr) (x0n x0c:Nat) (x9:Option Addr) (x9n x9c:Nat) (x10:Int) (I0:Nat->Option Addr->Nat->Nat->Int->AM->Prop) (E0_0:Option Addr->Nat->Nat->AM->Prop):Nat->Unit->Fz | n,_=>.lp [(0,.slice x0 x0n x0c),(9,.slice x9 x9n x9c),(10,I_ x10)] [(5,.s),(11,.i)] I0 n [(0,⟨[(5,.s)],E0_0⟩)] R
def lq70_1111010 (R:RT) (x0:Option Addr) (x0n x0c x3:Nat) (x4:Option Addr) (x4n x4c:Nat) (I0:Nat->Option Addr->Nat->Nat->Int->AM->Prop) (E0_0:Option Addr->Nat->Nat->AM->Prop):Nat->Unit->Fz | n,_=>.lp [(0,.slice x0 x0n x0c),(3,pt_ x3),(4,.slice x4 x4n x4c)] [(5,.s),(6,.i)] I0 n [(0,⟨[(5,.s)],E0_0⟩)] R
def lq70_11110100101010 (R:RT) (x0:Option Addr) (x0n x0c x3:Nat) (x4:Option Addr) (x4n x4c:Nat) (x5:Option Addr) (x5n x5c:Nat) (x6:Int) (x7:Nat) (x22:Int) (I1:Nat->Int->AM->Prop) (E1_2:AM->Prop):Nat->Unit->Fz | n,_=>.lp [(0,.slice x0 x0n x0c),(3,pt_ x3),(4,.slice x4 x4n x4c),(5,.slice x5 x5n x5c),(6,I_ x6),(7,pt_ x7),(22,I_ x22)] [(23,.i)] I1 n [(2,⟨[],E1_2⟩)] R
def lq33_111111100 (R:RT) (x0:Option Addr) (x0n x0c:Nat) (x3:Int) (x4:Nat) (I0:Nat->Option Addr->Nat->Nat->AM->Prop) (E0_0:Option Addr->Nat->Nat->AM->Prop):Nat->Unit->Fz | n,_=>.lp [(0,.slice x0 x0n x0c),(3,I_ x3),(4,pt_ x4)] [(7,.s)] I0 n [(0,⟨[(7,.s)],E0_0⟩)] R
def lq18_1111100 (R:RT) (x3:Int) (x8:Nat) (x9:Option Addr) (x10 x11:Nat) (I0:Nat->AM->Prop) (E0_0:AM->Prop):Nat->Unit->Fz | n,_=>.lp [(3,I_ x3),(8,pt_ x8),(9,.pointer x9),(10,pt_ x10),(11,pt_ x11)] [] I0 n [(0,⟨[],E0_0⟩)] R
def lq152_11010 (R:RT) (x0:Nat) (x3:Int) (x10:Option Addr) (x10n x10c:Nat) (x11:Int) (I0:Nat->Int->AM->Prop) (E0_0:AM->Prop):Nat->Unit->Fz | n,_=>.lp [(0,pt_ x0),(3,I_ x3),(10,.slice x10 x10n x10c),(11,I_ x11)] [(12,.i)] I0 n [(0,⟨[],E0_0⟩)] R
def lq54_10 (R:RT) (x0:Nat) (I0:Nat->AM->Prop) (E0_0:AM->Prop):Nat->Unit->Fz | n,_=>.lp [(0,pt_ x0)] [] I0 n [(0,⟨[],E0_0⟩)] R
def lq101_11111111111010010 (R:RT) (x0:Nat) (x7:Bool) (I0:Nat->Int->Bool->AM->Prop) (E0_0:Int->AM->Prop):Nat->Unit->Fz | n,_=>.lp [(0,pt_ x0),(7,.bool x7)] [(8,.i),(9,.b)] I0 n [(0,⟨[(8,.i)],E0_0⟩)] R
def lq147_11111110 (R:RT) (x0:Nat) (x1:Int) (x2:Bool) (I0:Nat->Int->AM->Prop) (E0_0:AM->Prop):Nat->Unit->Fz | n,_=>.lp [(0,pt_ x0),(1,I_ x1),(2,.bool x2)] [(6,.i)] I0 n [(0,⟨[],E0_0⟩)] R
def lq51_0 (R:RT) (x0:Nat) (I0:Nat->AM->Prop) (E0_0:AM->Prop):Nat->Unit->Fz | n,_=>.lp [(0,pt_ x0)] [] I0 n [(0,⟨[],E0_0⟩)] R
def lq198_1100 (R:RT) (x0:Nat) (x2:Option Nat) (x7:Int) (I0:Nat->AM->Prop) (E0_0:AM->Prop):Nat->Unit->Fz | n,_=>.lp [(0,pt_ x0),(1,.func (.func 208) #[pt_ x0] #[]),(2,.map x2),(7,I_ x7)] [] I0 n [(0,⟨[],E0_0⟩)] R
def tlq198_1100 (R:RT) (x0:Nat) (x2:Option Nat) (x7:Int) (I0:Nat->AM->Prop) (E0_0:AM->Prop):Nat->Unit->Fz | n,_=>.lp [(0,pt_ x0),(1,.func (.func 199) #[pt_ x0] #[]),(2,.map x2),(7,I_ x7)] [] I0 n [(0,⟨[],E0_0⟩)] R
def lq59_1010 (R:RT) (x0:Option Addr) (x0n x0c:Nat) (x7:Int) (I0:Nat->Int->AM->Prop) (E0_0:AM->Prop):Nat->Unit->Fz | n,_=>.lp [(0,.slice x0 x0n x0c),(1,.func (.func 26) #[] #[]),(7,I_ x7)] [(8,.i)] I0 n [(0,⟨[],E0_0⟩)] R
def lq28_111010 (R:RT) (x0 x5:Nat) (x13:Option Addr) (x13n x13c:Nat) (x14:Int) (I0:Nat->Int->Int->AM->Prop) (E0_0:AM->Prop):Nat->Unit->Fz | n,_=>.lp [(0,pt_ x0),(5,pt_ x5),(13,.slice x13 x13n x13c),(14,I_ x14)] [(6,.i),(15,.i)] I0 n [(0,⟨[],E0_0⟩)] R
def lq28_1110100110011010 (R:RT) (x0 x5:Nat) (x6:Int) (x8:Nat) (x13:Option Addr) (x13n x13c:Nat) (x14 x15:Int) (x24:Option Addr) (x24n x24c:Nat) (x25:Int) (I1:Nat->Int->AM->Prop) (E1_2:AM->Prop):Nat->Unit->Fz | n,_=>.lp [(0,pt_ x0),(5,pt_ x5),(6,I_ x6),(8,pt_ x8),(13,.slice x13 x13n x13c),(14,I_ x14),(15,I_ x15),(24,.slice x24 x24n x24c),(25,I_ x25)] [(26,.i)] I1 n [(2,⟨[],E1_2⟩)] R
def lq29_10 (R:RT) (x0:Nat) (x6:Option Addr) (x6n x6c:Nat) (x7:Int) (I0:Nat->Int->AM->Prop) (E0_0:AM->Prop):Nat->Unit->Fz | n,_=>.lp [(0,pt_ x0),(6,.slice x6 x6n x6c),(7,I_ x7)] [(8,.i)] I0 n [(0,⟨[],E0_0⟩)] R
def lq12_111111010 (R:RT) (x4 x6:Nat) (x57:Option Addr) (x57n x57c:Nat) (x58:Int) (I0:Nat->Int->AM->Prop) (E0_0:AM->Prop):Nat->Unit->Fz | n,_=>.lp [(4,pt_ x4),(6,pt_ x6),(57,.slice x57 x57n x57c),(58,I_ x58)] [(59,.i)] I0 n [(0,⟨[],E0_0⟩)] R
def lq12_11111101001100110 (R:RT) (x4 x6:Nat) (x7:Int) (x8:Nat) (x57:Option Addr) (x57n x57c:Nat) (x58 x59:Int) (x65:Option Addr) (x65n x65c:Nat) (x66:Int) (I1:Nat->Int->AM->Prop) (E1_2:AM->Prop):Nat->Unit->Fz | n,_=>.lp [(4,pt_ x4),(6,pt_ x6),(7,I_ x7),(8,pt_ x8),(57,.slice x57 x57n x57c),(58,I_ x58),(59,I_ x59),(65,.slice x65 x65n x65c),(66,I_ x66)] [(67,.i)] I1 n [(2,⟨[],E1_2⟩)] R
def lq63_11010 (R:RT) (x0:Option Addr) (x0n x0c x3:Nat) (x6:Option Addr) (x6n x6c:Nat) (x7:Int) (I0:Nat->Int->AM->Prop) (E0_0:AM->Prop):Nat->Unit->Fz | n,_=>.lp [(0,.slice x0 x0n x0c),(3,pt_ x3),(6,.slice x6 x6n x6c),(7,I_ x7)] [(8,.i)] I0 n [(0,⟨[],E0_0⟩)] R
def lq106_1010 (R:RT) (x0:Option Addr) (x0n x0c:Nat) (x7:Int) (I0:Nat->Int->AM->Prop) (E0_0:AM->Prop):Nat->Unit->Fz | n,_=>.lp [(0,.slice x0 x0n x0c),(1,.func (.func 62) #[] #[]),(7,I_ x7)] [(8,.i)] I0 n [(0,⟨[],E0_0⟩)] R
def lq107_1010 (R:RT) (x0:Option Addr) (x0n x0c x1_0:Nat) (x7:Int) (I0:Nat->Int->AM->Prop) (E0_0:AM->Prop):Nat->Unit->Fz | n,_=>.lp [(0,.slice x0 x0n x0c),(1,.func (.func 65) #[] #[pt_ x1_0]),(7,I_ x7)] [(8,.i)] I0 n [(0,⟨[],E0_0⟩)] R
def lq27_11010 (R:RT) (x1:Nat) (x7:Option Addr) (x7n x7c:Nat) (x8:Int) (I0:Nat->Option Addr->Nat->Nat->Int->AM->Prop) (E0_0:Option Addr->Nat->Nat->AM->Prop):Nat->Unit->Fz | n,_=>.lp [(1,pt_ x1),(7,.slice x7 x7n x7c),(8,I_ x8)] [(3,.s),(9,.i)] I0 n [(0,⟨[(3,.s)],E0_0⟩)] R
def lq90_1100 (R:RT) (x0:ByteArray) (x1:Int) (I0:Nat->Int->AM->Prop) (E0_0:Int->AM->Prop):Nat->Unit->Fz | n,_=>.lp [(0,.string x0),(1,I_ x1),(2,.func (.func 92) #[] #[])] [(7,.i)] I0 n [(0,⟨[(7,.i)],E0_0⟩)] R
def tlq90_1100 (R:RT) (x0:ByteArray) (x1:Int) (I0:Nat->Int->AM->Prop) (E0_0:Int->AM->Prop):Nat->Unit->Fz | n,_=>.lp [(0,.string x0),(1,I_ x1),(2,.func (.func 91) #[] #[])] [(7,.i)] I0 n [(0,⟨[(7,.i)],E0_0⟩)] R
def lq94_11010 (R:RT) (x0:ByteArray) (x6:Int) (I0:Nat->Int->Int->AM->Prop) (E0_0:Int->AM->Prop):Nat->Unit->Fz | n,_=>.lp [(0,.string x0),(6,I_ x6)] [(3,.i),(7,.i)] I0 n [(0,⟨[(3,.i)],E0_0⟩)] R
def lq95_1010 (R:RT) (x0:ByteArray) (x1:Int) (x7:Option Addr) (x7n x7c:Nat) (x8:Int) (I0:Nat->Int->AM->Prop) (E0_0:AM->Prop):Nat->Unit->Fz | n,_=>.lp [(0,.string x0),(1,I_ x1),(7,.slice x7 x7n x7c),(8,I_ x8)] [(9,.i)] I0 n [(0,⟨[],E0_0⟩)] R
def lq20_11010 (R:RT) (x0:ByteArray) (I0:Nat->Option Addr->Nat->Nat->Int->AM->Prop) (E0_0:Option Addr->Nat->Nat->AM->Prop):Nat->Unit->Fz | n,_=>.lp [(0,.string x0)] [(5,.s),(6,.i)] I0 n [(0,⟨[(5,.s)],E0_0⟩)] R
def lq93_11010 (R:RT) (x3:Option Addr) (x3n x3c:Nat) (x8:Option Addr) (x8n x8c:Nat) (x9:Int) (I0:Nat->Int->AM->Prop) (E0_0:AM->Prop):Nat->Unit->Fz | n,_=>.lp [(3,.slice x3 x3n x3c),(8,.slice x8 x8n x8c),(9,I_ x9)] [(10,.i)] I0 n [(0,⟨[],E0_0⟩)] R
def lq173_11010 (R:RT) (x0:Nat) (x1:ByteArray) (x4:Nat) (I0:Nat->Int->Int->AM->Prop) (E0_0:AM->Prop):Nat->Unit->Fz | n,_=>.lp [(0,.pointer (some ⟨x0,5,none⟩)),(1,.string x1),(4,pt_ x4)] [(7,.i),(8,.i)] I0 n [(0,⟨[],E0_0⟩)] R
def lq173_11010010000 (R:RT) (x0:Nat) (x1:ByteArray) (x4:Nat) (x8:Int) (I1:Nat->Int->AM->Prop) (E1_2:Int->AM->Prop):Nat->Unit->Fz | n,_=>.lp [(0,.pointer (some ⟨x0,5,none⟩)),(1,.string x1),(4,pt_ x4),(8,I_ x8)] [(7,.i)] I1 n [(2,⟨[(7,.i)],E1_2⟩)] R
def lq6_11010 (R:RT) (x0:Option Addr) (x0n x0c:Nat) (x1:Int) (x4:Nat) (x18:Option Addr) (x18n x18c:Nat) (x19:Int) (I0:Nat->Option Addr->Nat->Nat->Int->AM->Prop) (E0_0:Option Addr->Nat->Nat->AM->Prop):Nat->Unit->Fz | n,_=>.lp [(0,.slice x0 x0n x0c),(1,I_ x1),(4,pt_ x4),(18,.slice x18 x18n x18c),(19,I_ x19)] [(8,.s),(20,.i)] I0 n [(0,⟨[(8,.s)],E0_0⟩)] R
def lq4_1010 (R:RT) (x0:Option Addr) (x0n x0c:Nat) (x5:Option Addr) (x5n x5c:Nat) (x6:Int) (I0:Nat->Int->AM->Prop) (E0_0:AM->Prop):Nat->Unit->Fz | n,_=>.lp [(0,.slice x0 x0n x0c),(5,.slice x5 x5n x5c),(6,I_ x6)] [(7,.i)] I0 n [(0,⟨[],E0_0⟩)] R
attribute [push_cast] F157 F109 F112 F15 F13 F113 hF110 hF158 F68 F32 F39 F165 F126 F128 F82 F42 F40 F120 F72 F115 F122 F164 F75 F71 F124 F121 F69 F76 F123 F158 F110 F125 F114 F181 F187 F206 F77 F161 F162 F38 F17 F8 F35 F36 F37 F16 F83 F133 F84 F134 F85 F135 F167 F87 F86 F43 F19 F14 F31 F7 F116 F193 F117 F73 F34 F119 F70 F33 F163 F80 F166 F131 F79 F129 F78 F81 F41 F18 F56 F96 F46 F47 F97 F48 F141 F24 F140 F177 F214 F216 F178 F200 F213 F208 F199 F176 F152 F180 F179 F155 F174 F150 F151 F154 F103 F54 F99 F144 F143 F100 F146 F101 F147 F148 F51 F21 F139 F209 fF209 F198 tF198 F11 F98 F55 F53 F50 F102 F52 F175 F215 F153 F217 F145 F22 F23 F57 F58 F74 F130 F218 F26 F59 F25 F28 F29 F30 F12 F60 F63 F62 F65 F66 F67 F108 F106 F61 F107 F64 F27 F89 F92 F91 F90 tF90 F94 F95 F45 F20 F93 F49 F149 F196 F171 F173 F6 F9 F10 F3 F4 F5 F127 F132 lq13_11010 hlq110_111010 hlq158_1010 lq68_1111010 lq32_111010 lq42_1100 lq115_11010 lq115_11010010010 lq123_1010 lq158_1010 lq110_111010 lq125_11010 lq125_110100100101010 lq181_10 lq181_10010010 lq17_1010 lq19_1111100 lq14_111010 lq14_111010011001111110 lq7_1111010 lq116_11111100 lq117_11010 lq73_1010 lq34_11010 lq70_1111010 lq70_11110100101010 lq33_111111100 lq18_1111100 lq152_11010 lq54_10 lq101_11111111111010010 lq147_11111110 lq51_0 lq198_1100 tlq198_1100 lq59_1010 lq28_111010 lq28_1110100110011010 lq29_10 lq12_111111010 lq12_11111101001100110 lq63_11010 lq106_1010 lq107_1010 lq27_11010 lq90_1100 tlq90_1100 lq94_11010 lq95_1010 lq20_11010 lq93_11010 lq173_11010 lq173_11010010000 lq6_11010 lq4_1010 Tryz.f3 Tryz.f4 Tryz.f5 Tryz.f6 Tryz.f7 Tryz.f8 Tryz.f9 Tryz.f10 Tryz.f11 Tryz.f12 Tryz.f13 Tryz.f14 Tryz.f15 Tryz.f16 Tryz.f17 Tryz.f18 Tryz.f19 Tryz.f20 Tryz.f21 Tryz.f22 Tryz.f23 Tryz.f24 Tryz.f25 Tryz.f26 Tryz.f27 Tryz.f28 Tryz.f29 Tryz.f30 Tryz.f31 Tryz.f32 Tryz.f33 Tryz.f34 Tryz.f35 Tryz.f36 Tryz.f37 Tryz.f38 Tryz.f39 Tryz.f40 Tryz.f41 Tryz.f42 Tryz.f43 Tryz.f45 Tryz.f46 Tryz.f47 Tryz.f48 Tryz.f49 Tryz.f50 Tryz.f51 Tryz.f52 Tryz.f53 Tryz.f54 Tryz.f55 Tryz.f56 Tryz.f57 Tryz.f58 Tryz.f59 Tryz.f60 Tryz.f61 Tryz.f62 Tryz.f63 Tryz.f64 Tryz.f65 Tryz.f66 Tryz.f67 Tryz.f68 Tryz.f69 Tryz.f70 Tryz.f71 Tryz.f72 Tryz.f73 Tryz.f74 Tryz.f75 Tryz.f76 Tryz.f77 Tryz.f78 Tryz.f79 Tryz.f80 Tryz.f81 Tryz.f82 Tryz.f83 Tryz.f84 Tryz.f85 Tryz.f86 Tryz.f87 Tryz.f89 Tryz.f90 Tryz.f91 Tryz.f92 Tryz.f93 Tryz.f94 Tryz.f95 Tryz.f96 Tryz.f97 Tryz.f98 Tryz.f99 Tryz.f100 Tryz.f101 Tryz.f102 Tryz.f103 Tryz.f105 Tryz.f106 Tryz.f107 Tryz.f108 Tryz.f109 Tryz.f110 Tryz.f112 Tryz.f113 Tryz.f114 Tryz.f115 Tryz.f116 Tryz.f117 Tryz.f119 Tryz.f120 Tryz.f121 Tryz.f122 Tryz.f123 Tryz.f124 Tryz.f125 Tryz.f126 Tryz.f127 Tryz.f128 Tryz.f129 Tryz.f130 Tryz.f131 Tryz.f132 Tryz.f133 Tryz.f134 Tryz.f135 Tryz.f139 Tryz.f140 Tryz.f141 Tryz.f143 Tryz.f144 Tryz.f145 Tryz.f146 Tryz.f147 Tryz.f148 Tryz.f149 Tryz.f150 Tryz.f151 Tryz.f152 Tryz.f153 Tryz.f154 Tryz.f155 Tryz.f157 Tryz.f158 Tryz.f161 Tryz.f162 Tryz.f163 Tryz.f164 Tryz.f165 Tryz.f166 Tryz.f167 Tryz.f171 Tryz.f172 Tryz.f173 Tryz.f174 Tryz.f175 Tryz.f176 Tryz.f177 Tryz.f178 Tryz.f179 Tryz.f180 Tryz.f181 Tryz.f187 Tryz.f193 Tryz.f196 Tryz.f198 Tryz.f199 Tryz.f200 Tryz.f206 Tryz.f208 Tryz.f209 Tryz.f213 Tryz.f214 Tryz.f215 Tryz.f216 Tryz.f217 Tryz.f218 tyL sgL
abbrev XV (w0:World) (F:Unit->Nfd) (z:Unit->Fz) (p:Nat) (σ:Sg) (m:AM):Prop:=XG_ Tryz.prog F w0 z p σ m
section
variable {F:Unit->Nfd} {w0:World} {z:Unit->Fz} {p:Nat} {σ:Sg} {m:AM} {R:RT} {q q1 q2 q3:Prop}
noncomputable abbrev mkF {args:List Value} (hf:(Tryz.prog).funcs[(F ()).n]?=some (F ()).fn) (_:q=stF Tryz.prog F w0 tyL sgL args m R)
  (k:(((Tryz.prog).follows .mixedOrders && ((F ()).fn.body.isSome && (Nat.ble args.length (F ()).fn.ntmps && codeOk (F ()).qs (F ()).fn.ntmps (bodyOf (F ()).fn)))),q)=(true,vcS Tryz.prog w0 (F ()).qs (bodyOf (F ()).fn) (argS args) m (retQ Tryz.prog (F ()).fn R))):Vn (CallsA Tryz.prog w0 (F ()).n args.toArray m R) :=
 ⟨q,fun h=>C_of hf (F ()).qs (Prod.mk.inj k).1 (cast (Prod.mk.inj k).2 h)⟩
noncomputable abbrev mkK {l:Sl} (hu:UIc σ l) (_:q=stK Tryz.prog F w0 z p tyL sgL .go l σ m) (k:q=XG_ Tryz.prog F w0 z p (N.chn σ l) m):Vn (XV w0 F z p σ m):=⟨q,gK hu k⟩
noncomputable abbrev mkR (t:Tr) (ds:List Nat) {ks:List (Nat × Kc)} (G:Cu ks) {l:Sl} (hu:UIc σ l) (_:q=stT Tryz.prog F w0 z p tyL sgL t (sel ds l) ks G l σ m)
  (_:q1 = ∀ σ,alC ks G fun s m=>stK Tryz.prog F w0 z p tyL sgL .rt (app s (sel ds l)) σ m)
  (k:(markB (F ()).qs (sub (bodyOf (F ()).fn) (pth p)),q,q1)=(true,trC Tryz.prog w0 (F ()).qs (sub (bodyOf (F ()).fn) (pth p)) (N.chn σ l) m fun σ m=>UIr σ (sel ds l) (kdr σ ks (apC ks G σ m)),∀ σ,alC ks G fun s m=>XE_ Tryz.prog F w0 z p .normal (N.chn σ (app s (sel ds l))) m)):Vn (Vn (XV w0 F z p σ m)) :=
 ⟨q,fun h=>⟨q1,fun h1=>gR hu (Prod.mk.inj k).1 (Prod.mk.inj (Prod.mk.inj k).2).1 (cast (Prod.mk.inj (Prod.mk.inj k).2).2 h1) h⟩⟩
variable {cs' lk:Sl} {ks k1 k2 k3:List (Nat × Kc)} {I:Nat->Cu ks} {G1:Cu k1} {G2:Cu k2} {G3:Cu k3} {j1 j2 j3:Nat}
noncomputable abbrev mkL1 (zq:Nat->Unit->Fz) (hz:∀ n,zq n ()=.lp cs' ks I n [(j1,⟨k1,G1⟩)] R) (Nn:Nat) (hc:UIc σ cs') (hl:UIc σ lk) (h0:apC ks (I Nn) (N.chn σ lk) m) (_:q = ∀ n σ,alC ks (I n) fun s m=>stK Tryz.prog F w0 (zq n) (p+p) tyL sgL .go (app s cs') σ m) (_:q1 = ∀ σ,alC k1 G1 fun s m=>stK Tryz.prog F w0 z p tyL sgL (.xt j1) (app s cs') σ m)
  (k:(sub (bodyOf (F ()).fn) (pth p),kdb ks (N.chn σ lk),fun Q=>kOf Tryz.prog w0 (F ()).qs Q (bodyOf (F ()).fn) (pth (p+p)) Q,fun σ m=>XE_ Tryz.prog F w0 z p .ret σ m,q,q1)=(.loop (sub (bodyOf (F ()).fn) (pth (p+p))),true,fun Q=>Q,fun σ m=>retQ Tryz.prog (F ()).fn R .ret σ m,∀ n σ,alC ks (I n) fun s m=>XG_ Tryz.prog F w0 (zq n) (p+p) (N.chn σ (app s cs')) m,∀ σ,alC k1 G1 fun s m=>XE_ Tryz.prog F w0 z p (.exit j1) (N.chn σ (app s cs')) m)):Vn (Vn (XV w0 F z p σ m)) :=
 ⟨q,fun h=>⟨q1,fun h1=>gL hz Nn hc hl (kdb_kdc (Prod.mk.inj (Prod.mk.inj k).2).1) h0 (Prod.mk.inj k).1 (Prod.mk.inj (Prod.mk.inj (Prod.mk.inj k).2).2).1 (Prod.mk.inj (Prod.mk.inj (Prod.mk.inj (Prod.mk.inj k).2).2).2).1 (cast (Prod.mk.inj (Prod.mk.inj (Prod.mk.inj (Prod.mk.inj (Prod.mk.inj k).2).2).2).2).1 h) ⟨gE (cast (Prod.mk.inj (Prod.mk.inj (Prod.mk.inj (Prod.mk.inj (Prod.mk.inj k).2).2).2).2).2 h1),trivial⟩⟩⟩
end
variable (w0:World) (m:AM)
noncomputable abbrev cf60 (x0:ByteArray) (R:RT):Vn (C_ w0 60 #[.string x0] m R):=mkF (F:=F60) Tryz.func60 (by dsimp only [push_cast,↓u1,↓u2,↓u3,Nat.reduceAdd,Nat.reduceBEq,Nat.reduceDiv,Nat.reduceMod]) (by kernel_rfl)
noncomputable abbrev cf63 (x0:Option Addr) (x0n x0c:Nat) (R:RT):Vn (C_ w0 63 #[.slice x0 x0n x0c] m R):=mkF (F:=F63) Tryz.func63 (by dsimp only [push_cast,↓u1,↓u2,↓u3,Nat.reduceAdd,Nat.reduceBEq,Nat.reduceDiv,Nat.reduceMod]) (by kernel_rfl)
noncomputable abbrev vl63_11010 (σ:Sg) (R:RT) (x0:Option Addr) (x0n x0c x3:Nat) (x6:Option Addr) (x6n x6c:Nat) (x7 x8:Int) (I0:Nat->Int->AM->Prop) (E0_0:AM->Prop) (N:Nat) (h0:σ 0=.slice x0 x0n x0c) (h3:σ 3=pt_ x3) (h6:σ 6=.slice x6 x6n x6c) (h7:σ 7=I_ x7) (h8:σ 8=I_ x8) (h_0:I0 N x8 m):Vn (Vn (XV w0 F63 (Tz R) 58 σ m)):=mkL1 (lq63_11010 R x0 x0n x0c x3 x6 x6n x6c x7 I0 E0_0) (fun _=>rfl) N (cs h0 (cs h3 (cs h6 (cs h7 nl)))) (cs h8 nl) h_0 (by dsimp only [push_cast,↓u1,↓u2,↓u3,Nat.reduceAdd,Nat.reduceBEq,Nat.reduceDiv,Nat.reduceMod]) (by dsimp only [push_cast,↓u1,↓u2,↓u3,Nat.reduceAdd,Nat.reduceBEq,Nat.reduceDiv,Nat.reduceMod]) (by kernel_rfl)
noncomputable abbrev cf62 (x0_0 x0_1 x0_2 x0_3 x0_4:Int) (R:RT):Vn (C_ w0 62 #[.agg #[I_ x0_0,I_ x0_1,I_ x0_2,I_ x0_3,I_ x0_4]] m R):=mkF (F:=F62) Tryz.func62 (by dsimp only [push_cast,↓u1,↓u2,↓u3,Nat.reduceAdd,Nat.reduceBEq,Nat.reduceDiv,Nat.reduceMod]) (by kernel_rfl)
noncomputable abbrev cf65 (x0_0 x0_1 x0_2:Int) (pc:Nat) (R:RT):Vn (C_ w0 65 #[.agg #[I_ x0_0,I_ x0_1,I_ x0_2],pt_ pc] m R):=mkF (F:=F65) Tryz.func65 (by dsimp only [push_cast,↓u1,↓u2,↓u3,Nat.reduceAdd,Nat.reduceBEq,Nat.reduceDiv,Nat.reduceMod]) (by kernel_rfl)
noncomputable abbrev cf66 (x0_0:ByteArray) (x0_1:Option Addr) (x0_1n x0_1c:Nat) (x0_2:Int) (x0_3:Option Addr) (x0_3n x0_3c:Nat) (x0_4:Option Addr) (x0_4n x0_4c:Nat) (x0_5:Option Addr) (x0_5n x0_5c:Nat) (x1_0 x1_1 x1_2:Int) (R:RT):Vn (C_ w0 66 #[.agg #[.string x0_0,.slice x0_1 x0_1n x0_1c,I_ x0_2,.slice x0_3 x0_3n x0_3c,.slice x0_4 x0_4n x0_4c,.slice x0_5 x0_5n x0_5c],.agg #[I_ x1_0,I_ x1_1,I_ x1_2]] m R):=mkF (F:=F66) Tryz.func66 (by dsimp only [push_cast,↓u1,↓u2,↓u3,Nat.reduceAdd,Nat.reduceBEq,Nat.reduceDiv,Nat.reduceMod]) (by kernel_rfl)
noncomputable abbrev vk66_101 (σ:Sg) (R:RT) (x2 x3:Nat) (x30:Bool) (h2:σ 2=pt_ x2) (h3:σ 3=pt_ x3) (h30:σ 30=.bool x30):Vn (XV w0 F66 (Tz R) 13 σ m):=mkK (cs h2 (cs h3 (cs h30 nl))) (by dsimp only [push_cast,↓u1,↓u2,↓u3,Nat.reduceAdd,Nat.reduceBEq,Nat.reduceDiv,Nat.reduceMod]) (by kernel_rfl)
noncomputable abbrev vk66_11 (σ:Sg) (R:RT) (x2 x3:Nat) (h2:σ 2=pt_ x2) (h3:σ 3=pt_ x3):Vn (XV w0 F66 (Tz R) 7 σ m):=mkK (cs h2 (cs h3 nl)) (by dsimp only [push_cast,↓u1,↓u2,↓u3,Nat.reduceAdd,Nat.reduceBEq,Nat.reduceDiv,Nat.reduceMod]) (by kernel_rfl)
noncomputable abbrev cf67 (x0:Nat) (x1:ByteArray) (R:RT):Vn (C_ w0 67 #[pt_ x0,.string x1] m R):=mkF (F:=F67) Tryz.func67 (by dsimp only [push_cast,↓u1,↓u2,↓u3,Nat.reduceAdd,Nat.reduceBEq,Nat.reduceDiv,Nat.reduceMod]) (by kernel_rfl)
noncomputable abbrev cf108 (x0:Nat) (x1:ByteArray) (R:RT):Vn (C_ w0 108 #[pt_ x0,.string x1] m R):=mkF (F:=F108) Tryz.func108 (by dsimp only [push_cast,↓u1,↓u2,↓u3,Nat.reduceAdd,Nat.reduceBEq,Nat.reduceDiv,Nat.reduceMod]) (by kernel_rfl)
noncomputable abbrev cf106 (x0:Option Addr) (x0n x0c:Nat) (R:RT):Vn (C_ w0 106 #[.slice x0 x0n x0c,.func (.func 62) #[] #[]] m R):=mkF (F:=F106) Tryz.func106 (by dsimp only [push_cast,↓u1,↓u2,↓u3,Nat.reduceAdd,Nat.reduceBEq,Nat.reduceDiv,Nat.reduceMod]) (by kernel_rfl)
noncomputable abbrev vl106_1010 (σ:Sg) (R:RT) (x0:Option Addr) (x0n x0c:Nat) (x7 x8:Int) (I0:Nat->Int->AM->Prop) (E0_0:AM->Prop) (N:Nat) (h0:σ 0=.slice x0 x0n x0c) (h1:σ 1=.func (.func 62) #[] #[]) (h7:σ 7=I_ x7) (h8:σ 8=I_ x8) (h_0:I0 N x8 m):Vn (Vn (XV w0 F106 (Tz R) 26 σ m)):=mkL1 (lq106_1010 R x0 x0n x0c x7 I0 E0_0) (fun _=>rfl) N (cs h0 (cs h1 (cs h7 nl))) (cs h8 nl) h_0 (by dsimp only [push_cast,↓u1,↓u2,↓u3,Nat.reduceAdd,Nat.reduceBEq,Nat.reduceDiv,Nat.reduceMod]) (by dsimp only [push_cast,↓u1,↓u2,↓u3,Nat.reduceAdd,Nat.reduceBEq,Nat.reduceDiv,Nat.reduceMod]) (by kernel_rfl)
noncomputable abbrev cf61 (x0:Option Addr) (x0n x0c:Nat) (R:RT):Vn (C_ w0 61 #[.slice x0 x0n x0c,.func (.func 62) #[] #[]] m R):=mkF (F:=F61) Tryz.func61 (by dsimp only [push_cast,↓u1,↓u2,↓u3,Nat.reduceAdd,Nat.reduceBEq,Nat.reduceDiv,Nat.reduceMod]) (by kernel_rfl)
noncomputable abbrev cf107 (x0:Option Addr) (x0n x0c pc:Nat) (R:RT):Vn (C_ w0 107 #[.slice x0 x0n x0c,.func (.func 65) #[] #[pt_ pc]] m R):=mkF (F:=F107) Tryz.func107 (by dsimp only [push_cast,↓u1,↓u2,↓u3,Nat.reduceAdd,Nat.reduceBEq,Nat.reduceDiv,Nat.reduceMod]) (by kernel_rfl)
noncomputable abbrev vl107_1010 (σ:Sg) (R:RT) (x0:Option Addr) (x0n x0c x1_0:Nat) (x7 x8:Int) (I0:Nat->Int->AM->Prop) (E0_0:AM->Prop) (N:Nat) (h0:σ 0=.slice x0 x0n x0c) (h1:σ 1=.func (.func 65) #[] #[pt_ x1_0]) (h7:σ 7=I_ x7) (h8:σ 8=I_ x8) (h_0:I0 N x8 m):Vn (Vn (XV w0 F107 (Tz R) 26 σ m)):=mkL1 (lq107_1010 R x0 x0n x0c x1_0 x7 I0 E0_0) (fun _=>rfl) N (cs h0 (cs h1 (cs h7 nl))) (cs h8 nl) h_0 (by dsimp only [push_cast,↓u1,↓u2,↓u3,Nat.reduceAdd,Nat.reduceBEq,Nat.reduceDiv,Nat.reduceMod]) (by dsimp only [push_cast,↓u1,↓u2,↓u3,Nat.reduceAdd,Nat.reduceBEq,Nat.reduceDiv,Nat.reduceMod]) (by kernel_rfl)
noncomputable abbrev cf64 (x0:Option Addr) (x0n x0c pc:Nat) (R:RT):Vn (C_ w0 64 #[.slice x0 x0n x0c,.func (.func 65) #[] #[pt_ pc]] m R):=mkF (F:=F64) Tryz.func64 (by dsimp only [push_cast,↓u1,↓u2,↓u3,Nat.reduceAdd,Nat.reduceBEq,Nat.reduceDiv,Nat.reduceMod]) (by kernel_rfl)
noncomputable abbrev cf27 (x0_0:ByteArray) (x0_1:Option Addr) (x0_1n x0_1c:Nat) (x0_2:Int) (x0_3:Option Addr) (x0_3n x0_3c:Nat) (x0_4:Option Addr) (x0_4n x0_4c:Nat) (x0_5:Option Addr) (x0_5n x0_5c:Nat) (R:RT):Vn (C_ w0 27 #[.agg #[.string x0_0,.slice x0_1 x0_1n x0_1c,I_ x0_2,.slice x0_3 x0_3n x0_3c,.slice x0_4 x0_4n x0_4c,.slice x0_5 x0_5n x0_5c]] m R):=mkF (F:=F27) Tryz.func27 (by dsimp only [push_cast,↓u1,↓u2,↓u3,Nat.reduceAdd,Nat.reduceBEq,Nat.reduceDiv,Nat.reduceMod]) (by kernel_rfl)
noncomputable abbrev vl27_11010 (σ:Sg) (R:RT) (x1:Nat) (x7:Option Addr) (x7n x7c:Nat) (x8:Int) (x3:Option Addr) (x3n x3c:Nat) (x9:Int) (I0:Nat->Option Addr->Nat->Nat->Int->AM->Prop) (E0_0:Option Addr->Nat->Nat->AM->Prop) (N:Nat) (h1:σ 1=pt_ x1) (h3:σ 3=.slice x3 x3n x3c) (h7:σ 7=.slice x7 x7n x7c) (h8:σ 8=I_ x8) (h9:σ 9=I_ x9) (h_0:I0 N x3 x3n x3c x9 m):Vn (Vn (XV w0 F27 (Tz R) 58 σ m)):=mkL1 (lq27_11010 R x1 x7 x7n x7c x8 I0 E0_0) (fun _=>rfl) N (cs h1 (cs h7 (cs h8 nl))) (cs h3 (cs h9 nl)) h_0 (by dsimp only [push_cast,↓u1,↓u2,↓u3,Nat.reduceAdd,Nat.reduceBEq,Nat.reduceDiv,Nat.reduceMod]) (by dsimp only [push_cast,↓u1,↓u2,↓u3,Nat.reduceAdd,Nat.reduceBEq,Nat.reduceDiv,Nat.reduceMod]) (by kernel_rfl)
end Go.Proofs.YtgjamnhjlaohaaaGreatDoor.V
namespace Go.Alog
open Go Go.RowKit
variable {P:Program}
theorem Own.ex {m:AM} {B:Nat} {e:TypeId} {sz:Nat} {A:Option Addr} {n cp:Nat} {xs:List Value} (h:Own m B e sz A n cp xs) (hn:0<n):∃ ad,A=some ad/\Cells m ad xs:=by
 cases A with
 | some ad=>exact ⟨ad,rfl,h.cells rfl⟩
 | none =>
  obtain ⟨_,hn',h | ⟨g',cur',h',_⟩⟩:=h
  .omega
  .cases h'
theorem Reads.ex {m:AM} {sz:Nat} {A:Option Addr} {n:Nat} {xs:List Value} (h:Reads m sz A n xs) (hn:0<n):∃ ad,A=some ad/\Cells m ad xs:=by
 obtain ⟨_,⟨_,h⟩ | h⟩:=h
 .omega
 .exact h
end Go.Alog
namespace Go.Alog
open Go Go.RowKit
theorem awp_append_loc {P : Program} {B : Nat} {t ty e : TypeId} {sz bs : Nat} {z : List Value} (hel : elOf P t = some (e, sz, bs, z)) {m0 m : AM} {A : Option Addr} {n cp : Nat} {xs : List Value} (hle : m0.le m) (hown : Own m B e sz A n cp xs) (hnew : ∀ k ∈ obl A, m0 k = none)
    {A2 : Option Addr} {k c2 : Nat} {news : List Value} (hr : Reads m sz A2 k news) (h1 : ∀ u ∈ news, u.oneCell' = true) (hfit : (n + k) * bs <= 140737488355328) (hfit2 : n + k <= 140737488355328) {K : Value -> AM -> Prop}
    (h : ∀ A' c' m', m0.le m' -> Fr m m' (obl A) -> Own m' B e sz A' (n + k) c' (xs ++ news) -> (∀ x ∈ obl A', m0 x = none) -> (∀ x ∈ obl A', x ∈ obl A \/ m x = none) -> K (.slice A' (n + k) c') m') :
    awp P B (Builtin.append_ #[t, t] ty #[.slice A n cp, .slice A2 k c2]) m K := by
  refine awp_append_own hel hown hr h1 hfit hfit2 (fun g cp' cur hor hB ho => ?_) (fun h0 hA => ?_)
  . have hg0 : m0 g = none := by
      rcases hor with h | h
      . exact hnew g (by rw [h]; simp [obl])
      . exact AM.le_none hle h
    refine h _ _ _ ?_ ?_ ho ?_ ?_
    . intro x o hx
      rw [upd_get]
      by_cases ex : x = g
      . subst ex; rw [hg0] at hx; cases hx
      . rw [if_neg ex]; exact hle _ _ hx
    . refine Fr.upd (Fr.refl _ _) ?_ _
      rcases hor with h | h
      . left; rw [h]; simp [obl]
      . right; exact h
    . intro x hx; simp [obl] at hx; subst hx; exact hg0
    . intro x hx
      simp [obl] at hx; subst hx
      rcases hor with h | h
      . left; rw [h]; simp [obl]
      . right; exact h
  . have hx : xs = [] := List.eq_nil_of_length_eq_zero (by rw [hown.1]; have : n = 0 := by omega
                                                           rw [this]; simp)
    have hn : news = [] := List.eq_nil_of_length_eq_zero (by rw [hr.1]; have : k = 0 := by omega
                                                             rw [this]; simp)
    have := h none 0 m hle (Fr.refl _ _) (by rw [h0, hx, hn]; exact Own.nil _ _ _ _) (by simp [obl]) (by simp [obl])
    rw [h0] at this
    exact this
theorem ne_new {m:AM} {b b':Nat} {o:Obj} (h:m b=some o) (h':m b'=none):b≠b':=fun e=>by subst e; rw [h'] at h; cases h
theorem blk4 {w0:World} {m:AM} {T:TypeId} {z0 z1 z2 z3 v0 v1 v2 v3:Value} {K:Nat->AM->Prop} (hK:∀ b m',m.le m'->m b=none->w0.heap.size<=b->m' b=some (.cells #[v0,v1,v2,v3] T)->K b m') :
  ∀ b:Nat,w0.heap.size<=b->m b=none->let m1:=AM.upd m b (.cells #[z0,z1,z2,z3] T);
   StC w0.heap.size m1 ⟨b,0,none⟩ v0 fun m2=>StC w0.heap.size m2 ⟨b,1,none⟩ v1 fun m3=>StC w0.heap.size m3 ⟨b,2,none⟩ v2 fun m4=>StC w0.heap.size m4 ⟨b,3,none⟩ v3 fun m5=>K b m5:=by
 intro b hb hm m1
 refine StC_upd.2 ⟨hb,by simp,StC_upd.2 ⟨hb,by simp,StC_upd.2 ⟨hb,by simp,StC_upd.2 ⟨hb,by simp,?_⟩⟩⟩⟩
 exact hK b _ (le_new hm _) hm hb (by rw [upd_get_same]; simp)
theorem blk5 {w0:World} {m:AM} {T:TypeId} {z0 z1 z2 z3 z4 v0 v1 v2 v3 v4:Value} {K:Nat->AM->Prop} (hK:∀ b m',m.le m'->m b=none->w0.heap.size<=b->m' b=some (.cells #[v0,v1,v2,v3,v4] T)->K b m') :
  ∀ b:Nat,w0.heap.size<=b->m b=none->let m1:=AM.upd m b (.cells #[z0,z1,z2,z3,z4] T);
   StC w0.heap.size m1 ⟨b,0,none⟩ v0 fun m2=>StC w0.heap.size m2 ⟨b,1,none⟩ v1 fun m3=>StC w0.heap.size m3 ⟨b,2,none⟩ v2 fun m4=>StC w0.heap.size m4 ⟨b,3,none⟩ v3 fun m5=>StC w0.heap.size m5 ⟨b,4,none⟩ v4 fun m6=>K b m6:=by
 intro b hb hm m1
 refine StC_upd.2 ⟨hb,by simp,StC_upd.2 ⟨hb,by simp,StC_upd.2 ⟨hb,by simp,StC_upd.2 ⟨hb,by simp,StC_upd.2 ⟨hb,by simp,?_⟩⟩⟩⟩⟩
 exact hK b _ (le_new hm _) hm hb (by rw [upd_get_same]; simp)
theorem bcT {A B:Prop} (h:A):bcase true A B:=h
theorem bcF {A B:Prop} (h:B):bcase false A B:=h
theorem bcET {b:Bool} {A B:Prop} (hb:b=true) (h:A):bcase b A B:=by subst hb; exact h
theorem bcEF {b:Bool} {A B:Prop} (hb:b=false) (h:B):bcase b A B:=by subst hb; exact h
theorem bcI {b:Bool} {A B:Prop} (h1:b=true->A) (h2:b=false->B):bcase b A B:=by cases b <;> first | exact h1 rfl | exact h2 rfl
theorem bcP {p:Prop} [Decidable p] {A B:Prop} (h1:p->A) (h2:¬ p->B):bcase (decide p) A B:=by
 by_cases h:p
 .rw [decide_eq_true h]; exact h1 h
 .rw [decide_eq_false h]; exact h2 h
theorem cel {m:AM} {b k:Nat} {c:Array Value} {t:TypeId} {f:Nat × Nat} {v:Value} (h:m b=some (.cells c t f)) (hk:c[k]?=some v):m.cell ⟨b,k,none⟩=some v:=by rw [cell_of h]; exact hk
theorem cell_k {k:IntKind} {m:AM} {a:Addr} {l:List Int} (h:Cells m a (intCells k l)) {i:Int} (h0:0<=i) (h1:i<l.length):m.cell (a.add (i.toNat*1))=some (.int k (l.getD i.toNat 0)):=by
 have hlt:i.toNat<l.length:=by omega
 refine h _ _ ?_
 simp [intCells,hlt,List.getD]
theorem CallsA.down {P:Program} {w0:World} {f:FuncId} {a:Array Value} {m:AM} {R:Value->AM->Prop} {Q:Value->Prop} (h:CallsA P w0 f a m R) (hq:∀ r m',R r m'->Q r/\m.le m'):CallsA P w0 f a m (fun r m'=>Q r/\m'=m) :=
 fun w hw=>(h w hw).mono fun _ _ ⟨r,m',he,hh,hR⟩=>⟨r,m,he,hh.mono (hq r m' hR).2,(hq r m' hR).1,rfl⟩
theorem callB {P:Program} {w0:World} {f:FuncId} {a:Array Value} {m:AM} {v:Bool} {K:Bool->AM->Prop} (h:CallsA P w0 f a m (fun r m'=>r=.bool v/\m'=m)) (k:K v m):CallsA P w0 f a m (fun r m'=>∃ t:Bool,r=.bool t/\K t m') :=
 CallsA.mono h (by rintro r m' ⟨rfl,rfl⟩; exact ⟨v,rfl,k⟩)
theorem callI {P:Program} {w0:World} {f:FuncId} {a:Array Value} {m:AM} {v:Int} {K:Int->AM->Prop} (h:CallsA P w0 f a m (fun r m'=>r=.int .i64 v/\m'=m)) (k:K v m):CallsA P w0 f a m (fun r m'=>∃ t:Int,r=.int .i64 t/\K t m') :=
 CallsA.mono h (by rintro r m' ⟨rfl,rfl⟩; exact ⟨v,rfl,k⟩)
theorem ldIns {m:AM} {b:Nat} {i:Ins} {T:TypeId} (p:m b=some (.cells i.cells.toArray T)) {K:Int->Int->Int->Int->Int->Prop} (h:K i.op i.a i.b i.c i.imm) :
  ∃ a:Int,m.cell ⟨b,0,none⟩=some (.int .i64 a)/\∃ a1:Int,m.cell ⟨b,1,none⟩=some (.int .i64 a1)/\∃ a2:Int,m.cell ⟨b,2,none⟩=some (.int .i64 a2)/\∃ a3:Int,m.cell ⟨b,3,none⟩=some (.int .i64 a3)/\∃ a4:Int,m.cell ⟨b,4,none⟩=some (.int .i64 a4)/\K a a1 a2 a3 a4 :=
 ⟨_,cel p rfl,_,cel p rfl,_,cel p rfl,_,cel p rfl,_,cel p rfl,h⟩
def cAt (code:List Ins) (i:Int):Ins:=code.getD i.toNat default
theorem cAt_some {code:List Ins} {i:Int} (h0:0<=i) (h1:i<code.length):code[i.toNat]?=some (cAt code i):=by
 have h:i.toNat<code.length:=by omega
 simp [cAt,List.getD,h]
theorem ldAt {m:AM} {A:Option Addr} {n:Nat} {code:List Ins} (r:Reads m 5 A n (insCells code)) (hn:code.length=n) {i:Int} (h0:0<=i) (h1:i<n) {K:Addr->Int->Int->Int->Int->Int->Prop}
  (h:∀ a,K a (cAt code i).op (cAt code i).a (cAt code i).b (cAt code i).c (cAt code i).imm) :
  ((0:Int)<=i/\i<(n:Int))/\nilO A fun a=>∃ x:Int,m.cell (a.add (i.toNat*5))=some (.int .i64 x)/\∃ x1:Int,m.cell ((a.add (i.toNat*5)).add 1)=some (.int .i64 x1)/\∃ x2:Int,m.cell ((a.add (i.toNat*5)).add 2)=some (.int .i64 x2)/\∃ x3:Int,m.cell ((a.add (i.toNat*5)).add 3)=some (.int .i64 x3)/\∃ x4:Int,m.cell ((a.add (i.toNat*5)).add 4)=some (.int .i64 x4)/\K a x x1 x2 x3 x4:=by
 subst hn
 refine ⟨⟨h0,h1⟩,?_⟩
 obtain ⟨ad,rfl,hc⟩:=r.ex (by omega)
 obtain ⟨c0,c1,c2,c3,c4⟩:=hc.ins (cAt_some h0 h1)
 exact ⟨_,c0,_,c1,_,c2,_,c3,_,c4,h ad⟩
theorem bifF {b x:Bool} {A B:Prop} (h:bcase x A B):bcase (bif false then b else x) A B:=h
theorem bifT {b x:Bool} {A B:Prop} (h:bcase x A B):bcase (bif true then x else b) A B:=h
theorem wrap_s {i:Int} (h0 : -9000000000000000000<=i) (h1:i<=9000000000000000000):IntKind.wrap .i64 i=i:=by rw [IntKind.wrap_i64]; omega
theorem Reads.slice {m:AM} {sz:Nat} {A:Option Addr} {n c:Nat} {xs:List Value} (r:Reads m sz A n xs) (lo hi:Nat) (h:lo<=hi) (hn:hi<=n) (hc:n<=c) :
  Reads m sz (if c=lo then A else Option.map (fun x=>Addr.add x (lo*sz)) A) (hi-lo) ((xs.drop (lo*sz)).take ((hi-lo)*sz)):=by
 obtain ⟨hl,r⟩:=r
 have hlen:((xs.drop (lo*sz)).take ((hi-lo)*sz)).length=(hi-lo)*sz:=by
  have h1:hi*sz<=n*sz:=Nat.mul_le_mul_right _ hn
  have h2:(hi-lo)*sz+lo*sz=hi*sz:=by rw [<- Nat.add_mul]; congr 1; omega
  rw [List.length_take,List.length_drop,hl]; omega
 refine ⟨hlen,?_⟩
 by_cases e:hi-lo=0
 .rw [e]
  rw [Nat.zero_mul,List.take_zero]
  have hx:∀ B:Option Addr,(B=none/\0=0)\/∃ ad,B=some ad/\Cells m ad []:=fun B=>by
   cases B with
   | none=>exact .inl ⟨rfl,rfl⟩
   | some ad=>exact .inr ⟨ad,rfl,fun j u hu=>by simp at hu⟩
  exact hx _
 .rcases r with ⟨rfl,hn0⟩ | ⟨ad,rfl,hcl⟩
  .omega
  .rw [if_neg (by omega)]
   refine .inr ⟨_,rfl,fun j u hu=>?_⟩
   rw [List.getElem?_take] at hu
   split at hu
   .rw [List.getElem?_drop] at hu
    have:=hcl _ u hu
    rwa [add_add]
   .cases hu
theorem insCells_drop (l:List Ins) (k:Nat):(insCells l).drop (k*5)=insCells (l.drop k):=by
 induction k generalizing l with
 | zero=>simp
 | succ k ih =>
  cases l with
  | nil=>simp [insCells]
  | cons i l =>
   rw [insCells_cons,show (k+1)*5=i.cells.length+k*5 by rw [Ins.len]; omega,List.drop_length_add_append]
   simpa using ih l
theorem insCells_take (l:List Ins) (k:Nat):(insCells l).take (k*5)=insCells (l.take k):=by
 induction k generalizing l with
 | zero=>simp [insCells]
 | succ k ih =>
  cases l with
  | nil=>simp [insCells]
  | cons i l =>
   rw [insCells_cons,show (k+1)*5=i.cells.length+k*5 by rw [Ins.len]; omega,List.take_length_add_append,List.take_succ_cons,insCells_cons,ih l]
theorem Reads.insSlice {m:AM} {A:Option Addr} {c:Nat} {l:List Ins} (r:Reads m 5 A l.length (insCells l)) (lo hi:Nat) (h:lo<=hi) (hn:hi<=l.length) (hc:l.length<=c) :
  Reads m 5 (if c=lo then A else Option.map (fun x=>Addr.add x (lo*5)) A) (hi-lo) (insCells ((l.drop lo).take (hi-lo))):=by
 have:=r.slice lo hi h hn hc
 rwa [insCells_drop,insCells_take] at this
theorem countP_add {p:Nat->Bool} {x:Nat} (hp:p x=false):∀ n:Nat,x<n->(List.range n).countP (fun k=>p k || k == x)=(List.range n).countP p+1
 | 0,h=>by omega
 | n+1,h=>by
  rw [List.range_succ,List.countP_append,List.countP_append]
  by_cases e:x=n
  .subst e
   have:(List.range x).countP (fun k=>p k || k == x)=(List.range x).countP p:=by
    apply List.countP_congr
    intro k hk
    have hk:k<x:=List.mem_range.1 hk
    have:(k == x)=false:=by simp; omega
    simp [this]
   rw [this]
   simp [hp]
  .rw [countP_add hp n (by omega)]
   have:(n == x)=false:=by simp; omega
   simp only [List.countP_cons,List.countP_nil,this,Bool.or_false]
   omega
end Go.Alog
namespace Go.Proofs.YtgjamnhjlaohaaaGreatDoor.S
open Go Go.RowKit Go.Shelf Go.Alog Go.Proofs.YtgjamnhjlaohaaaGreatDoor.T Go.Proofs.YtgjamnhjlaohaaaGreatDoor.V
def odd (r:Nat):Bool:=(decide ((r:Int)<97) || decide ((r:Int)>122)) && (decide ((r:Int)<48) || decide ((r:Int)>57))
theorem enters105:∀ args w,(callFunc 105 args).run Tryz.prog w=.ok (.enter 105 args) w:=enters_of Tryz.func105 (by kernel_rfl) rfl
theorem odd_gives (W:World) (r:Nat):Go.Proofs.FnGives Tryz.prog 105 #[] #[.int .i32 (r:Int)] (.bool (odd r)) W:=by
 unfold Go.Proofs.FnGives
 show Calls Tryz.prog 105 #[.int .i32 (r:Int)] W _
 go_enter Tryz.func105,Tryz.ntmps105
 go_wp2
 all_goals (rename_i h1 h2; go_ret; refine ⟨?_,0,rfl⟩)
 .have a1:decide ((r:Int)>122)=true:=decide_eq_true (by omega)
  unfold odd; rw [a1,Bool.or_true,Bool.true_and]; rfl
 .have a1:decide ((r:Int)<97)=false:=decide_eq_false (by omega)
  have a2:decide ((r:Int)>122)=false:=decide_eq_false (by omega)
  unfold odd; rw [a1,a2]; rfl
 .have a1:decide ((r:Int)<97)=true:=decide_eq_true (by omega)
  unfold odd; rw [a1,Bool.true_or,Bool.true_and]; rfl
 .have a1:decide ((r:Int)<97)=true:=decide_eq_true (by omega)
  have a2:decide ((r:Int)<48)=true:=decide_eq_true (by omega)
  unfold odd; rw [a1,a2]; rfl
theorem indexFuncRen:Go.Proofs.Tryz.lIndexFunc_ren.f 15=104:=by decide
theorem indexFunc_c (w0:World) (m:AM) (s:ByteArray):CallsA Tryz.prog w0 104 #[.string s,.func (.func 105) #[] #[]] m (fun r m'=>r=.int .i64 (Lib.idxFunc odd true s)/\m'=m):=by
 intro W hW
 have:=Go.Proofs.Any.strings_IndexFunc Go.Proofs.Tryz.lIndexFunc 105 #[] enters105 odd s W (fun W' x _=>odd_gives W' x)
 rw [indexFuncRen] at this
 refine this.mono ?_
 rintro e W' ⟨rfl,hb⟩
 exact ⟨_,m,rfl,⟨hW.below.trans (hb.mono hW.below.size),fun b o hm=>(hb.block b (Array.getElem?_eq_some_iff.1 (hW.has b o hm)).1).trans (hW.has b o hm)⟩,rfl,rfl⟩
def rightName (s:ByteArray):Bool:=decide ((s.size:Int)>=1) && (decide ((s.size:Int)<=16) && (decide (byteAt s 0>=97) && (decide (byteAt s 0<=122) && decide (Lib.idxFunc odd true s<0))))
theorem rightName_c (w0:World) (m:AM) (s:ByteArray):CallsA Tryz.prog w0 60 #[.string s] m (fun r m'=>r=.bool (rightName s)/\m'=m):=by
 refine cf60 w0 m s _ ⟨rfl,?_⟩
 unfold rightName
 refine bcP (fun h1=>⟨rfl,?_⟩) fun h1=>⟨decide_eq_false h1,rfl,rfl,rfl,retP_of ⟨by rw [decide_eq_false h1]; rfl,rfl⟩⟩
 rw [decide_eq_true h1]
 refine bcP (p:=(s.size:Int)<=16) (fun h2=>⟨⟨by omega,by omega⟩,rfl,?_⟩) fun h2=>⟨decide_eq_false h2,rfl,rfl,retP_of ⟨by rw [decide_eq_false h2]; rfl,rfl⟩⟩
 rw [decide_eq_true h2]
 refine bcP (p:=byteAt s 0>=97) (fun h3=>⟨⟨by omega,by omega⟩,rfl,?_⟩) fun h3=>⟨decide_eq_false h3,rfl,retP_of ⟨by rw [decide_eq_false h3]; rfl,rfl⟩⟩
 show bcase (bif (bif (bif true then true else false) then decide (byteAt s 0>=97) else false) then decide (byteAt s 0<=122) else false) _ _
 rw [decide_eq_true h3]
 refine bcP (p:=byteAt s 0<=122) (fun h4=>callI (indexFunc_c w0 m s) ⟨rfl,retP_of ⟨?_,rfl⟩⟩) fun h4=>⟨?_,retP_of ⟨by rw [decide_eq_false h4]; rfl,rfl⟩⟩
 .show Value.bool (bif (bif (bif (bif true then true else false) then decide (byteAt s 0>=97) else false) then decide (byteAt s 0<=122) else false) then decide (Lib.idxFunc odd true s<0) else false)=_
  rw [decide_eq_true h3,decide_eq_true h4]; rfl
 .show (bif (bif (bif true then true else false) then decide (byteAt s 0>=97) else false) then decide (byteAt s 0<=122) else false)=false
  rw [decide_eq_true h3,decide_eq_false h4]; rfl
end Go.Proofs.YtgjamnhjlaohaaaGreatDoor.S
namespace Go.Proofs.YtgjamnhjlaohaaaGreatDoor.V
open Go Go.Alog Go.Proofs.YtgjamnhjlaohaaaGreatDoor.T
variable (w0:World) (m:AM)
noncomputable abbrev cf161 (x0:Option Addr) (x0n x0c:Nat) (x1 x2 x3:Int) (R:RT):Vn (C_ w0 161 #[.slice x0 x0n x0c,I_ x1,I_ x2,I_ x3] m R):=mkF (F:=F161) Tryz.func161 (by dsimp only [push_cast,↓u1,↓u2,↓u3,Nat.reduceAdd,Nat.reduceBEq,Nat.reduceDiv,Nat.reduceMod]) (by kernel_rfl)
end Go.Proofs.YtgjamnhjlaohaaaGreatDoor.V
namespace Go.Proofs.YtgjamnhjlaohaaaGreatDoor.V
open Go Go.Alog Go.Proofs.YtgjamnhjlaohaaaGreatDoor.T
variable (w0:World) (m:AM)
noncomputable abbrev cf124 (x0:Int) (R:RT):Vn (C_ w0 124 #[I_ x0] m R):=mkF (F:=F124) Tryz.func124 (by dsimp only [push_cast,↓u1,↓u2,↓u3,Nat.reduceAdd,Nat.reduceBEq,Nat.reduceDiv,Nat.reduceMod]) (by kernel_rfl)
noncomputable abbrev cf121 (x0_0 x0_1 x0_2 x0_3 x0_4:Int) (R:RT):Vn (C_ w0 121 #[.agg #[I_ x0_0,I_ x0_1,I_ x0_2,I_ x0_3,I_ x0_4]] m R):=mkF (F:=F121) Tryz.func121 (by dsimp only [push_cast,↓u1,↓u2,↓u3,Nat.reduceAdd,Nat.reduceBEq,Nat.reduceDiv,Nat.reduceMod]) (by kernel_rfl)
noncomputable abbrev cf69 (x0_0 x0_1 x0_2 x0_3 x0_4:Int) (R:RT):Vn (C_ w0 69 #[.agg #[I_ x0_0,I_ x0_1,I_ x0_2,I_ x0_3,I_ x0_4]] m R):=mkF (F:=F69) Tryz.func69 (by dsimp only [push_cast,↓u1,↓u2,↓u3,Nat.reduceAdd,Nat.reduceBEq,Nat.reduceDiv,Nat.reduceMod]) (by kernel_rfl)
noncomputable abbrev cf76 (x0:Option Addr) (x0n x0c:Nat) (x1:Int) (R:RT):Vn (C_ w0 76 #[.slice x0 x0n x0c,I_ x1] m R):=mkF (F:=F76) Tryz.func76 (by dsimp only [push_cast,↓u1,↓u2,↓u3,Nat.reduceAdd,Nat.reduceBEq,Nat.reduceDiv,Nat.reduceMod]) (by kernel_rfl)
noncomputable abbrev cf123 (x0:Option Addr) (x0n x0c:Nat) (x1:Int) (R:RT):Vn (C_ w0 123 #[.slice x0 x0n x0c,I_ x1] m R):=mkF (F:=F123) Tryz.func123 (by dsimp only [push_cast,↓u1,↓u2,↓u3,Nat.reduceAdd,Nat.reduceBEq,Nat.reduceDiv,Nat.reduceMod]) (by kernel_rfl)
noncomputable abbrev vl123_1010 (σ:Sg) (R:RT) (x0:Option Addr) (x0n x0c:Nat) (x1 x7 x8:Int) (I0:Nat->Int->AM->Prop) (E0_0:AM->Prop) (N:Nat) (h0:σ 0=.slice x0 x0n x0c) (h1:σ 1=I_ x1) (h7:σ 7=I_ x7) (h8:σ 8=I_ x8) (h_0:I0 N x8 m):Vn (Vn (XV w0 F123 (Tz R) 26 σ m)):=mkL1 (lq123_1010 R x0 x0n x0c x1 x7 I0 E0_0) (fun _=>rfl) N (cs h0 (cs h1 (cs h7 nl))) (cs h8 nl) h_0 (by dsimp only [push_cast,↓u1,↓u2,↓u3,Nat.reduceAdd,Nat.reduceBEq,Nat.reduceDiv,Nat.reduceMod]) (by dsimp only [push_cast,↓u1,↓u2,↓u3,Nat.reduceAdd,Nat.reduceBEq,Nat.reduceDiv,Nat.reduceMod]) (by kernel_rfl)
noncomputable abbrev cf158 (x0:Option Addr) (x0n x0c:Nat) (R:RT):Vn (C_ w0 158 #[.slice x0 x0n x0c,.func (.func 124) #[] #[]] m R):=mkF (F:=F158) Tryz.func158 (by dsimp only [push_cast,↓u1,↓u2,↓u3,Nat.reduceAdd,Nat.reduceBEq,Nat.reduceDiv,Nat.reduceMod]) (by kernel_rfl)
noncomputable abbrev vl158_1010 (σ:Sg) (R:RT) (x0:Option Addr) (x0n x0c:Nat) (x7 x8:Int) (I0:Nat->Int->AM->Prop) (E0_0:AM->Prop) (N:Nat) (h0:σ 0=.slice x0 x0n x0c) (h1:σ 1=.func (.func 124) #[] #[]) (h7:σ 7=I_ x7) (h8:σ 8=I_ x8) (h_0:I0 N x8 m):Vn (Vn (XV w0 F158 (Tz R) 26 σ m)):=mkL1 (lq158_1010 R x0 x0n x0c x7 I0 E0_0) (fun _=>rfl) N (cs h0 (cs h1 (cs h7 nl))) (cs h8 nl) h_0 (by dsimp only [push_cast,↓u1,↓u2,↓u3,Nat.reduceAdd,Nat.reduceBEq,Nat.reduceDiv,Nat.reduceMod]) (by dsimp only [push_cast,↓u1,↓u2,↓u3,Nat.reduceAdd,Nat.reduceBEq,Nat.reduceDiv,Nat.reduceMod]) (by kernel_rfl)
noncomputable abbrev cf110 (x0:Option Addr) (x0n x0c:Nat) (R:RT):Vn (C_ w0 110 #[.slice x0 x0n x0c,.func (.func 124) #[] #[]] m R):=mkF (F:=F110) Tryz.func110 (by dsimp only [push_cast,↓u1,↓u2,↓u3,Nat.reduceAdd,Nat.reduceBEq,Nat.reduceDiv,Nat.reduceMod]) (by kernel_rfl)
noncomputable abbrev vl110_111010 (σ:Sg) (R:RT) (x0:Option Addr) (x0n x0c:Nat) (x5 x6:Int) (I0:Nat->Int->Int->AM->Prop) (E0_0:Int->AM->Prop) (N:Nat) (h0:σ 0=.slice x0 x0n x0c) (h1:σ 1=.func (.func 124) #[] #[]) (h5:σ 5=I_ x5) (h6:σ 6=I_ x6) (h_0:I0 N x5 x6 m):Vn (Vn (XV w0 F110 (Tz R) 122 σ m)):=mkL1 (lq110_111010 R x0 x0n x0c I0 E0_0) (fun _=>rfl) N (cs h0 (cs h1 nl)) (cs h5 (cs h6 nl)) h_0 (by dsimp only [push_cast,↓u1,↓u2,↓u3,Nat.reduceAdd,Nat.reduceBEq,Nat.reduceDiv,Nat.reduceMod]) (by dsimp only [push_cast,↓u1,↓u2,↓u3,Nat.reduceAdd,Nat.reduceBEq,Nat.reduceDiv,Nat.reduceMod]) (by kernel_rfl)
noncomputable abbrev cf125 (x0:Option Addr) (x0n x0c:Nat) (R:RT):Vn (C_ w0 125 #[.slice x0 x0n x0c] m R):=mkF (F:=F125) Tryz.func125 (by dsimp only [push_cast,↓u1,↓u2,↓u3,Nat.reduceAdd,Nat.reduceBEq,Nat.reduceDiv,Nat.reduceMod]) (by kernel_rfl)
noncomputable abbrev vl125_11010 (σ:Sg) (R:RT) (x0:Option Addr) (x0n x0c:Nat) (x3:Int) (I0:Nat->Int->AM->Prop) (E0_0:AM->Prop) (N:Nat) (h0:σ 0=.slice x0 x0n x0c) (h3:σ 3=I_ x3) (h_0:I0 N x3 m):Vn (Vn (XV w0 F125 (Tz R) 58 σ m)):=mkL1 (lq125_11010 R x0 x0n x0c I0 E0_0) (fun _=>rfl) N (cs h0 nl) (cs h3 nl) h_0 (by dsimp only [push_cast,↓u1,↓u2,↓u3,Nat.reduceAdd,Nat.reduceBEq,Nat.reduceDiv,Nat.reduceMod]) (by dsimp only [push_cast,↓u1,↓u2,↓u3,Nat.reduceAdd,Nat.reduceBEq,Nat.reduceDiv,Nat.reduceMod]) (by kernel_rfl)
noncomputable abbrev vl125_110100100101010 (σ:Sg) (R:RT) (n0:Nat) (I0:Nat->Int->AM->Prop) (E0_0:AM->Prop) (x0:Option Addr) (x0n x0c:Nat) (x4:Option Addr) (x4n x4c:Nat) (x3 x5:Int) (I1:Nat->Int->Int->AM->Prop) (E1_2:Int->AM->Prop) (N:Nat) (h0:σ 0=.slice x0 x0n x0c) (h3:σ 3=I_ x3) (h4:σ 4=.slice x4 x4n x4c) (h5:σ 5=I_ x5) (h_0:I1 N x3 x5 m):Vn (Vn (XV w0 F125 (lq125_11010 R x0 x0n x0c I0 E0_0 n0) 59690 σ m)):=mkL1 (lq125_110100100101010 R x0 x0n x0c x4 x4n x4c I1 E1_2) (fun _=>rfl) N (cs h0 (cs h4 nl)) (cs h3 (cs h5 nl)) h_0 (by dsimp only [push_cast,↓u1,↓u2,↓u3,Nat.reduceAdd,Nat.reduceBEq,Nat.reduceDiv,Nat.reduceMod]) (by dsimp only [push_cast,↓u1,↓u2,↓u3,Nat.reduceAdd,Nat.reduceBEq,Nat.reduceDiv,Nat.reduceMod]) (by kernel_rfl)
noncomputable abbrev cf114 (x0:Option Addr) (x0n x0c:Nat) (R:RT):Vn (C_ w0 114 #[.slice x0 x0n x0c] m R):=mkF (F:=F114) Tryz.func114 (by dsimp only [push_cast,↓u1,↓u2,↓u3,Nat.reduceAdd,Nat.reduceBEq,Nat.reduceDiv,Nat.reduceMod]) (by kernel_rfl)
noncomputable abbrev cf181 (x0:Option Addr) (x0n x0c:Nat) (x1 x2:Int) (R:RT):Vn (C_ w0 181 #[.slice x0 x0n x0c,I_ x1,I_ x2] m R):=mkF (F:=F181) Tryz.func181 (by dsimp only [push_cast,↓u1,↓u2,↓u3,Nat.reduceAdd,Nat.reduceBEq,Nat.reduceDiv,Nat.reduceMod]) (by kernel_rfl)
noncomputable abbrev vl181_10 (σ:Sg) (R:RT) (x0:Option Addr) (x0n x0c:Nat) (x1 x2 x6:Int) (I0:Nat->Int->AM->Prop) (E0_0:AM->Prop) (N:Nat) (h0:σ 0=.slice x0 x0n x0c) (h1:σ 1=I_ x1) (h2:σ 2=I_ x2) (h6:σ 6=I_ x6) (h_0:I0 N x6 m):Vn (Vn (XV w0 F181 (Tz R) 6 σ m)):=mkL1 (lq181_10 R x0 x0n x0c x1 x2 I0 E0_0) (fun _=>rfl) N (cs h0 (cs h1 (cs h2 nl))) (cs h6 nl) h_0 (by dsimp only [push_cast,↓u1,↓u2,↓u3,Nat.reduceAdd,Nat.reduceBEq,Nat.reduceDiv,Nat.reduceMod]) (by dsimp only [push_cast,↓u1,↓u2,↓u3,Nat.reduceAdd,Nat.reduceBEq,Nat.reduceDiv,Nat.reduceMod]) (by kernel_rfl)
noncomputable abbrev vl181_10010010 (σ:Sg) (R:RT) (n0:Nat) (I0:Nat->Int->AM->Prop) (E0_0:AM->Prop) (x0:Option Addr) (x0n x0c:Nat) (x1 x2 x6 x7:Int) (I1:Nat->Int->AM->Prop) (E1_2:AM->Prop) (N:Nat) (h0:σ 0=.slice x0 x0n x0c) (h1:σ 1=I_ x1) (h2:σ 2=I_ x2) (h6:σ 6=I_ x6) (h7:σ 7=I_ x7) (h_0:I1 N x7 m):Vn (Vn (XV w0 F181 (lq181_10 R x0 x0n x0c x1 x2 I0 E0_0 n0) 402 σ m)):=mkL1 (lq181_10010010 R x0 x0n x0c x1 x2 x6 I1 E1_2) (fun _=>rfl) N (cs h0 (cs h1 (cs h2 (cs h6 nl)))) (cs h7 nl) h_0 (by dsimp only [push_cast,↓u1,↓u2,↓u3,Nat.reduceAdd,Nat.reduceBEq,Nat.reduceDiv,Nat.reduceMod]) (by dsimp only [push_cast,↓u1,↓u2,↓u3,Nat.reduceAdd,Nat.reduceBEq,Nat.reduceDiv,Nat.reduceMod]) (by kernel_rfl)
noncomputable abbrev cf187 (x0 x1:Int) (R:RT):Vn (C_ w0 187 #[I_ x0,I_ x1] m R):=mkF (F:=F187) Tryz.func187 (by dsimp only [push_cast,↓u1,↓u2,↓u3,Nat.reduceAdd,Nat.reduceBEq,Nat.reduceDiv,Nat.reduceMod]) (by kernel_rfl)
noncomputable abbrev cf206 (x0:Int) (R:RT):Vn (C_ w0 206 #[I_ x0] m R):=mkF (F:=F206) Tryz.func206 (by dsimp only [push_cast,↓u1,↓u2,↓u3,Nat.reduceAdd,Nat.reduceBEq,Nat.reduceDiv,Nat.reduceMod]) (by kernel_rfl)
noncomputable abbrev cf77 (x0_0 x0_1 x0_2 x0_3 x0_4:Int) (R:RT):Vn (C_ w0 77 #[.agg #[I_ x0_0,I_ x0_1,I_ x0_2,I_ x0_3,I_ x0_4]] m R):=mkF (F:=F77) Tryz.func77 (by dsimp only [push_cast,↓u1,↓u2,↓u3,Nat.reduceAdd,Nat.reduceBEq,Nat.reduceDiv,Nat.reduceMod]) (by kernel_rfl)
end Go.Proofs.YtgjamnhjlaohaaaGreatDoor.V
namespace Go.Proofs.YtgjamnhjlaohaaaGreatDoor.V
open Go Go.Alog Go.Proofs.YtgjamnhjlaohaaaGreatDoor.T
theorem pdq_small (w0 : World) (m : AM) (A : Option Addr) (n c : Nat) (lim : Int) (hn : n <= 12) (R : Value -> AM -> Prop)
    (h : CallsA Tryz.prog w0 181 #[.slice A n c, .int .i64 0, .int .i64 n] m (fun r m' => r = .tuple #[] /\ RetP R (.tuple #[]) m')) :
    CallsA Tryz.prog w0 161 #[.slice A n c, .int .i64 0, .int .i64 n, .int .i64 lim] m R := by
  refine cf161 w0 m A n c 0 n lim R ?_
  dsimp only [cf161, mkF]
  change vcS Tryz.prog w0 q0_ (sub (bodyOf Tryz.f161) [1, 1, 0]) (upd (upd (argS [.slice A n c, .int .i64 0, .int .i64 (n : Int), .int .i64 lim]) 8 (.bool true)) 9 (.bool true)) m (blockS 0 (retQ Tryz.prog Tryz.f161 R))
  generalize hσ : (upd (upd (argS [.slice A n c, .int .i64 0, .int .i64 (n : Int), .int .i64 lim]) 8 (.bool true)) 9 (.bool true)) = σ
  have s0 : σ 0 = .slice A n c := by rw [<- hσ]; rfl
  have s1 : σ 1 = .int .i64 0 := by rw [<- hσ]; rfl
  have s2 : σ 2 = .int .i64 (n : Int) := by rw [<- hσ]; rfl
  rw [show sub (bodyOf Tryz.f161) [1, 1, 0] = .loop (sub (bodyOf Tryz.f161) [1, 1, 0, 0]) from by kernel_rfl]
  simp only [vcS]
  refine ⟨fun _ σ' m' => σ' = σ /\ m' = m, 0, ⟨rfl, rfl⟩, ?_⟩
  rintro k σ' m' ⟨h1, h2⟩
  subst h1
  subst h2
  refine ⟨_, fun _ _ _ h => h, ?_⟩
  rw [show sub (bodyOf Tryz.f161) [1, 1, 0, 0] = Go.Code.block 1
              (Go.Code.seq
                (Go.Code.region 2
                  #[Go.Oper.mk (some 19) (Go.Op.move (Go.Operand.tmp 2)) 3 "zsortordered.go:72" #[] none,
                    Go.Oper.mk (some 20) (Go.Op.move (Go.Operand.tmp 1)) 3 "zsortordered.go:72" #[] none,
                    Go.Oper.mk (some 21) (Go.Op.binOp Go.BinOp.sub 3 (Go.Operand.tmp 19) (Go.Operand.tmp 20) 3) 3
                      "zsortordered.go:72" #[Go.Edge.mk 0 Go.Ground.data, Go.Edge.mk 1 Go.Ground.data] none,
                    Go.Oper.mk (some 10) (Go.Op.assign (Go.Operand.tmp 21)) 3 "zsortordered.go:72"
                      #[Go.Edge.mk 2 Go.Ground.data, Go.Edge.mk 0 Go.Ground.phase, Go.Edge.mk 1 Go.Ground.phase,
                        Go.Edge.mk 2 Go.Ground.phase]
                      none]
                  false)
                (Go.Code.seq
                  (Go.Code.seq
                    (Go.Code.region 3
                      #[Go.Oper.mk (some 22) (Go.Op.move (Go.Operand.tmp 10)) 3 "zsortordered.go:74" #[] none,
                        Go.Oper.mk (some 23)
                          (Go.Op.binOp Go.BinOp.leq 3 (Go.Operand.tmp 22)
                            (Go.Operand.const (Go.Value.int Go.IntKind.i64 12)) 3)
                          4 "zsortordered.go:74" #[Go.Edge.mk 0 Go.Ground.data] none]
                      false)
                    (Go.Code.cond (Go.Operand.tmp 23)
                      (Go.Code.seq
                        (Go.Code.region 4
                          #[Go.Oper.mk (some 24) (Go.Op.move (Go.Operand.tmp 0)) 33 "zsortordered.go:75" #[] none,
                            Go.Oper.mk (some 25) (Go.Op.move (Go.Operand.tmp 1)) 3 "zsortordered.go:75" #[] none,
                            Go.Oper.mk (some 26) (Go.Op.move (Go.Operand.tmp 2)) 3 "zsortordered.go:75" #[] none,
                            Go.Oper.mk (some 27)
                              (Go.Op.call
                                (Go.Call.mk (Go.Callee.value (Go.Operand.func 181))
                                  #[Go.Operand.tmp 24, Go.Operand.tmp 25, Go.Operand.tmp 26] #[33, 3, 3]))
                              0 "zsortordered.go:75"
                              #[Go.Edge.mk 0 Go.Ground.data, Go.Edge.mk 1 Go.Ground.data, Go.Edge.mk 2 Go.Ground.data]
                              none]
                          false)
                        Go.Code.ret)
                      Go.Code.skip))
                  (sub (bodyOf Tryz.f161) [1, 1, 0, 0, 0, 1, 1]))) from by kernel_rfl]
  have u3 : Tryz.prog.underlying 3 = some (.int .i64) := by kernel_rfl
  simp only [vcS, Bool.false_and, alS]
  simp only [Bool.false_eq_true, if_false, opS, evS, putS, upd, s0, s1, s2, Nat.reduceEqDiff, reduceIte, Nat.reduceLeDiff, Nat.succ_ne_self, binX, u3]
  simp only [binS, thenS_normal, upd, Nat.reduceEqDiff, reduceIte, s0, s1, s2, condS, List.map_toArray, List.map_cons, List.map_nil, evS, fnS]
  refine ⟨trivial, ?_⟩
  simp only [thenS, upd, Nat.reduceEqDiff, reduceIte, s0, s1, s2]
  refine ⟨trivial, ?_⟩
  have hd : decide (IntKind.wrap .i64 ((n : Int) - 0) <= 12) = true := by
    apply decide_eq_true
    rw [IntKind.wrap_i64]; omega
  rw [hd]
  refine bcT ?_
  have sg : sigOf Tryz.prog 181 = some [] := by kernel_rfl
  simp only [callS, sg, Nat.reduceLeDiff, reduceIte]
  refine CallsA.mono h ?_
  rintro r m2 ⟨rfl, hR⟩
  exact ⟨rfl, hR⟩
variable (w0:World) (m:AM)
noncomputable abbrev cf98 (x0_0 x0_1 x0_2 x0_3 x0_4:Int) (R:RT):Vn (C_ w0 98 #[.agg #[I_ x0_0,I_ x0_1,I_ x0_2,I_ x0_3,I_ x0_4]] m R):=mkF (F:=F98) Tryz.func98 (by dsimp only [push_cast,↓u1,↓u2,↓u3,Nat.reduceAdd,Nat.reduceBEq,Nat.reduceDiv,Nat.reduceMod]) (by kernel_rfl)
noncomputable abbrev cf55 (x0:Nat) (x1_0 x1_1 x1_2 x1_3 x1_4:Int) (R:RT):Vn (C_ w0 55 #[.pointer (some ⟨x0,2,none⟩),.agg #[I_ x1_0,I_ x1_1,I_ x1_2,I_ x1_3,I_ x1_4]] m R):=mkF (F:=F55) Tryz.func55 (by dsimp only [push_cast,↓u1,↓u2,↓u3,Nat.reduceAdd,Nat.reduceBEq,Nat.reduceDiv,Nat.reduceMod]) (by kernel_rfl)
noncomputable abbrev cf53 (x0:Nat) (x1_0 x1_1 x1_2 x1_3 x1_4 x2 x3:Int) (R:RT):Vn (C_ w0 53 #[.pointer (some ⟨x0,2,none⟩),.agg #[I_ x1_0,I_ x1_1,I_ x1_2,I_ x1_3,I_ x1_4],I_ x2,I_ x3] m R):=mkF (F:=F53) Tryz.func53 (by dsimp only [push_cast,↓u1,↓u2,↓u3,Nat.reduceAdd,Nat.reduceBEq,Nat.reduceDiv,Nat.reduceMod]) (by kernel_rfl)
noncomputable abbrev cf50 (x0:Nat) (x1_0 x1_1 x1_2 x1_3 x1_4:Int) (R:RT):Vn (C_ w0 50 #[.pointer (some ⟨x0,2,none⟩),.agg #[I_ x1_0,I_ x1_1,I_ x1_2,I_ x1_3,I_ x1_4]] m R):=mkF (F:=F50) Tryz.func50 (by dsimp only [push_cast,↓u1,↓u2,↓u3,Nat.reduceAdd,Nat.reduceBEq,Nat.reduceDiv,Nat.reduceMod]) (by kernel_rfl)
noncomputable abbrev cf102 (x0:Nat) (x1 x2:Int) (R:RT):Vn (C_ w0 102 #[.pointer (some ⟨x0,2,none⟩),I_ x1,I_ x2] m R):=mkF (F:=F102) Tryz.func102 (by dsimp only [push_cast,↓u1,↓u2,↓u3,Nat.reduceAdd,Nat.reduceBEq,Nat.reduceDiv,Nat.reduceMod]) (by kernel_rfl)
noncomputable abbrev cf52 (x0:Nat) (x1:Int) (R:RT):Vn (C_ w0 52 #[.pointer (some ⟨x0,2,none⟩),I_ x1] m R):=mkF (F:=F52) Tryz.func52 (by dsimp only [push_cast,↓u1,↓u2,↓u3,Nat.reduceAdd,Nat.reduceBEq,Nat.reduceDiv,Nat.reduceMod]) (by kernel_rfl)
noncomputable abbrev cf175 (x0:Nat) (x1_0 x1_1 x1_2 x1_3 x1_4 x2:Int) (R:RT):Vn (C_ w0 175 #[.pointer (some ⟨x0,2,none⟩),.agg #[I_ x1_0,I_ x1_1,I_ x1_2,I_ x1_3,I_ x1_4],I_ x2] m R):=mkF (F:=F175) Tryz.func175 (by dsimp only [push_cast,↓u1,↓u2,↓u3,Nat.reduceAdd,Nat.reduceBEq,Nat.reduceDiv,Nat.reduceMod]) (by kernel_rfl)
noncomputable abbrev cf215 (x0:Nat) (x1 x2:Int) (R:RT):Vn (C_ w0 215 #[.pointer (some ⟨x0,2,none⟩),I_ x1,I_ x2] m R):=mkF (F:=F215) Tryz.func215 (by dsimp only [push_cast,↓u1,↓u2,↓u3,Nat.reduceAdd,Nat.reduceBEq,Nat.reduceDiv,Nat.reduceMod]) (by kernel_rfl)
noncomputable abbrev cf153 (x0:Nat) (R:RT):Vn (C_ w0 153 #[.pointer (some ⟨x0,2,none⟩)] m R):=mkF (F:=F153) Tryz.func153 (by dsimp only [push_cast,↓u1,↓u2,↓u3,Nat.reduceAdd,Nat.reduceBEq,Nat.reduceDiv,Nat.reduceMod]) (by kernel_rfl)
noncomputable abbrev cf217 (x0:Nat) (R:RT):Vn (C_ w0 217 #[.pointer (some ⟨x0,2,none⟩)] m R):=mkF (F:=F217) Tryz.func217 (by dsimp only [push_cast,↓u1,↓u2,↓u3,Nat.reduceAdd,Nat.reduceBEq,Nat.reduceDiv,Nat.reduceMod]) (by kernel_rfl)
noncomputable abbrev cf145 (x0:Nat) (R:RT):Vn (C_ w0 145 #[.pointer (some ⟨x0,2,none⟩)] m R):=mkF (F:=F145) Tryz.func145 (by dsimp only [push_cast,↓u1,↓u2,↓u3,Nat.reduceAdd,Nat.reduceBEq,Nat.reduceDiv,Nat.reduceMod]) (by kernel_rfl)
noncomputable abbrev cf22 (x0:Nat) (R:RT):Vn (C_ w0 22 #[.pointer (some ⟨x0,2,none⟩)] m R):=mkF (F:=F22) Tryz.func22 (by dsimp only [push_cast,↓u1,↓u2,↓u3,Nat.reduceAdd,Nat.reduceBEq,Nat.reduceDiv,Nat.reduceMod]) (by kernel_rfl)
noncomputable abbrev cf23 (x0:Nat) (R:RT):Vn (C_ w0 23 #[.pointer (some ⟨x0,2,none⟩)] m R):=mkF (F:=F23) Tryz.func23 (by dsimp only [push_cast,↓u1,↓u2,↓u3,Nat.reduceAdd,Nat.reduceBEq,Nat.reduceDiv,Nat.reduceMod]) (by kernel_rfl)
noncomputable abbrev cf57 (x0:Option Addr) (x0n x0c:Nat) (R:RT):Vn (C_ w0 57 #[.slice x0 x0n x0c] m R):=mkF (F:=F57) Tryz.func57 (by dsimp only [push_cast,↓u1,↓u2,↓u3,Nat.reduceAdd,Nat.reduceBEq,Nat.reduceDiv,Nat.reduceMod]) (by kernel_rfl)
noncomputable abbrev cf58 (x0:Option Addr) (x0n x0c:Nat) (R:RT):Vn (C_ w0 58 #[.slice x0 x0n x0c] m R):=mkF (F:=F58) Tryz.func58 (by dsimp only [push_cast,↓u1,↓u2,↓u3,Nat.reduceAdd,Nat.reduceBEq,Nat.reduceDiv,Nat.reduceMod]) (by kernel_rfl)
noncomputable abbrev cf74 (x0 x1:Int) (R:RT):Vn (C_ w0 74 #[I_ x0,I_ x1] m R):=mkF (F:=F74) Tryz.func74 (by dsimp only [push_cast,↓u1,↓u2,↓u3,Nat.reduceAdd,Nat.reduceBEq,Nat.reduceDiv,Nat.reduceMod]) (by kernel_rfl)
noncomputable abbrev cf130 (x0:Int) (R:RT):Vn (C_ w0 130 #[I_ x0] m R):=mkF (F:=F130) Tryz.func130 (by dsimp only [push_cast,↓u1,↓u2,↓u3,Nat.reduceAdd,Nat.reduceBEq,Nat.reduceDiv,Nat.reduceMod]) (by kernel_rfl)
noncomputable abbrev cf218 (x0 x1:Int) (R:RT):Vn (C_ w0 218 #[I_ x0,I_ x1] m R):=mkF (F:=F218) Tryz.func218 (by dsimp only [push_cast,↓u1,↓u2,↓u3,Nat.reduceAdd,Nat.reduceBEq,Nat.reduceDiv,Nat.reduceMod]) (by kernel_rfl)
end Go.Proofs.YtgjamnhjlaohaaaGreatDoor.V
namespace Go.Proofs.YtgjamnhjlaohaaaGreatDoor.S
open Go Go.RowKit Go.Alog Go.Proofs.YtgjamnhjlaohaaaGreatDoor.T Go.Proofs.YtgjamnhjlaohaaaGreatDoor.V
def w32 (n:Int):Int:=IntKind.wrap .i32 n
theorem w32_eq (n:Int):w32 n=(n+2147483648) % 4294967296-2147483648:=IntKind.wrap_i32 n
theorem w32_le (n:Int) : -2147483648<=w32 n/\w32 n<=2147483647:=by rw [w32_eq]; omega
theorem w64_w32 (n:Int):IntKind.wrap .i64 (w32 n)=w32 n:=by have:=w32_le n; rw [IntKind.wrap_i64]; omega
theorem w32_w64 (n:Int):w32 (IntKind.wrap .i64 n)=w32 n:=by rw [w32_eq,w32_eq,IntKind.wrap_i64]; omega
theorem w32_w32 (n:Int):w32 (w32 n)=w32 n:=by have:=w32_le n; rw [w32_eq (w32 n)]; omega
theorem fitsW (w0:World) (m:AM) (n:Int):CallsA Tryz.prog w0 74 #[.int .i64 n,.int .i64 16] m (fun r m'=>r=.bool (decide (-32768<=n/\n<=32767))/\m'=m):=by
 refine cf74 w0 m n 16 _ ?_
 dsimp only [cf74,mkF]
 have e1:(IntKind.wrap .i64 (1*2 ^ (min ((IntKind.wrap .i64 (16-1)):Int).toNat (IntKind.bits .i64))))=32768:=by decide
 have e2:(IntKind.wrap .i64 (0-32768)) = -32768:=by decide
 simp only [e1,e2,show decide ((16:Int)<1)=false from rfl,show decide ((16:Int)>62)=false from rfl,show ((0:Int)<=(IntKind.wrap .i64 (16-1)))=True from by simp [IntKind.wrap_i64],std_all,sto_all,Nat.reduceAdd,Nat.reduceLT,LI_,LB_,LA_,SI_,pt_,KI_,I_,SJ_,S_,LT_,LS_,LC_,LU_,LV_,RB_,RI_,RS_,N_,T_,SE_]
 by_cases h:n>=-32768
 .simp only [h,decide_true,std_all,sto_all,Nat.reduceAdd,Nat.reduceLT,LI_,LB_,LA_,SI_,pt_,KI_,I_,SJ_,S_,LT_,LS_,LC_,LU_,LV_,RB_,RI_,RS_,N_,T_,SE_]
  refine retP_of ⟨?_,rfl⟩
  by_cases h2:n<32768 <;> simp [h2] <;> omega
 .simp only [h,decide_false,std_all,sto_all,Nat.reduceAdd,Nat.reduceLT,LI_,LB_,LA_,SI_,pt_,KI_,I_,SJ_,S_,LT_,LS_,LC_,LU_,LV_,RB_,RI_,RS_,N_,T_,SE_]
  refine retP_of ⟨?_,rfl⟩
  simp
def shapeT:List Int:=[0,7,7,7,7,7,7,7,7,7,11,9,11,11,11,11,11,8,8,1,8]
def shapeR (op:Int):Int:=if op<0 then -1 else if op>20 then -1 else shapeT.getD op.toNat 0
def partR (s x:Int):Bool:=!((s.tmod 2 == 0 && x != 0) || decide (x<0) || decide (x>31))
def rangeR (op imm:Int):Bool :=
 if op=14 then decide (imm>=0) && decide (imm<=32767)
 else if op=17\/op=18 then decide (imm>=0) && decide (imm<=4096)
 else if op=20 then decide (imm>=0) && decide (imm<=2)
 else decide (imm>=-32768) && decide (imm<=32767)
def rightR (i:Ins):Bool :=
 let s:=shapeR i.op
 !decide (s<0) && partR s i.a && partR (s.tdiv 2) i.b && partR ((s.tdiv 2).tdiv 2) i.c && rangeR i.op i.imm && (((s.tdiv 2).tdiv 2).tdiv 2 == 1 || i.imm == 0)
end Go.Proofs.YtgjamnhjlaohaaaGreatDoor.S
namespace Go.Proofs.YtgjamnhjlaohaaaGreatDoor.V
open Go Go.Alog Go.Proofs.YtgjamnhjlaohaaaGreatDoor.T
variable (w0:World) (m:AM)
noncomputable abbrev cf35 (x0:Int) (R:RT):Vn (C_ w0 35 #[I_ x0] m R):=mkF (F:=F35) Tryz.func35 (by dsimp only [push_cast,↓u1,↓u2,↓u3,Nat.reduceAdd,Nat.reduceBEq,Nat.reduceDiv,Nat.reduceMod]) (by kernel_rfl)
noncomputable abbrev vk35_1010111 (σ:Sg) (R:RT) (x2:Nat) (x4:Int) (x8:Bool) (h2:σ 2=pt_ x2) (h4:σ 4=I_ x4) (h8:σ 8=.bool x8):Vn (XV w0 F35 (Tz R) 215 σ m):=mkK (cs h2 (cs h4 (cs h8 nl))) (by dsimp only [push_cast,↓u1,↓u2,↓u3,Nat.reduceAdd,Nat.reduceBEq,Nat.reduceDiv,Nat.reduceMod]) (by kernel_rfl)
noncomputable abbrev vk35_101011111 (σ:Sg) (R:RT) (x2:Nat) (x4:Int) (x19:Bool) (h2:σ 2=pt_ x2) (h4:σ 4=I_ x4) (h19:σ 19=.bool x19):Vn (XV w0 F35 (Tz R) 863 σ m):=mkK (cs h2 (cs h4 (cs h19 nl))) (by dsimp only [push_cast,↓u1,↓u2,↓u3,Nat.reduceAdd,Nat.reduceBEq,Nat.reduceDiv,Nat.reduceMod]) (by kernel_rfl)
noncomputable abbrev vk35_1010111111111 (σ:Sg) (R:RT) (x2:Nat) (x4:Int) (x30:Bool) (h2:σ 2=pt_ x2) (h4:σ 4=I_ x4) (h30:σ 30=.bool x30):Vn (XV w0 F35 (Tz R) 13823 σ m):=mkK (cs h2 (cs h4 (cs h30 nl))) (by dsimp only [push_cast,↓u1,↓u2,↓u3,Nat.reduceAdd,Nat.reduceBEq,Nat.reduceDiv,Nat.reduceMod]) (by kernel_rfl)
noncomputable abbrev vk35_11 (σ:Sg) (R:RT) (x2:Nat) (h2:σ 2=pt_ x2):Vn (XV w0 F35 (Tz R) 7 σ m):=mkK (cs h2 nl) (by dsimp only [push_cast,↓u1,↓u2,↓u3,Nat.reduceAdd,Nat.reduceBEq,Nat.reduceDiv,Nat.reduceMod]) (by kernel_rfl)
noncomputable abbrev cf36 (x0:Int) (x1:Bool) (R:RT):Vn (C_ w0 36 #[I_ x0,.bool x1] m R):=mkF (F:=F36) Tryz.func36 (by dsimp only [push_cast,↓u1,↓u2,↓u3,Nat.reduceAdd,Nat.reduceBEq,Nat.reduceDiv,Nat.reduceMod]) (by kernel_rfl)
noncomputable abbrev cf37 (x0 x1:Int) (R:RT):Vn (C_ w0 37 #[I_ x0,I_ x1] m R):=mkF (F:=F37) Tryz.func37 (by dsimp only [push_cast,↓u1,↓u2,↓u3,Nat.reduceAdd,Nat.reduceBEq,Nat.reduceDiv,Nat.reduceMod]) (by kernel_rfl)
noncomputable abbrev cf16 (x0_0 x0_1 x0_2 x0_3 x0_4:Int) (R:RT):Vn (C_ w0 16 #[.agg #[I_ x0_0,I_ x0_1,I_ x0_2,I_ x0_3,I_ x0_4]] m R):=mkF (F:=F16) Tryz.func16 (by dsimp only [push_cast,↓u1,↓u2,↓u3,Nat.reduceAdd,Nat.reduceBEq,Nat.reduceDiv,Nat.reduceMod]) (by kernel_rfl)
end Go.Proofs.YtgjamnhjlaohaaaGreatDoor.V
namespace Go.Proofs.YtgjamnhjlaohaaaGreatDoor.S
open Go Go.RowKit Go.Alog Go.Proofs.YtgjamnhjlaohaaaGreatDoor.T Go.Proofs.YtgjamnhjlaohaaaGreatDoor.V
def pA (op:Int):Bool:=decide (1<=op/\op<=16) || decide (op=19)
def pB (op:Int):Bool:=decide (1<=op/\op<=10) || decide (12<=op/\op<=16)
def pC (op:Int):Bool:=decide (1<=op/\op<=9)
def pI (op:Int):Bool:=decide (10<=op/\op<=18) || decide (op=20)
def pOk (op:Int):Bool:=decide (0<=op/\op<=20)
abbrev ofR (m:AM) (op:Int) (r:Value) (m':AM):Prop:=r=.tuple #[.agg #[.bool (pA op),.bool (pB op),.bool (pC op),.bool (pI op)],.bool (pOk op)]/\m.le m'
theorem of_fin (w0:World) {m m2:AM} {b:Nat} {c:Array Value} {t:TypeId} (hb:w0.heap.size<=b) (n:m b=none) (h:m2 b=some (.cells c t)) (hc:c.size=4) (l:m.le m2) (op:Int) (x y z u o:Bool) (hx:x=pA op) (hy:y=pB op) (hz:z=pC op) (hu:u=pI op) (ho:o=pOk op) :
  StC w0.heap.size m2 ⟨b,0,none⟩ (.bool x) fun m3=>StC w0.heap.size m3 ⟨b,1,none⟩ (.bool y) fun m4=>StC w0.heap.size m4 ⟨b,2,none⟩ (.bool z) fun m5=>StC w0.heap.size m5 ⟨b,3,none⟩ (.bool u) fun m6 =>
   ∃ t7:Bool,m6.cell ⟨b,0,none⟩=some (.bool t7)/\∃ t8:Bool,m6.cell ⟨b,1,none⟩=some (.bool t8)/\∃ t9:Bool,m6.cell ⟨b,2,none⟩=some (.bool t9)/\∃ t10:Bool,m6.cell ⟨b,3,none⟩=some (.bool t10)/\RetP (ofR m op) (.tuple #[.agg #[.bool t7,.bool t8,.bool t9,.bool t10],.bool o]) m6:=by
 obtain ⟨c0,c1,c2,c3,rfl⟩:∃ c0 c1 c2 c3,c = #[c0,c1,c2,c3]:=by
  match c,hc with
  | ⟨[c0,c1,c2,c3]⟩,_=>exact ⟨c0,c1,c2,c3,rfl⟩
 refine StC_own h hb (by simp) ?_
 simp only [std_all,sto_all,Nat.reduceAdd,Nat.reduceLT,LI_,LB_,LA_,SI_,pt_,KI_,I_,SJ_,S_,LT_,LS_,LC_,LU_,LV_,RB_,RI_,RS_,N_,T_,SE_,hb]
 refine retP_of ⟨by rw [hx,hy,hz,hu,ho],fun k o hk=>?_⟩
 rw [upd_get]
 by_cases e:k=b
 .subst e; rw [n] at hk; cases hk
 .rw [if_neg e]; exact l _ _ hk
theorem of_spec (w0:World) (m:AM) (op:Int):CallsA Tryz.prog w0 35 #[.int .i64 op] m (ofR m op):=by
 refine cf35 w0 m op _ ?_
 intro b hb hm M
 have l0:m.le M:=le_new hm _
 have p0:M b=some (.cells #[.bool false,.bool false,.bool false,.bool false] 98):=upd_get_same
 clear_value M
 have e0:∀ k:Int,(op == k)=decide (op=k):=fun k=>rfl
 have fin:=fun x y z u o hx hy hz hu ho=>of_fin w0 (m:=m) (m2:=M) hb hm p0 rfl l0 op x y z u o hx hy hz hu ho
 have k11:∀ (σ:Sg),σ 2=.pointer (some ⟨b,0,none⟩)->pOk op=false->pA op=false->pB op=false->pC op=false->pI op=false ->
   (XV w0 F35 (Tz (ofR m op)) 7 σ M):=by
  intro σ h2 ho ha hb' hc hi
  refine vk35_11 w0 M σ _ b h2 ?_
  exact ⟨rfl,fin _ _ _ _ _ ha.symm hb'.symm hc.symm hi.symm ho.symm⟩
 have k3:∀ (σ:Sg) (x:Bool),σ 2=.pointer (some ⟨b,0,none⟩)->σ 4=.int .i64 op->σ 30=.bool x->x=decide (op=17\/op=18\/op=20)->¬ (0<=op/\op<=16) ->
   (XV w0 F35 (Tz (ofR m op)) 13823 σ M):=by
  intro σ x h2 h4 h30 hx hn
  refine vk35_1010111111111 w0 M σ _ b op x h2 h4 h30 ?_
  dsimp only [vk35_1010111111111,mkK]
  by_cases hc:op=17\/op=18\/op=20
  .rw [hx,decide_eq_true hc,bcase_t]
   refine ⟨rfl,fin _ _ _ _ _ ?_ ?_ ?_ ?_ ?_⟩ <;> simp only [pA,pB,pC,pI,pOk] <;> (rcases hc with rfl | rfl | rfl <;> rfl)
  .rw [hx,decide_eq_false hc,bcase_f]
   simp only [e0]
   by_cases c19:op=19
   .subst c19
    simp only [decide_true,bcase_t]
    exact ⟨trivial,trivial,fin _ _ _ _ _ rfl rfl rfl rfl rfl⟩
   .simp only [decide_eq_false c19,bcase_f]
    refine ⟨trivial,k11 _ rfl ?_ ?_ ?_ ?_ ?_⟩ <;> simp [pA,pB,pC,pI,pOk] <;> omega
 have k2:∀ (σ:Sg) (x:Bool),σ 2=.pointer (some ⟨b,0,none⟩)->σ 4=.int .i64 op->σ 19=.bool x->x=decide (op=10\/(12<=op/\op<=16))->¬ (0<=op/\op<=9) ->
   (XV w0 F35 (Tz (ofR m op)) 863 σ M):=by
  intro σ x h2 h4 h19 hx hn
  refine vk35_101011111 w0 M σ _ b op x h2 h4 h19 ?_
  dsimp only [vk35_101011111,mkK]
  by_cases hc:op=10\/(12<=op/\op<=16)
  .rw [hx,decide_eq_true hc,bcase_t]
   have h1:pA op=true:=by simp [pA]; omega
   have h2:pB op=true:=by simp [pB]; omega
   have h3:pC op=false:=by simp [pC]; omega
   have h4:pI op=true:=by simp [pI]; omega
   have h5:pOk op=true:=by simp [pOk]; omega
   exact ⟨rfl,fin _ _ _ _ _ h1.symm h2.symm h3.symm h4.symm h5.symm⟩
  .rw [hx,decide_eq_false hc,bcase_f]
   simp only [e0]
   by_cases c11:op=11
   .subst c11
    simp only [decide_true,bcase_t]
    exact ⟨trivial,trivial,fin _ _ _ _ _ rfl rfl rfl rfl rfl⟩
   .simp only [decide_eq_false c11,bcase_f]
    by_cases c17:op=17
    .simp only [decide_eq_true c17,bcase_t]
     exact ⟨trivial,trivial,k3 _ _ rfl rfl rfl (by subst c17; rfl) (by omega)⟩
    simp only [decide_eq_false c17,bcase_f]
    by_cases c18:op=18
    .simp only [decide_eq_true c18,bcase_t]
     exact ⟨trivial,trivial,trivial,k3 _ _ rfl rfl rfl (by subst c18; rfl) (by omega)⟩
    simp only [decide_eq_false c18,bcase_f]
    exact ⟨trivial,trivial,trivial,trivial,k3 _ _ rfl rfl rfl (by simp [c17,c18]) (by omega)⟩
 have k1:∀ (σ:Sg) (x:Bool),σ 2=.pointer (some ⟨b,0,none⟩)->σ 4=.int .i64 op->σ 8=.bool x->x=decide (1<=op/\op<=9)->op≠0 ->
   (XV w0 F35 (Tz (ofR m op)) 215 σ M):=by
  intro σ x h2 h4 h8 hx hn
  refine vk35_1010111 w0 M σ _ b op x h2 h4 h8 ?_
  dsimp only [vk35_1010111,mkK]
  by_cases hc:1<=op/\op<=9
  .rw [hx,decide_eq_true hc,bcase_t]
   have h1:pA op=true:=by simp [pA]; omega
   have h2:pB op=true:=by simp [pB]; omega
   have h3:pC op=true:=by simp [pC]; omega
   have h4:pI op=false:=by simp [pI]; omega
   have h5:pOk op=true:=by simp [pOk]; omega
   exact ⟨rfl,fin _ _ _ _ _ h1.symm h2.symm h3.symm h4.symm h5.symm⟩
  .rw [hx,decide_eq_false hc,bcase_f]
   simp only [e0]
   refine ⟨trivial,?_⟩
   by_cases c10:op=10
   .simp only [decide_eq_true c10,bcase_t]
    exact k2 _ _ rfl rfl rfl (by subst c10; rfl) (by omega)
   simp only [decide_eq_false c10,bcase_f]
   refine ⟨trivial,?_⟩
   by_cases c12:op=12
   .simp only [decide_eq_true c12,bcase_t]
    exact k2 _ _ rfl rfl rfl (by subst c12; rfl) (by omega)
   simp only [decide_eq_false c12,bcase_f]
   refine ⟨trivial,?_⟩
   by_cases c13:op=13
   .simp only [decide_eq_true c13,bcase_t]
    exact k2 _ _ rfl rfl rfl (by subst c13; rfl) (by omega)
   simp only [decide_eq_false c13,bcase_f]
   refine ⟨trivial,?_⟩
   by_cases c15:op=15
   .simp only [decide_eq_true c15,bcase_t]
    exact k2 _ _ rfl rfl rfl (by subst c15; rfl) (by omega)
   simp only [decide_eq_false c15,bcase_f]
   refine ⟨trivial,?_⟩
   by_cases c16:op=16
   .simp only [decide_eq_true c16,bcase_t]
    exact k2 _ _ rfl rfl rfl (by subst c16; rfl) (by omega)
   simp only [decide_eq_false c16,bcase_f]
   refine ⟨trivial,k2 _ _ rfl rfl rfl ?_ (by omega)⟩
   show decide (op=14)=_
   congr 1
   apply propext
   omega
 simp only [e0]
 refine ⟨trivial,?_⟩
 by_cases c0:op=0
 .simp only [decide_eq_true c0,bcase_t]
  subst c0
  exact ⟨trivial,fin _ _ _ _ _ rfl rfl rfl rfl rfl⟩
 simp only [decide_eq_false c0,bcase_f]
 refine ⟨trivial,?_⟩
 by_cases c1:op=1
 .simp only [decide_eq_true c1,bcase_t]
  exact k1 _ _ rfl rfl rfl (by subst c1; rfl) (by omega)
 simp only [decide_eq_false c1,bcase_f]
 refine ⟨trivial,?_⟩
 by_cases c2:op=2
 .simp only [decide_eq_true c2,bcase_t]
  exact k1 _ _ rfl rfl rfl (by subst c2; rfl) (by omega)
 simp only [decide_eq_false c2,bcase_f]
 refine ⟨trivial,?_⟩
 by_cases c3:op=3
 .simp only [decide_eq_true c3,bcase_t]
  exact k1 _ _ rfl rfl rfl (by subst c3; rfl) (by omega)
 simp only [decide_eq_false c3,bcase_f]
 refine ⟨trivial,?_⟩
 by_cases c4:op=4
 .simp only [decide_eq_true c4,bcase_t]
  exact k1 _ _ rfl rfl rfl (by subst c4; rfl) (by omega)
 simp only [decide_eq_false c4,bcase_f]
 refine ⟨trivial,?_⟩
 by_cases c5:op=5
 .simp only [decide_eq_true c5,bcase_t]
  exact k1 _ _ rfl rfl rfl (by subst c5; rfl) (by omega)
 simp only [decide_eq_false c5,bcase_f]
 refine ⟨trivial,?_⟩
 by_cases c6:op=6
 .simp only [decide_eq_true c6,bcase_t]
  exact k1 _ _ rfl rfl rfl (by subst c6; rfl) (by omega)
 simp only [decide_eq_false c6,bcase_f]
 refine ⟨trivial,?_⟩
 by_cases c7:op=7
 .simp only [decide_eq_true c7,bcase_t]
  exact k1 _ _ rfl rfl rfl (by subst c7; rfl) (by omega)
 simp only [decide_eq_false c7,bcase_f]
 refine ⟨trivial,?_⟩
 by_cases c8:op=8
 .simp only [decide_eq_true c8,bcase_t]
  exact k1 _ _ rfl rfl rfl (by subst c8; rfl) (by omega)
 simp only [decide_eq_false c8,bcase_f]
 refine ⟨trivial,k1 _ _ rfl rfl rfl ?_ (by omega)⟩
 show decide (op=9)=_
 congr 1
 apply propext
 omega
def regI (n:Int) (had:Bool):Bool:=decide (n=0\/(had=true/\0<n/\n<32))
theorem reg_spec (w0:World) (m:AM) (n:Int) (had:Bool):CallsA Tryz.prog w0 36 #[.int .i64 n,.bool had] m (fun r m'=>r=.bool (regI n had)/\m'=m):=by
 refine cf36 w0 m n had _ ?_
 dsimp only [cf36,mkF]
 have e0:(n == 0)=decide (n=0):=rfl
 unfold regI
 by_cases h0:n=0
 .subst h0; simp only [decide_true,beq_self_eq_true,bcase_t,std_all,sto_all,Nat.reduceAdd,Nat.reduceLT,LI_,LB_,LA_,SI_,pt_,KI_,I_,SJ_,S_,LT_,LS_,LC_,LU_,LV_,RB_,RI_,RS_,N_,T_,SE_]
  exact retP_of ⟨by simp,rfl⟩
 simp only [e0,decide_eq_false h0,std_all,sto_all,Nat.reduceAdd,Nat.reduceLT,LI_,LB_,LA_,SI_,pt_,KI_,I_,SJ_,S_,LT_,LS_,LC_,LU_,LV_,RB_,RI_,RS_,N_,T_,SE_]
 cases had
 .simp only [std_all,sto_all,Nat.reduceAdd,Nat.reduceLT,LI_,LB_,LA_,SI_,pt_,KI_,I_,SJ_,S_,LT_,LS_,LC_,LU_,LV_,RB_,RI_,RS_,N_,T_,SE_]; exact retP_of ⟨by simp [h0],rfl⟩
 .by_cases h1:n>0
  .simp only [decide_eq_true h1,std_all,sto_all,Nat.reduceAdd,Nat.reduceLT,LI_,LB_,LA_,SI_,pt_,KI_,I_,SJ_,S_,LT_,LS_,LC_,LU_,LV_,RB_,RI_,RS_,N_,T_,SE_]
   refine retP_of ⟨?_,rfl⟩
   simp [h0,h1]
  .simp only [decide_eq_false h1,std_all,sto_all,Nat.reduceAdd,Nat.reduceLT,LI_,LB_,LA_,SI_,pt_,KI_,I_,SJ_,S_,LT_,LS_,LC_,LU_,LV_,RB_,RI_,RS_,N_,T_,SE_]
   exact retP_of ⟨by simp [h0]; omega,rfl⟩
theorem number_spec (w0:World) (m:AM) (op n:Int):CallsA Tryz.prog w0 37 #[.int .i64 op,.int .i64 n] m (fun r m'=>r=.bool (rangeR op n)/\m'=m):=by
 refine cf37 w0 m op n _ ?_
 dsimp only [cf37,mkF]
 have e0:∀ k:Int,(op == k)=decide (op=k):=fun k=>rfl
 simp only [e0]
 unfold rangeR
 have hf:decide (-32768<=n/\n<=32767)=(decide (n>=-32768) && decide (n<=32767)):=by simp
 by_cases c17:op=17
 .subst c17
  simp only [decide_true,Int.reduceEq,if_true,if_false,true_or,std_all,sto_all,Nat.reduceAdd,Nat.reduceLT,LI_,LB_,LA_,SI_,pt_,KI_,I_,SJ_,S_,LT_,LS_,LC_,LU_,LV_,RB_,RI_,RS_,N_,T_,SE_]
  by_cases h:n>=0
  .simp only [decide_eq_true h,std_all,sto_all,Nat.reduceAdd,Nat.reduceLT,LI_,LB_,LA_,SI_,pt_,KI_,I_,SJ_,S_,LT_,LS_,LC_,LU_,LV_,RB_,RI_,RS_,N_,T_,SE_,Bool.true_and]; exact retP_of ⟨rfl,rfl⟩
  .simp only [decide_eq_false h,std_all,sto_all,Nat.reduceAdd,Nat.reduceLT,LI_,LB_,LA_,SI_,pt_,KI_,I_,SJ_,S_,LT_,LS_,LC_,LU_,LV_,RB_,RI_,RS_,N_,T_,SE_,Bool.false_and]; exact retP_of ⟨rfl,rfl⟩
 by_cases c18:op=18
 .subst c18
  simp only [decide_true,decide_false,Int.reduceEq,if_true,if_false,or_true,std_all,sto_all,Nat.reduceAdd,Nat.reduceLT,LI_,LB_,LA_,SI_,pt_,KI_,I_,SJ_,S_,LT_,LS_,LC_,LU_,LV_,RB_,RI_,RS_,N_,T_,SE_]
  by_cases h:n>=0
  .simp only [decide_eq_true h,std_all,sto_all,Nat.reduceAdd,Nat.reduceLT,LI_,LB_,LA_,SI_,pt_,KI_,I_,SJ_,S_,LT_,LS_,LC_,LU_,LV_,RB_,RI_,RS_,N_,T_,SE_,Bool.true_and]; exact retP_of ⟨rfl,rfl⟩
  .simp only [decide_eq_false h,std_all,sto_all,Nat.reduceAdd,Nat.reduceLT,LI_,LB_,LA_,SI_,pt_,KI_,I_,SJ_,S_,LT_,LS_,LC_,LU_,LV_,RB_,RI_,RS_,N_,T_,SE_,Bool.false_and]; exact retP_of ⟨rfl,rfl⟩
 by_cases c20:op=20
 .subst c20
  simp only [decide_true,decide_false,Int.reduceEq,if_true,if_false,or_false,std_all,sto_all,Nat.reduceAdd,Nat.reduceLT,LI_,LB_,LA_,SI_,pt_,KI_,I_,SJ_,S_,LT_,LS_,LC_,LU_,LV_,RB_,RI_,RS_,N_,T_,SE_]
  by_cases h:n>=0
  .simp only [decide_eq_true h,std_all,sto_all,Nat.reduceAdd,Nat.reduceLT,LI_,LB_,LA_,SI_,pt_,KI_,I_,SJ_,S_,LT_,LS_,LC_,LU_,LV_,RB_,RI_,RS_,N_,T_,SE_,Bool.true_and]; exact retP_of ⟨rfl,rfl⟩
  .simp only [decide_eq_false h,std_all,sto_all,Nat.reduceAdd,Nat.reduceLT,LI_,LB_,LA_,SI_,pt_,KI_,I_,SJ_,S_,LT_,LS_,LC_,LU_,LV_,RB_,RI_,RS_,N_,T_,SE_,Bool.false_and]; exact retP_of ⟨rfl,rfl⟩
 by_cases c14:op=14
 .subst c14
  simp only [decide_true,decide_false,Int.reduceEq,if_true,if_false,or_false,std_all,sto_all,Nat.reduceAdd,Nat.reduceLT,LI_,LB_,LA_,SI_,pt_,KI_,I_,SJ_,S_,LT_,LS_,LC_,LU_,LV_,RB_,RI_,RS_,N_,T_,SE_]
  by_cases h:n>=0
  .simp only [decide_eq_true h,std_all,sto_all,Nat.reduceAdd,Nat.reduceLT,LI_,LB_,LA_,SI_,pt_,KI_,I_,SJ_,S_,LT_,LS_,LC_,LU_,LV_,RB_,RI_,RS_,N_,T_,SE_,Bool.true_and]
   refine CallsA.mono (fitsW w0 m n) ?_
   rintro r m' ⟨rfl,rfl⟩
   refine ⟨_,rfl,retP_of ⟨?_,rfl⟩⟩
   rw [hf,decide_eq_true (show n>=-32768 by omega),Bool.true_and]
  .simp only [decide_eq_false h,std_all,sto_all,Nat.reduceAdd,Nat.reduceLT,LI_,LB_,LA_,SI_,pt_,KI_,I_,SJ_,S_,LT_,LS_,LC_,LU_,LV_,RB_,RI_,RS_,N_,T_,SE_,Bool.false_and]; exact retP_of ⟨rfl,rfl⟩
 simp only [decide_eq_false c14,decide_eq_false c17,decide_eq_false c18,decide_eq_false c20,if_neg c14,if_neg c20,if_neg (show ¬ (op=17\/op=18) by omega),std_all,sto_all,Nat.reduceAdd,Nat.reduceLT,LI_,LB_,LA_,SI_,pt_,KI_,I_,SJ_,S_,LT_,LS_,LC_,LU_,LV_,RB_,RI_,RS_,N_,T_,SE_]
 refine CallsA.mono (fitsW w0 m n) ?_
 rintro r m' ⟨rfl,rfl⟩
 exact ⟨_,rfl,retP_of ⟨by rw [hf],rfl⟩⟩
theorem part_reg (s x:Int) (had:Bool) (h:(s.tmod 2 == 0) = !had):regI x had=partR s x:=by
 unfold regI partR
 rw [h]
 cases had
 .by_cases h0:x=0
  .subst h0; rfl
  .simp [h0]
 .by_cases h0:x=0
  .subst h0; rfl
  .simp [h0]; by_cases h1:x<0 <;> by_cases h2:x>31 <;> simp [h1,h2] <;> omega
def rightI (i:Ins):Bool:=pOk i.op && regI i.a (pA i.op) && regI i.b (pB i.op) && regI i.c (pC i.op) && (i.imm == 0 || (pI i.op && rangeR i.op i.imm))
theorem rightI_eq (i:Ins):rightI i=rightR i:=by
 unfold rightI rightR
 by_cases hok:0<=i.op/\i.op<=20
 .have key:∀ k,k<21->((shapeT.getD k 0).tmod 2 == 0)=(!pA (k:Int))/\(((shapeT.getD k 0).tdiv 2).tmod 2 == 0)=(!pB (k:Int))/\((((shapeT.getD k 0).tdiv 2).tdiv 2).tmod 2 == 0)=(!pC (k:Int))/\((((shapeT.getD k 0).tdiv 2).tdiv 2).tdiv 2 == 1)=pI (k:Int)/\decide (shapeT.getD k 0<0)=false:=by decide
  have hs:shapeR i.op=shapeT.getD i.op.toNat 0:=by unfold shapeR; rw [if_neg (by omega),if_neg (by omega)]
  obtain ⟨h1,h2,h3,h4,h5⟩:=key i.op.toNat (by omega)
  rw [Int.toNat_of_nonneg hok.1] at h1 h2 h3 h4
  simp only [hs]
  rw [part_reg _ _ _ h1,part_reg _ _ _ h2,part_reg _ _ _ h3,h4,h5]
  have:pOk i.op=true:=by simp [pOk]; exact hok
  rw [this,Bool.true_and,Bool.not_false,Bool.true_and]
  have hz:rangeR i.op 0=true:=by
   unfold rangeR
   by_cases a:i.op=14
   .rw [if_pos a]; rfl
   by_cases b:i.op=17\/i.op=18
   .rw [if_neg a,if_pos b]; rfl
   by_cases c:i.op=20
   .rw [if_neg a,if_neg b,if_pos c]; rfl
   .rw [if_neg a,if_neg b,if_neg c]; rfl
  by_cases hi:i.imm=0
  .rw [hi,hz]; simp
  .have:(i.imm == 0)=false:=by simpa using hi
   rw [this,Bool.false_or,Bool.or_false]
   cases pI i.op <;> simp
 .have h1:pOk i.op=false:=by simp [pOk]; omega
  have hs:shapeR i.op = -1:=by
   unfold shapeR
   by_cases h:i.op<0
   .rw [if_pos h]
   .rw [if_neg h,if_pos (by omega)]
  rw [h1,hs]; rfl
theorem isaRight (w0:World) (m:AM) (i:Ins):CallsA Tryz.prog w0 16 #[i.val] m (fun r m'=>r=.bool (rightR i)/\m.le m'):=by
 rw [<- rightI_eq]
 refine cf16 w0 m _ _ _ _ _ _ ?_
 intro b1 hb1 hm1 M
 have l1:m.le M:=le_new hm1 _
 have p1:M b1=some (.cells i.cells.toArray 57):=upd_get_same
 clear_value M
 simp only [cell_of p1,Ins.cells,std_all,sto_all,Nat.reduceAdd,Nat.reduceLT,LI_,LB_,LA_,SI_,pt_,KI_,I_,SJ_,S_,LT_,LS_,LC_,LU_,LV_,RB_,RI_,RS_,N_,T_,SE_]
 refine CallsA.mono (of_spec w0 M i.op) ?_
 rintro r m2 ⟨rfl,l2⟩
 refine ⟨_,_,_,_,_,rfl,?_⟩
 intro b2 hb2 hm2
 have p2:=l2 _ _ p1
 have l3:=le_new hm2 (.cells #[.bool (pA i.op),.bool (pB i.op),.bool (pC i.op),.bool (pI i.op)] 98)
 have h12:b1≠b2:=ne_new p2 hm2
 simp only [std_all,sto_all,Nat.reduceAdd,Nat.reduceLT,LI_,LB_,LA_,SI_,pt_,KI_,I_,SJ_,S_,LT_,LS_,LC_,LU_,LV_,RB_,RI_,RS_,N_,T_,SE_,hb2]
 have L:=AM.le_trans (AM.le_trans l1 l2) l3
 have p3:=l3 _ _ p2
 have q3:(m2.upd b2 (.cells #[.bool (pA i.op),.bool (pB i.op),.bool (pC i.op),.bool (pI i.op)] 98)) b2=some (.cells #[.bool (pA i.op),.bool (pB i.op),.bool (pC i.op),.bool (pI i.op)] 98):=upd_get_same
 generalize m2.upd b2 (.cells #[.bool (pA i.op),.bool (pB i.op),.bool (pC i.op),.bool (pI i.op)] 98)=m3 at l3 L p3 q3
 have fin:∀ b c,b=c->RetP (fun r m'=>r=.bool c/\m.le m') (.bool b) m3:=fun b c h=>retP_of ⟨by rw [h],L⟩
 unfold rightI
 cases pOk i.op
 .simp only [std_all,sto_all,Nat.reduceAdd,Nat.reduceLT,LI_,LB_,LA_,SI_,pt_,KI_,I_,SJ_,S_,LT_,LS_,LC_,LU_,LV_,RB_,RI_,RS_,N_,T_,SE_,Bool.false_and]; exact fin _ _ rfl
 simp only [std_all,sto_all,Nat.reduceAdd,Nat.reduceLT,LI_,LB_,LA_,SI_,pt_,KI_,I_,SJ_,S_,LT_,LS_,LC_,LU_,LV_,RB_,RI_,RS_,N_,T_,SE_,Bool.true_and,cell_of p3,cell_of q3,Ins.cells]
 refine CallsA.mono (reg_spec w0 m3 _ _) ?_
 rintro r m4 ⟨rfl,rfl⟩
 cases regI i.a (pA i.op)
 .simp only [std_all,sto_all,Nat.reduceAdd,Nat.reduceLT,LI_,LB_,LA_,SI_,pt_,KI_,I_,SJ_,S_,LT_,LS_,LC_,LU_,LV_,RB_,RI_,RS_,N_,T_,SE_,Bool.false_and]; exact fin _ _ rfl
 simp only [std_all,sto_all,Nat.reduceAdd,Nat.reduceLT,LI_,LB_,LA_,SI_,pt_,KI_,I_,SJ_,S_,LT_,LS_,LC_,LU_,LV_,RB_,RI_,RS_,N_,T_,SE_,Bool.true_and,cell_of p3,cell_of q3,Ins.cells]
 refine CallsA.mono (reg_spec w0 m4 _ _) ?_
 rintro r m5 ⟨rfl,rfl⟩
 cases regI i.b (pB i.op)
 .simp only [std_all,sto_all,Nat.reduceAdd,Nat.reduceLT,LI_,LB_,LA_,SI_,pt_,KI_,I_,SJ_,S_,LT_,LS_,LC_,LU_,LV_,RB_,RI_,RS_,N_,T_,SE_,Bool.false_and]; exact fin _ _ rfl
 simp only [std_all,sto_all,Nat.reduceAdd,Nat.reduceLT,LI_,LB_,LA_,SI_,pt_,KI_,I_,SJ_,S_,LT_,LS_,LC_,LU_,LV_,RB_,RI_,RS_,N_,T_,SE_,Bool.true_and,cell_of p3,cell_of q3,Ins.cells]
 refine CallsA.mono (reg_spec w0 m5 _ _) ?_
 rintro r m6 ⟨rfl,rfl⟩
 cases regI i.c (pC i.op)
 .simp only [std_all,sto_all,Nat.reduceAdd,Nat.reduceLT,LI_,LB_,LA_,SI_,pt_,KI_,I_,SJ_,S_,LT_,LS_,LC_,LU_,LV_,RB_,RI_,RS_,N_,T_,SE_,Bool.false_and]; exact fin _ _ rfl
 simp only [std_all,sto_all,Nat.reduceAdd,Nat.reduceLT,LI_,LB_,LA_,SI_,pt_,KI_,I_,SJ_,S_,LT_,LS_,LC_,LU_,LV_,RB_,RI_,RS_,N_,T_,SE_,Bool.true_and,cell_of p3,cell_of q3,Ins.cells]
 cases hz:(i.imm == 0)
 .simp only [std_all,sto_all,Nat.reduceAdd,Nat.reduceLT,LI_,LB_,LA_,SI_,pt_,KI_,I_,SJ_,S_,LT_,LS_,LC_,LU_,LV_,RB_,RI_,RS_,N_,T_,SE_,Bool.false_or]
  cases pI i.op
  .simp only [std_all,sto_all,Nat.reduceAdd,Nat.reduceLT,LI_,LB_,LA_,SI_,pt_,KI_,I_,SJ_,S_,LT_,LS_,LC_,LU_,LV_,RB_,RI_,RS_,N_,T_,SE_,Bool.false_and]; exact fin _ _ rfl
  .simp only [std_all,sto_all,Nat.reduceAdd,Nat.reduceLT,LI_,LB_,LA_,SI_,pt_,KI_,I_,SJ_,S_,LT_,LS_,LC_,LU_,LV_,RB_,RI_,RS_,N_,T_,SE_,Bool.true_and,cell_of p3,Ins.cells]
   refine CallsA.mono (number_spec w0 m6 _ _) ?_
   rintro r m7 ⟨rfl,rfl⟩
   exact ⟨_,rfl,fin _ _ rfl⟩
 .simp only [std_all,sto_all,Nat.reduceAdd,Nat.reduceLT,LI_,LB_,LA_,SI_,pt_,KI_,I_,SJ_,S_,LT_,LS_,LC_,LU_,LV_,RB_,RI_,RS_,N_,T_,SE_,Bool.true_or]; exact fin _ _ rfl
end Go.Proofs.YtgjamnhjlaohaaaGreatDoor.S
namespace Go.Proofs.YtgjamnhjlaohaaaGreatDoor.V
open Go Go.Alog Go.Proofs.YtgjamnhjlaohaaaGreatDoor.T
variable (w0:World) (m:AM)
noncomputable abbrev cf122 (x0_0 x0_1 x0_2 x0_3 x0_4:Int) (R:RT):Vn (C_ w0 122 #[.agg #[I_ x0_0,I_ x0_1,I_ x0_2,I_ x0_3,I_ x0_4]] m R):=mkF (F:=F122) Tryz.func122 (by dsimp only [push_cast,↓u1,↓u2,↓u3,Nat.reduceAdd,Nat.reduceBEq,Nat.reduceDiv,Nat.reduceMod]) (by kernel_rfl)
noncomputable abbrev vk122_10101 (σ:Sg) (R:RT) (x1:Nat) (x5:Int) (x6:Bool) (h1:σ 1=pt_ x1) (h5:σ 5=I_ x5) (h6:σ 6=.bool x6):Vn (XV w0 F122 (Tz R) 53 σ m):=mkK (cs h1 (cs h5 (cs h6 nl))) (by dsimp only [push_cast,↓u1,↓u2,↓u3,Nat.reduceAdd,Nat.reduceBEq,Nat.reduceDiv,Nat.reduceMod]) (by kernel_rfl)
noncomputable abbrev vr122_1010100 (σ:Sg) (R:RT) (x1:Nat) (K:Option Addr->Nat->Nat->Int->AM->Prop) (h1:σ 1=pt_ x1):Vn (Vn (XV w0 F122 (Tz R) 212 σ m)):=mkR (.o 0 (.o 1 (.o 2 (.o 3 (.o 5 (.o 6 (.o 4 (.o 7 (.o 8 .z))))))))) [] (ks:=[(2,.s),(3,.i)]) K (cs h1 nl) (by dsimp only [push_cast,↓u1,↓u2,↓u3,Nat.reduceAdd,Nat.reduceBEq,Nat.reduceDiv,Nat.reduceMod]) (by dsimp only [push_cast,↓u1,↓u2,↓u3,Nat.reduceAdd,Nat.reduceBEq,Nat.reduceDiv,Nat.reduceMod]) (by kernel_rfl)
noncomputable abbrev vk122_1010111 (σ:Sg) (R:RT) (x1:Nat) (x5:Int) (x23:Bool) (h1:σ 1=pt_ x1) (h5:σ 5=I_ x5) (h23:σ 23=.bool x23):Vn (XV w0 F122 (Tz R) 215 σ m):=mkK (cs h1 (cs h5 (cs h23 nl))) (by dsimp only [push_cast,↓u1,↓u2,↓u3,Nat.reduceAdd,Nat.reduceBEq,Nat.reduceDiv,Nat.reduceMod]) (by kernel_rfl)
noncomputable abbrev vr122_101011100 (σ:Sg) (R:RT) (x1:Nat) (K:Option Addr->Nat->Nat->Int->AM->Prop) (h1:σ 1=pt_ x1):Vn (Vn (XV w0 F122 (Tz R) 860 σ m)):=mkR (.o 0 (.o 1 (.o 3 (.o 4 (.o 2 (.o 5 (.o 6 .z))))))) [] (ks:=[(2,.s),(3,.i)]) K (cs h1 nl) (by dsimp only [push_cast,↓u1,↓u2,↓u3,Nat.reduceAdd,Nat.reduceBEq,Nat.reduceDiv,Nat.reduceMod]) (by dsimp only [push_cast,↓u1,↓u2,↓u3,Nat.reduceAdd,Nat.reduceBEq,Nat.reduceDiv,Nat.reduceMod]) (by kernel_rfl)
noncomputable abbrev vk122_10101111111 (σ:Sg) (R:RT) (x1:Nat) (x5:Int) (x35:Bool) (h1:σ 1=pt_ x1) (h5:σ 5=I_ x5) (h35:σ 35=.bool x35):Vn (XV w0 F122 (Tz R) 3455 σ m):=mkK (cs h1 (cs h5 (cs h35 nl))) (by dsimp only [push_cast,↓u1,↓u2,↓u3,Nat.reduceAdd,Nat.reduceBEq,Nat.reduceDiv,Nat.reduceMod]) (by kernel_rfl)
noncomputable abbrev cf164 (x0:Int) (R:RT):Vn (C_ w0 164 #[I_ x0] m R):=mkF (F:=F164) Tryz.func164 (by dsimp only [push_cast,↓u1,↓u2,↓u3,Nat.reduceAdd,Nat.reduceBEq,Nat.reduceDiv,Nat.reduceMod]) (by kernel_rfl)
noncomputable abbrev cf75 (x0_0 x0_1 x0_2 x0_3 x0_4:Int) (R:RT):Vn (C_ w0 75 #[.agg #[I_ x0_0,I_ x0_1,I_ x0_2,I_ x0_3,I_ x0_4]] m R):=mkF (F:=F75) Tryz.func75 (by dsimp only [push_cast,↓u1,↓u2,↓u3,Nat.reduceAdd,Nat.reduceBEq,Nat.reduceDiv,Nat.reduceMod]) (by kernel_rfl)
noncomputable abbrev cf71 (x0_0 x0_1 x0_2 x0_3 x0_4:Int) (R:RT):Vn (C_ w0 71 #[.agg #[I_ x0_0,I_ x0_1,I_ x0_2,I_ x0_3,I_ x0_4]] m R):=mkF (F:=F71) Tryz.func71 (by dsimp only [push_cast,↓u1,↓u2,↓u3,Nat.reduceAdd,Nat.reduceBEq,Nat.reduceDiv,Nat.reduceMod]) (by kernel_rfl)
end Go.Proofs.YtgjamnhjlaohaaaGreatDoor.V
namespace Go.Proofs.YtgjamnhjlaohaaaGreatDoor.S
open Go Go.RowKit Go.Alog Go.Proofs.YtgjamnhjlaohaaaGreatDoor.T Go.Proofs.YtgjamnhjlaohaaaGreatDoor.V
def fieldW (i:Ins):Int:=if 1<=i.op/\i.op<=12 then i.a else if i.op=18 then 31 else if i.op=20/\i.imm=1 then 4 else 0
def writesP (i:Ins):Int:=if rightR i=true then fieldW i else 0
def lateP (i:Ins):Bool:=rightR i && (i.op == 12 || (i.op == 20 && i.imm == 1))
abbrev wrR (v:Int) (m:AM) (r:Value) (m':AM):Prop:=(∃ (A:Option Addr) (n c:Nat),r=.tuple #[.slice A n c,.int .i64 v])/\m.le m'
theorem sysw_spec (w0:World) (m:AM) (n:Int):CallsA Tryz.prog w0 164 #[.int .i64 n] m (wrR (if n=1 then 4 else 0) m):=by
 refine cf164 w0 m n _ ⟨rfl,?_⟩
 by_cases h1:n=1
 .refine bcET (by simp [h1]) (retP_of ⟨⟨_,_,_,by rw [if_pos h1]⟩,AM.le_refl _⟩)
 .refine bcEF (by simp [h1]) ⟨rfl,bcI (fun h=>?_) fun h=>retP_of ⟨⟨_,_,_,by rw [if_neg h1]⟩,AM.le_refl _⟩⟩
  refine ⟨rfl,fun b hb hm=>?_⟩
  have l:=le_new hm (.cells #[.int .i64 4] 3)
  exact retP_of ⟨⟨_,_,_,by rw [if_neg h1]⟩,l⟩
theorem fields_spec (w0 : World) (m0 : AM) (i : Ins) : CallsA Tryz.prog w0 122 #[i.val] m0 (wrR (fieldW i) m0) := by
  generalize hR : wrR (fieldW i) m0 = R
  refine cf122 w0 m0 _ _ _ _ _ _ ?_
  intro b hb hm M
  have l : m0.le M := le_new hm _
  have p : M b = some (.cells i.cells.toArray 57) := upd_get_same
  clear_value M
  refine ⟨_, cel p rfl, ?_⟩
  have ret0 : ∀ (v : Int), fieldW i = v -> ∀ m' A n c, m0.le m' -> RetP R (.tuple #[.slice A n c, .int .i64 v]) m' := fun v e m' A n c l' => retP_of (by rw [<- hR]; exact ⟨⟨_, _, _, by rw [e]⟩, l'⟩)
  have K3 : ∀ (m : AM) (σ : Sg) (x : Bool), m = M -> σ 1 = .pointer (some ⟨b, 0, none⟩) -> σ 5 = .int .i64 i.op -> σ 35 = .bool x -> x = decide (i.op = 13 \/ i.op = 15 \/ i.op = 16) -> ¬ (1 <= i.op /\ i.op <= 12) -> (XV w0 F122 (Tz R) 3455 σ m) := by
    intro m σ x hm' h1 h5 h35 hx hno
    subst hm'
    refine vk122_10101111111 w0 m σ R b i.op x h1 h5 h35 ?_
    dsimp only [vk122_10101111111, mkK]
    have fw : fieldW i = if i.op = 18 then 31 else if i.op = 20 /\ i.imm = 1 then 4 else 0 := by unfold fieldW; rw [if_neg hno]
    refine bcI (fun h => ?_) fun h => ?_
    . rw [hx] at h
      have h := of_decide_eq_true h
      refine ⟨_, cel p rfl, _, cel p rfl, rfl, fun b' hb' hm' => ret0 0 (by rw [fw, if_neg (by omega), if_neg (by omega)]) _ _ _ _ (AM.le_trans l (le_new hm' _))⟩
    rw [hx] at h
    have h := of_decide_eq_false h
    have one : ∀ v, fieldW i = v -> ∃ i18 : Int, m.cell ⟨b, 1, none⟩ = some (.int .i64 i18) /\ true = true /\ ∀ b19 : Nat, w0.heap.size <= b19 -> m b19 = none -> let m20 := AM.upd m b19 (.cells #[.int .i64 i18] 3); RetP R (.tuple #[.slice (some ⟨b19, 0, none⟩) 1 1, .int .i64 v]) m20 := fun v e => ⟨_, cel p rfl, rfl, fun b' hb' hm' => ret0 v e _ _ _ _ (AM.le_trans l (le_new hm' _))⟩
    have tail : IntKind.i64 = IntKind.i64 /\ (bcase (i.op == 18) (RetP R (.tuple #[.slice none 0 0, .int .i64 31]) m) (IntKind.i64 = IntKind.i64 /\ (bcase (i.op == 20) (∃ i21 : Int, m.cell ⟨b, 4, none⟩ = some (.int .i64 i21) /\ CallsA Tryz.prog w0 164 #[.int .i64 i21] m fun r26 m27 => ∃ (A22 : Option Addr) (n23 c24 : Nat), ∃ i25 : Int, r26 = .tuple #[.slice A22 n23 c24, .int .i64 i25] /\ RetP R (.tuple #[.slice A22 n23 c24, .int .i64 i25]) m27) (RetP R (.tuple #[.slice none 0 0, .int .i64 0]) m)))) := by
      refine ⟨rfl, bcI (fun h8 => ret0 _ (by rw [fw, if_pos (by simpa using h8)]) _ _ _ _ l) fun h8 => ⟨rfl, bcI (fun h20 => ?_) fun h20 => ret0 _ (by rw [fw, if_neg (by simpa using h8), if_neg (by simp at h20; omega)]) _ _ _ _ l⟩⟩
      refine ⟨_, cel p rfl, ?_⟩
      refine CallsA.mono (sysw_spec w0 m i.imm) ?_
      rintro r m2 ⟨⟨A, n, c, rfl⟩, l2⟩
      refine ⟨A, n, c, _, rfl, ret0 _ ?_ _ _ _ _ (AM.le_trans l l2)⟩
      rw [fw, if_neg (by simpa using h8)]
      have : i.op = 20 := by simpa using h20
      by_cases e : i.imm = 1
      . rw [if_pos ⟨this, e⟩, if_pos e]
      . rw [if_neg (fun hh => e hh.2), if_neg e]
    refine ⟨rfl, bcI (fun h14 => ?_) fun h14 => ⟨rfl, bcI (fun h19 => ?_) fun h19 => ?_⟩⟩
    . refine bcET h14 (one 0 ?_)
      have : i.op = 14 := by simpa using h14
      rw [fw, if_neg (by omega), if_neg (by omega)]
    . have : i.op = 19 := by simpa using h19
      exact one 0 (by rw [fw, if_neg (by omega), if_neg (by omega)])
    . exact tail
  have K2 : ∀ (m : AM) (σ : Sg) (x : Bool), m = M -> σ 1 = .pointer (some ⟨b, 0, none⟩) -> σ 5 = .int .i64 i.op -> σ 23 = .bool x -> x = decide (i.op = 10 \/ i.op = 12) -> ¬ (1 <= i.op /\ i.op <= 9) -> (XV w0 F122 (Tz R) 215 σ m) := by
    intro m σ x hm' h1 h5 h23 hx hno
    subst hm'
    refine vk122_1010111 w0 m σ R b i.op x h1 h5 h23 ?_
    refine bcI (fun h => ?_) fun h => ?_
    . rw [hx] at h
      have h := of_decide_eq_true h
      refine vr122_101011100 w0 m _ R b (fun A n c v m' => v = i.a /\ m0.le m') rfl ?_ ?_
      . exact ⟨_, cel p rfl, _, cel p rfl, rfl, fun b' hb' hm' => ⟨rfl, rfl, rfl, rfl, AM.le_trans l (le_new hm' _)⟩⟩
      . rintro σ' A n c v m' ⟨rfl, l'⟩
        exact ret0 _ (by unfold fieldW; rw [if_pos (by omega)]) _ _ _ _ l'
    rw [hx] at h
    have h := of_decide_eq_false h
    refine ⟨rfl, bcI (fun h11 => ?_) fun h11 => ?_⟩
    . have : i.op = 11 := by simpa using h11
      exact ⟨_, cel p rfl, ret0 _ (by unfold fieldW; rw [if_pos (by omega)]) _ _ _ _ l⟩
    have n11 : i.op ≠ 11 := by simpa using h11
    refine ⟨rfl, bcI (fun h13 => ?_) fun h13 => ⟨rfl, bcI (fun h15 => ?_) fun h15 => ⟨rfl, ?_⟩⟩⟩
    . exact K3 m _ (i.op == 13) rfl rfl rfl rfl (by have : i.op = 13 := by simpa using h13
                                                    simp [this]) (by omega)
    . exact K3 m _ (i.op == 15) rfl rfl rfl rfl (by have : i.op = 15 := by simpa using h15
                                                    simp [this]) (by omega)
    . refine K3 m _ (i.op == 16) rfl rfl rfl rfl ?_ (by omega)
      have a1 : i.op ≠ 13 := by simpa using h13
      have a2 : i.op ≠ 15 := by simpa using h15
      by_cases e : i.op = 16 <;> simp [e, a1, a2]
  have K1 : ∀ (m : AM) (σ : Sg) (x : Bool), m = M -> σ 1 = .pointer (some ⟨b, 0, none⟩) -> σ 5 = .int .i64 i.op -> σ 6 = .bool x -> x = decide (1 <= i.op /\ i.op <= 9) -> (XV w0 F122 (Tz R) 53 σ m) := by
    intro m σ x hm' h1 h5 h6 hx
    subst hm'
    refine vk122_10101 w0 m σ R b i.op x h1 h5 h6 ?_
    refine bcI (fun h => ?_) fun h => ?_
    . rw [hx] at h
      have h := of_decide_eq_true h
      refine vr122_1010100 w0 m _ R b (fun A n c v m' => v = i.a /\ m0.le m') rfl ?_ ?_
      . exact ⟨_, cel p rfl, _, cel p rfl, _, cel p rfl, rfl, fun b' hb' hm' => ⟨rfl, rfl, rfl, rfl, AM.le_trans l (le_new hm' _)⟩⟩
      . rintro σ' A n c v m' ⟨rfl, l'⟩
        exact ret0 _ (by unfold fieldW; rw [if_pos (by omega)]) _ _ _ _ l'
    rw [hx] at h
    have h := of_decide_eq_false h
    refine ⟨rfl, bcI (fun h10 => ?_) fun h10 => ⟨rfl, ?_⟩⟩
    . exact K2 m _ (i.op == 10) rfl rfl rfl rfl (by have : i.op = 10 := by simpa using h10
                                                    simp [this]) h
    . refine K2 m _ (i.op == 12) rfl rfl rfl rfl ?_ h
      have a1 : i.op ≠ 10 := by simpa using h10
      by_cases e : i.op = 12 <;> simp [e, a1]
  have go : ∀ (σ : Sg) (k : Int), σ 1 = .pointer (some ⟨b, 0, none⟩) -> σ 5 = .int .i64 i.op -> σ 6 = .bool (i.op == k) -> 1 <= k -> k <= 9 -> (i.op == k) = true -> ∀ m, m = M -> (XV w0 F122 (Tz R) 53 σ m) := by
    intro σ k h1 h5 h6 hk1 hk2 he m hm'
    refine K1 m σ _ hm' h1 h5 h6 ?_
    have : i.op = k := by simpa using he
    rw [he]
    exact (decide_eq_true ⟨by omega, by omega⟩).symm
  refine ⟨rfl, bcI (fun h => go _ 1 rfl rfl rfl (by omega) (by omega) h _ rfl) fun h1 => ?_⟩
  refine ⟨rfl, bcI (fun h => go _ 2 rfl rfl rfl (by omega) (by omega) h _ rfl) fun h2 => ?_⟩
  refine ⟨rfl, bcI (fun h => go _ 3 rfl rfl rfl (by omega) (by omega) h _ rfl) fun h3 => ?_⟩
  refine ⟨rfl, bcI (fun h => go _ 4 rfl rfl rfl (by omega) (by omega) h _ rfl) fun h4 => ?_⟩
  refine ⟨rfl, bcI (fun h => go _ 5 rfl rfl rfl (by omega) (by omega) h _ rfl) fun h5 => ?_⟩
  refine ⟨rfl, bcI (fun h => go _ 6 rfl rfl rfl (by omega) (by omega) h _ rfl) fun h6 => ?_⟩
  refine ⟨rfl, bcI (fun h => go _ 7 rfl rfl rfl (by omega) (by omega) h _ rfl) fun h7 => ?_⟩
  refine ⟨rfl, bcI (fun h => go _ 8 rfl rfl rfl (by omega) (by omega) h _ rfl) fun h8 => ⟨rfl, ?_⟩⟩
  refine K1 _ _ (i.op == 9) rfl rfl rfl rfl ?_
  simp only [beq_eq_false_iff_ne, ne_eq] at h1 h2 h3 h4 h5 h6 h7 h8
  by_cases e : i.op = 9
  . simp [e]
  . rw [beq_eq_false_iff_ne.2 e]
    exact (decide_eq_false (by omega)).symm
theorem writes_spec (w0:World) (m:AM) (i:Ins):CallsA Tryz.prog w0 75 #[i.val] m (fun r m'=>r=.int .i64 (writesP i)/\m.le m'):=by
 refine cf75 w0 m _ _ _ _ _ _ ?_
 intro b hb hm M
 have l:m.le M:=le_new hm _
 have p:M b=some (.cells i.cells.toArray 57):=upd_get_same
 clear_value M
 refine ⟨_,cel p rfl,_,cel p rfl,_,cel p rfl,_,cel p rfl,_,cel p rfl,?_⟩
 refine CallsA.mono (isaRight w0 M i) ?_
 rintro r m2 ⟨rfl,l2⟩
 refine ⟨_,rfl,?_⟩
 have p2:=l2 _ _ p
 unfold writesP
 cases hr:rightR i
 .exact bcET (by rfl) (retP_of ⟨rfl,AM.le_trans l l2⟩)
 .refine bcEF (by rfl) ?_
  refine ⟨_,cel p2 rfl,_,cel p2 rfl,_,cel p2 rfl,_,cel p2 rfl,_,cel p2 rfl,?_⟩
  refine CallsA.mono (fields_spec w0 m2 i) ?_
  rintro r m3 ⟨⟨A,n,c,rfl⟩,l3⟩
  exact ⟨_,_,_,_,rfl,retP_of ⟨rfl,AM.le_trans (AM.le_trans l l2) l3⟩⟩
theorem late_spec (w0:World) (m:AM) (i:Ins):CallsA Tryz.prog w0 71 #[i.val] m (fun r m'=>r=.bool (lateP i)/\m.le m'):=by
 refine cf71 w0 m _ _ _ _ _ _ ?_
 intro b hb hm M
 have l:m.le M:=le_new hm _
 have p:M b=some (.cells i.cells.toArray 57):=upd_get_same
 clear_value M
 refine ⟨_,cel p rfl,_,cel p rfl,_,cel p rfl,_,cel p rfl,_,cel p rfl,?_⟩
 refine CallsA.mono (isaRight w0 M i) ?_
 rintro r m2 ⟨rfl,l2⟩
 refine ⟨_,rfl,?_⟩
 have p2:=l2 _ _ p
 have L:=AM.le_trans l l2
 unfold lateP
 cases hr:rightR i
 .exact ⟨rfl,retP_of ⟨rfl,L⟩⟩
 .refine ⟨_,cel p2 rfl,rfl,bcI (fun h=>⟨h,retP_of ⟨by rw [h]; rfl,L⟩⟩) fun h=>⟨_,cel p2 rfl,rfl,bcI (fun h2=>⟨_,cel p2 rfl,rfl,retP_of ⟨?_,L⟩⟩) fun h2=>⟨h2,retP_of ⟨by rw [h,h2]; rfl,L⟩⟩⟩⟩
  rw [h,h2]
  cases (i.imm == 1) <;> rfl
def actsP (i:Ins):Bool:=rightR i && decide (i.op=4\/i.op=5\/i.op=12\/i.op=13\/i.op=14\/i.op=20)
def goesP (i:Ins):Bool:=rightR i && decide (15<=i.op/\i.op<=19)
theorem acts_spec (w0:World) (m:AM) (i:Ins):CallsA Tryz.prog w0 121 #[i.val] m (fun r m'=>r=.bool (actsP i)/\m.le m'):=by
 generalize hR:(fun (r:Value) (m':AM)=>r=.bool (actsP i)/\m.le m')=R
 refine cf121 w0 m _ _ _ _ _ R ?_
 intro b hb hm M
 have l:m.le M:=le_new hm _
 have p:M b=some (.cells i.cells.toArray 57):=upd_get_same
 clear_value M
 have ret:∀ (v:Bool) (m':AM),m.le m'->v=actsP i->RetP R (.bool v) m':=fun v m' l' e=>retP_of (by rw [<- hR,e]; exact ⟨rfl,l'⟩)
 have yes:actsP i=rightR i->∃ i4:Int,M.cell ⟨b,0,none⟩=some (.int .i64 i4)/\∃ i5:Int,M.cell ⟨b,1,none⟩=some (.int .i64 i5)/\∃ i6:Int,M.cell ⟨b,2,none⟩=some (.int .i64 i6)/\∃ i7:Int,M.cell ⟨b,3,none⟩=some (.int .i64 i7)/\∃ i8:Int,M.cell ⟨b,4,none⟩=some (.int .i64 i8)/\CallsA Tryz.prog w0 16 #[.agg #[.int .i64 i4,.int .i64 i5,.int .i64 i6,.int .i64 i7,.int .i64 i8]] M fun r10 m11=>∃ t9:Bool,r10=.bool t9/\RetP R (.bool t9) m11:=by
  intro e
  refine ⟨_,cel p rfl,_,cel p rfl,_,cel p rfl,_,cel p rfl,_,cel p rfl,?_⟩
  refine CallsA.mono (isaRight w0 M i) ?_
  rintro r m2 ⟨rfl,l2⟩
  exact ⟨_,rfl,ret _ _ (AM.le_trans l l2) e.symm⟩
 refine ⟨_,cel p rfl,?_⟩
 refine ⟨rfl,bcI (fun h=>bcET h (yes (by unfold actsP; simp [show i.op=4 by simpa using h]))) fun h4=>?_⟩
 refine ⟨rfl,bcI (fun h=>bcET h (yes (by unfold actsP; simp [show i.op=5 by simpa using h]))) fun h5=>?_⟩
 refine ⟨rfl,bcI (fun h=>bcET h (yes (by unfold actsP; simp [show i.op=12 by simpa using h]))) fun h12=>?_⟩
 refine ⟨rfl,bcI (fun h=>bcET h (yes (by unfold actsP; simp [show i.op=13 by simpa using h]))) fun h13=>?_⟩
 refine ⟨rfl,bcI (fun h=>bcET h (yes (by unfold actsP; simp [show i.op=14 by simpa using h]))) fun h14=>?_⟩
 refine ⟨rfl,bcI (fun h =>  (yes (by unfold actsP; simp [show i.op=20 by simpa using h]))) fun h20=>?_⟩
 refine ret false M l ?_
 simp only [beq_eq_false_iff_ne,ne_eq] at h4 h5 h12 h13 h14 h20
 unfold actsP
 rw [decide_eq_false (by omega),Bool.and_false]
theorem goes_spec (w0:World) (m:AM) (i:Ins):CallsA Tryz.prog w0 69 #[i.val] m (fun r m'=>r=.bool (goesP i)/\m.le m'):=by
 generalize hR:(fun (r:Value) (m':AM)=>r=.bool (goesP i)/\m.le m')=R
 refine cf69 w0 m _ _ _ _ _ R ?_
 intro b hb hm M
 have l:m.le M:=le_new hm _
 have p:M b=some (.cells i.cells.toArray 57):=upd_get_same
 clear_value M
 have ret:∀ (v:Bool) (m':AM),m.le m'->v=goesP i->RetP R (.bool v) m':=fun v m' l' e=>retP_of (by rw [<- hR,e]; exact ⟨rfl,l'⟩)
 have yes:goesP i=rightR i->∃ i4:Int,M.cell ⟨b,0,none⟩=some (.int .i64 i4)/\∃ i5:Int,M.cell ⟨b,1,none⟩=some (.int .i64 i5)/\∃ i6:Int,M.cell ⟨b,2,none⟩=some (.int .i64 i6)/\∃ i7:Int,M.cell ⟨b,3,none⟩=some (.int .i64 i7)/\∃ i8:Int,M.cell ⟨b,4,none⟩=some (.int .i64 i8)/\CallsA Tryz.prog w0 16 #[.agg #[.int .i64 i4,.int .i64 i5,.int .i64 i6,.int .i64 i7,.int .i64 i8]] M fun r10 m11=>∃ t9:Bool,r10=.bool t9/\RetP R (.bool t9) m11:=by
  intro e
  refine ⟨_,cel p rfl,_,cel p rfl,_,cel p rfl,_,cel p rfl,_,cel p rfl,?_⟩
  refine CallsA.mono (isaRight w0 M i) ?_
  rintro r m2 ⟨rfl,l2⟩
  exact ⟨_,rfl,ret _ _ (AM.le_trans l l2) e.symm⟩
 refine ⟨_,cel p rfl,?_⟩
 refine ⟨rfl,bcI (fun h=>bcET h (yes (by unfold goesP; simp [show i.op=15 by simpa using h]))) fun h15=>?_⟩
 refine ⟨rfl,bcI (fun h=>bcET h (yes (by unfold goesP; simp [show i.op=16 by simpa using h]))) fun h16=>?_⟩
 refine ⟨rfl,bcI (fun h=>bcET h (yes (by unfold goesP; simp [show i.op=17 by simpa using h]))) fun h17=>?_⟩
 refine ⟨rfl,bcI (fun h=>bcET h (yes (by unfold goesP; simp [show i.op=18 by simpa using h]))) fun h18=>?_⟩
 refine ⟨rfl,bcI (fun h=>(yes (by unfold goesP; simp [show i.op=19 by simpa using h]))) fun h19=>?_⟩
 refine ret false M l ?_
 simp only [beq_eq_false_iff_ne,ne_eq] at h15 h16 h17 h18 h19
 unfold goesP
 rw [decide_eq_false (by omega),Bool.and_false]
theorem intFlat (l:List Int):intCells .i64 l=l.flatMap (fun x=>[Value.int .i64 x]):=by
 induction l with
 | nil=>rfl
 | cons x l ih=>simp only [intCells,List.map_cons,List.flatMap_cons] at ih ⊢; rw [ih]; rfl
theorem own_set {m:AM} {B:Nat} {ad:Addr} {c:Nat} {l:List Int} (h:Own m B 3 1 (some ad) l.length c (intCells .i64 l)) {k:Nat} (hk:k<l.length) (v:Int) {K:AM->Prop}
  (hK:∀ m',Own m' B 3 1 (some ad) l.length c (intCells .i64 (l.set k v))->Fr m m' (obl (some ad))->K m'):StC B m (ad.add (k*1)) (.int .i64 v) K:=by
 rw [intFlat] at h
 refine Own.storeRow (f:=fun x=>[Value.int .i64 x]) (sz:=1) (fun _=>rfl) h hk v (K:=K) (fun gA cur hA ho=>?_)
 subst hA
 refine hK _ (by rw [intFlat]; rw [List.length_set] at ho; exact ho) (Fr.upd (Fr.refl _ _) (.inl (by simp [obl])) _)
theorem less_spec (w0:World) (m:AM) (a b:Int):CallsA Tryz.prog w0 187 #[.int .i64 a,.int .i64 b] m (fun r m'=>r=.bool (decide (a<b))/\m'=m):=by
 have nan:∀ x:Int,CallsA Tryz.prog w0 206 #[.int .i64 x] m (fun r m'=>r=.bool false/\m'=m):=by
  intro x
  refine cf206 w0 m x _ ?_
  dsimp only [cf206,mkF]
  have hx:(x != x)=false:=by simp
  rw [hx]
  exact ⟨rfl,retP_of ⟨rfl,rfl⟩⟩
 refine cf187 w0 m a b _ ?_
 refine CallsA.mono (nan a) ?_
 rintro r m1 ⟨rfl,h1⟩
 replace h1:=h1.symm; subst h1
 refine ⟨false,rfl,bcF ⟨rfl,rfl,retP_of ⟨rfl,rfl⟩⟩⟩
def s2 (l:List Int):List Int:=match l with
 | [x,y]=>if y<x then [y,x] else [x,y]
 | l=>l
theorem isort_spec (w0:World) (m:AM) (A:Option Addr) (c:Nat) (l:List Int) (hl:l.length<=2) (h:Own m w0.heap.size 3 1 A l.length c (intCells .i64 l)) :
  CallsA Tryz.prog w0 181 #[.slice A l.length c,.int .i64 0,.int .i64 l.length] m (fun r m'=>r=.tuple #[]/\Own m' w0.heap.size 3 1 A l.length c (intCells .i64 (s2 l))/\Fr m m' (obl A)):=by
 refine cf181 w0 m A l.length c 0 l.length _ ⟨rfl,?_⟩
 let E:AM->Prop:=fun m'=>Own m' w0.heap.size 3 1 A l.length c (intCells .i64 (s2 l))/\Fr m m' (obl A)
 let I:Nat->Int->AM->Prop:=fun k i m'=>(i=1/\m'=m/\k=1)\/(i=2/\l.length=2/\E m'/\k=0)
 refine vl181_10 w0 m _ _ A l.length c 0 l.length (IntKind.wrap .i64 (0+1)) I E 1 rfl rfl rfl rfl (.inl ⟨by decide,rfl,rfl⟩) ?_ ?_
 .rintro k σ i m' hI
  refine ⟨rfl,?_⟩
  rcases hI with ⟨rfl,rfl,rfl⟩ | ⟨rfl,h2,hE,rfl⟩
  .by_cases hn:l.length<=1
   .refine bcEF (decide_eq_false (by omega)) ⟨rfl,rfl,rfl,?_,Fr.refl _ _⟩
    have:s2 l=l:=by
     match l,hn with
     | [],_=>rfl
     | [x],_=>rfl
    rw [this]; exact h
   .obtain ⟨x,y,rfl⟩:∃ x y,l = [x,y]:=by
     match l,hl,hn with
     | [],_,h3=>simp at h3
     | [x],_,h3=>simp at h3
     | [x,y],_,_=>exact ⟨x,y,rfl⟩
    refine bcET (decide_eq_true (by show (1:Int)<2; omega)) ?_
    obtain ⟨ad,rfl,hc⟩:=h.ex (by simp)
    refine vl181_10010010 w0 m' _ _ 1 I E (some ad) 2 c 0 2 1 1 (fun k1 j m2=>(j=1/\m2=m'/\k1=1)\/(j=0/\E m2/\k1=0)) E 1 rfl rfl rfl rfl rfl (.inl ⟨rfl,rfl,rfl⟩) ?_ ?_
    .rintro k1 σ j m2 hI1
     refine ⟨rfl,?_⟩
     rcases hI1 with ⟨rfl,rfl,rfl⟩ | ⟨rfl,hE,rfl⟩
     .refine bcET (by decide) ⟨⟨by decide,by decide⟩,?_⟩
      rw [nilO_some]
      have w0':IntKind.wrap .i64 (1-1)=0:=by decide
      rw [w0']
      refine ⟨_,hc 1 _ rfl,rfl,⟨by decide,by decide⟩,?_⟩
      rw [nilO_some]
      refine ⟨_,hc 0 _ rfl,?_⟩
      refine CallsA.mono (less_spec w0 m2 y x) ?_
      rintro r m3 ⟨rfl,h3⟩
      replace h3:=h3.symm; subst h3
      refine ⟨_,rfl,?_⟩
      by_cases hyx:y<x
      .refine bcET (by rw [decide_eq_true hyx]; rfl) ⟨rfl,rfl,⟨by decide,by decide⟩,?_⟩
       rw [nilO_some]
       refine ⟨_,hc 0 _ rfl,⟨by decide,by decide⟩,?_⟩
       rw [nilO_some]
       refine ⟨_,hc 1 _ rfl,⟨by decide,by decide⟩,?_⟩
       rw [nilO_some]
       refine own_set (l:=[x,y]) h (k:=1) (by simp) x fun m4 o4 f4=>⟨⟨by decide,by decide⟩,?_⟩
       rw [nilO_some]
       refine own_set (l:=[x,x]) o4 (k:=0) (by simp) y fun m5 o5 f5=>⟨rfl,rfl,rfl,rfl,rfl,rfl,0,by omega,.inr ⟨rfl,⟨?_,f4.trans f5 fun _ h=>.inl h⟩,rfl⟩⟩
       have:s2 [x,y] = [y,x]:=by unfold s2; simp only; rw [if_pos hyx]
       rw [this]; exact o5
      .refine bcEF (by rw [decide_eq_false hyx]; rfl) ⟨rfl,rfl,rfl,rfl,?_,Fr.refl _ _⟩
       have:s2 [x,y] = [x,y]:=by unfold s2; simp only; rw [if_neg hyx]
       rw [this]; exact h
     .exact bcEF (by decide) ⟨by decide,rfl,rfl,rfl,rfl,hE⟩
    .rintro σ m2 hE
     exact ⟨rfl,rfl,rfl,rfl,rfl,0,by omega,.inr ⟨by decide,rfl,hE,rfl⟩⟩
  .rw [h2]
   exact bcEF (by decide) ⟨rfl,rfl,rfl,hE⟩
 .rintro σ m' hE
  exact retP_of ⟨rfl,hE.1,hE.2⟩
end Go.Proofs.YtgjamnhjlaohaaaGreatDoor.S
namespace Go.Proofs.YtgjamnhjlaohaaaGreatDoor.V
open Go Go.Alog Go.Proofs.YtgjamnhjlaohaaaGreatDoor.T
variable (w0:World) (m:AM)
noncomputable abbrev cf162 (x0:Int) (R:RT):Vn (C_ w0 162 #[.int .u64 x0] m R):=mkF (F:=F162) Tryz.func162 (by dsimp only [push_cast,↓u1,↓u2,↓u3,Nat.reduceAdd,Nat.reduceBEq,Nat.reduceDiv,Nat.reduceMod]) (by kernel_rfl)
end Go.Proofs.YtgjamnhjlaohaaaGreatDoor.V
namespace Go.Proofs.YtgjamnhjlaohaaaGreatDoor.V
open Go Go.Alog Go.Proofs.YtgjamnhjlaohaaaGreatDoor.T
theorem len64_0 (w0:World) (m:AM) (R:Value->AM->Prop) (h:RetP R (.int .i64 0) m):CallsA Tryz.prog w0 191 #[.int .u64 0] m R :=
 have h':IntKind.u64=IntKind.u64/\IntKind.u64=IntKind.u64/\IntKind.u64=IntKind.u64/\IntKind.i64=IntKind.i64/\RetP R (.int .i64 0) m:=⟨rfl,rfl,rfl,rfl,h⟩
 callsA_of (c:=bodyOf Tryz.f191) (args:=[.int .u64 0]) (by kernel_rfl) Tryz.func191 (by kernel_rfl) (fun _=>[]) (by kernel_rfl) (by kernel_rfl) (cast (by kernel_rfl) h')
theorem len64_1 (w0:World) (m:AM) (R:Value->AM->Prop) (h:RetP R (.int .i64 1) m):CallsA Tryz.prog w0 191 #[.int .u64 1] m R :=
 have h':IntKind.u64=IntKind.u64/\IntKind.u64=IntKind.u64/\IntKind.u64=IntKind.u64/\IntKind.i64=IntKind.i64/\RetP R (.int .i64 1) m:=⟨rfl,rfl,rfl,rfl,h⟩
 callsA_of (c:=bodyOf Tryz.f191) (args:=[.int .u64 1]) (by kernel_rfl) Tryz.func191 (by kernel_rfl) (fun _=>[]) (by kernel_rfl) (by kernel_rfl) (cast (by kernel_rfl) h')
theorem len64_2 (w0:World) (m:AM) (R:Value->AM->Prop) (h:RetP R (.int .i64 2) m):CallsA Tryz.prog w0 191 #[.int .u64 2] m R :=
 have h':IntKind.u64=IntKind.u64/\IntKind.u64=IntKind.u64/\IntKind.u64=IntKind.u64/\IntKind.i64=IntKind.i64/\RetP R (.int .i64 2) m:=⟨rfl,rfl,rfl,rfl,h⟩
 callsA_of (c:=bodyOf Tryz.f191) (args:=[.int .u64 2]) (by kernel_rfl) Tryz.func191 (by kernel_rfl) (fun _=>[]) (by kernel_rfl) (by kernel_rfl) (cast (by kernel_rfl) h')
end Go.Proofs.YtgjamnhjlaohaaaGreatDoor.V
namespace Go.Proofs.YtgjamnhjlaohaaaGreatDoor.S
open Go Go.RowKit Go.Alog Go.Proofs.YtgjamnhjlaohaaaGreatDoor.T Go.Proofs.YtgjamnhjlaohaaaGreatDoor.V
theorem len_spec (w0:World) (m:AM) (n:Nat) (hn:n<=2):CallsA Tryz.prog w0 162 #[.int .u64 (IntKind.wrap .u64 (n:Int))] m (fun r m'=>r=.int .i64 n/\m'=m):=by
 match n,hn with
 | 0,_ =>
  refine cf162 w0 m _ _ ?_
  dsimp only [cf162,mkF]
  rw [show IntKind.wrap .u64 ((0:Nat):Int)=0 by decide]
  exact len64_0 w0 m _ (retP_of ⟨_,rfl,retP_of ⟨rfl,rfl⟩⟩)
 | 1,_ =>
  refine cf162 w0 m _ _ ?_
  dsimp only [cf162,mkF]
  rw [show IntKind.wrap .u64 ((1:Nat):Int)=1 by decide]
  exact len64_1 w0 m _ (retP_of ⟨_,rfl,retP_of ⟨rfl,rfl⟩⟩)
 | 2,_ =>
  refine cf162 w0 m _ _ ?_
  dsimp only [cf162,mkF]
  rw [show IntKind.wrap .u64 ((2:Nat):Int)=2 by decide]
  exact len64_2 w0 m _ (retP_of ⟨_,rfl,retP_of ⟨rfl,rfl⟩⟩)
theorem sort_spec (w0:World) (m:AM) (A:Option Addr) (c:Nat) (l:List Int) (hl:l.length<=2) (h:Own m w0.heap.size 3 1 A l.length c (intCells .i64 l)) :
  CallsA Tryz.prog w0 114 #[.slice A l.length c] m (fun r m'=>r=.tuple #[]/\Own m' w0.heap.size 3 1 A l.length c (intCells .i64 (s2 l))/\Fr m m' (obl A)):=by
 refine cf114 w0 m A l.length c _ ?_
 refine CallsA.mono (len_spec w0 m l.length hl) ?_
 rintro r m1 ⟨rfl,h1⟩
 replace h1:=h1.symm; subst h1
 refine ⟨_,rfl,?_⟩
 refine pdq_small w0 m A l.length c _ (by omega) _ ?_
 refine CallsA.mono (isort_spec w0 m A c l hl h) ?_
 rintro r m2 ⟨rfl,h2⟩
 exact ⟨rfl,retP_of ⟨rfl,retP_of ⟨rfl,h2⟩⟩⟩
theorem clear0 {B:Nat} {m:AM} {A:Option Addr} {c:Nat} {K:Value->AM->Prop} (h:K (.tuple #[]) m):awp Tryz.prog B (Builtin.clear_ #[33] 0 #[.slice A 0 c]) m K:=by
 cases A with
 | none=>exact cast (by kernel_rfl) h
 | some a=>exact cast (by kernel_rfl) h
theorem clear1 {B:Nat} {m:AM} {g o c:Nat} {K:Value->AM->Prop} (h:awp Tryz.prog B (storeCells ⟨g,o,none⟩ [.int .i64 0] 0) m (fun _ m'=>K (.tuple #[]) m')):awp Tryz.prog B (Builtin.clear_ #[33] 0 #[.slice (some ⟨g,o,none⟩) 1 c]) m K:=by
 have h2:=(awp_bind (P:=Tryz.prog) (B:=B) (storeCells ⟨g,o,none⟩ [.int .i64 0] 0) (fun _=>(pure (.tuple #[]):Sem Value)) m K).2 h
 exact cast (by kernel_rfl) h2
theorem clear2 {B:Nat} {m:AM} {g o c:Nat} {K:Value->AM->Prop} (h:awp Tryz.prog B (storeCells ⟨g,o,none⟩ [.int .i64 0,.int .i64 0] 0) m (fun _ m'=>K (.tuple #[]) m')):awp Tryz.prog B (Builtin.clear_ #[33] 0 #[.slice (some ⟨g,o,none⟩) 2 c]) m K:=by
 have h2:=(awp_bind (P:=Tryz.prog) (B:=B) (storeCells ⟨g,o,none⟩ [.int .i64 0,.int .i64 0] 0) (fun _=>(pure (.tuple #[]):Sem Value)) m K).2 h
 exact cast (by kernel_rfl) h2
theorem splice_take {cur:Array Value} {k:Nat} {l:List Value} (h:k<=cur.size):(splice cur k l).toList.take k=cur.toList.take k:=by
 unfold splice
 have:(cur.toList.take k).length=k:=by rw [List.length_take,Array.length_toList]; omega
 rw [List.append_assoc,List.take_append_of_le_length (by rw [this]; exact Nat.le_refl _),List.take_take,Nat.min_self]
theorem clear_tail {B:Nat} {m:AM} {A:Option Addr} {c:Nat} {l:List Int} (h:Own m B 3 1 A l.length c (intCells .i64 l)) {k:Nat} (hk:k<=l.length) (h2:l.length-k<=2) {K:Value->AM->Prop}
  (hK:∀ m',Own m' B 3 1 A k c (intCells .i64 (l.take k))->Fr m m' (obl A)->K (.tuple #[]) m') :
  awp Tryz.prog B (Builtin.clear_ #[33] 0 #[.slice (if c=k then A else Option.map (fun x=>Addr.add x (k*1)) A) (l.length-k) (c-k)]) m K:=by
 have pre:∀ (m':AM) (cur:Array Value) (g:Nat),A=some ⟨g,0,none⟩->B<=g->m' g=some (.cells cur 3)->cur.size=c*1->k<=c->cur.toList.take (k*1)=intCells .i64 (l.take k)->Own m' B 3 1 A k c (intCells .i64 (l.take k)):=by
  intro m' cur g hA hB hm hs hc ht
  exact ⟨by simp [intCells]; omega,hc,.inr ⟨g,cur,hA,hB,hm,hs,ht⟩⟩
 obtain ⟨h1,hc,⟨rfl,rfl⟩ | ⟨g,cur,rfl,hB,hm,hs,ht⟩⟩:=h
 .have:l.length=0:=by omega
  have hk0:k=0:=by omega
  subst hk0
  rw [this]
  refine clear0 (hK m ?_ (Fr.refl _ _))
  simpa [intCells] using Own.nil m B 3 1
 .have htk:cur.toList.take (k*1)=intCells .i64 (l.take k):=by
   have:=congrArg (List.take k) ht
   rw [List.take_take] at this
   rw [show k*1=min k (l.length*1) by omega,this]
   simp [intCells,List.map_take]
  have go:∀ zs:List Value,zs.length=l.length-k->(∀ v∈zs,v.oneCell'=true)->awp Tryz.prog B (storeCells ⟨g,0+k*1,none⟩ zs 0) m (fun _ m'=>K (.tuple #[]) m'):=by
   intro zs hz h1z
   refine store_list zs 0 (0+k*1) m cur _ hm hB h1z (by omega) ?_
   refine hK _ (pre _ _ g rfl hB upd_get_same (by rw [splice_size _ _ _ (by omega)]; exact hs) (by omega) ?_) (Fr.upd (Fr.refl _ _) (.inl (by simp [obl])) _)
   rw [show 0+k*1+0=k by omega,Nat.mul_one,splice_take (by omega),<- htk,Nat.mul_one]
  by_cases e0:l.length-k=0
  .rw [e0]
   exact clear0 (hK m (pre m cur g rfl hB hm hs (by omega) htk) (Fr.refl _ _))
  .rw [if_neg (by omega)]
   rw [Option.map_some,addn]
   rcases (show l.length-k=1\/l.length-k=2 by omega) with e | e
   .have:=go [.int .i64 0] (by simp [e]) (by intro v hv; simp at hv; rw [hv]; rfl)
    rw [e]
    exact clear1 this
   .have:=go [.int .i64 0,.int .i64 0] (by simp [e]) (by intro v hv; simp at hv; rw [hv]; rfl)
    rw [e]
    exact clear2 this
theorem del_spec (w0:World) (m:AM) (x:Int):CallsA Tryz.prog w0 124 #[.int .i64 x] m (fun r m'=>r=.bool (x == 0)/\m'=m) :=
 cf124 w0 m x _ ⟨rfl,retP_of ⟨rfl,rfl⟩⟩
theorem index_spec (w0:World) (m:AM) (B:Nat) (A:Option Addr) (c:Nat) (l:List Int) (hl:l.length<=1000) (h:Own m B 3 1 A l.length c (intCells .i64 l)) :
  CallsA Tryz.prog w0 158 #[.slice A l.length c,.func (.func 124) #[] #[]] m (fun r m'=>m'=m/\((r=.int .i64 (-1)/\∀ x∈l,x≠0)\/∃ k:Nat,r=.int .i64 k/\k<l.length/\l.getD k 0=0/\∀ j,j<k->l.getD j 0≠0)):=by
 refine cf158 w0 m A l.length c _ ?_
 dsimp only [cf158,mkF]
 refine vl158_1010 w0 m _ _ A l.length c l.length 0 (fun k i m'=>m'=m/\0<=i/\i<=l.length/\(k:Int)=l.length-i/\∀ j,j<i.toNat->l.getD j 0≠0) (fun m'=>m'=m/\∀ j,j<l.length->l.getD j 0≠0) l.length rfl rfl rfl rfl ⟨rfl,by omega,by omega,by omega,fun j hj=>by omega⟩ ?_ ?_
 .rintro k σ i m' ⟨rfl,i0,i1,hk,hp⟩
  refine ⟨rfl,?_⟩
  by_cases c1:i<l.length
  .refine bcET (decide_eq_true c1) ⟨⟨i0,c1⟩,?_⟩
   obtain ⟨ad,rfl,hc⟩:=h.ex (by omega)
   rw [nilO_some]
   refine ⟨_,cell_k hc i0 c1,?_⟩
   refine CallsA.mono (del_spec w0 m' _) ?_
   rintro r m3 ⟨rfl,h3⟩
   replace h3:=h3.symm; subst h3
   refine ⟨_,rfl,?_⟩
   by_cases hz:l.getD i.toNat 0=0
   .refine bcET (by rw [hz]; rfl) (retP_of ⟨rfl,.inr ⟨i.toNat,?_,by omega,hz,hp⟩⟩)
    rw [show ((i.toNat:Nat):Int)=i by omega]
   .have w:IntKind.wrap .i64 (i+1)=i+1:=by rw [IntKind.wrap_i64]; omega
    refine bcEF (by simpa using hz) ⟨rfl,rfl,rfl,rfl,rfl,k-1,by omega,?_⟩
    rw [w]
    refine ⟨rfl,by omega,by omega,by omega,fun j hj=>?_⟩
    by_cases e:j=i.toNat
    .rw [e]; exact hz
    .exact hp j (by omega)
  .exact bcEF (decide_eq_false c1) ⟨rfl,rfl,rfl,rfl,fun j hj=>hp j (by omega)⟩
 .rintro σ m' ⟨rfl,hp⟩
  refine retP_of ⟨rfl,.inl ⟨rfl,fun x hx=>?_⟩⟩
  obtain ⟨j,hj,rfl⟩:=List.mem_iff_getElem.1 hx
  have:=hp j hj
  simpa [List.getD,hj] using this
def nz (l:List Int):List Int:=l.filter (fun x=>x != 0)
theorem delete_spec (w0:World) (m:AM) (A:Option Addr) (c:Nat) (l:List Int) (hl:l.length<=2) (h:Own m w0.heap.size 3 1 A l.length c (intCells .i64 l)) :
  CallsA Tryz.prog w0 110 #[.slice A l.length c,.func (.func 124) #[] #[]] m (fun r m'=>r=.slice A (nz l).length c/\Own m' w0.heap.size 3 1 A (nz l).length c (intCells .i64 (nz l))/\Fr m m' (obl A)):=by
 refine cf110 w0 m A l.length c _ ?_
 refine CallsA.mono (index_spec w0 m _ A c l (by omega) h) ?_
 rintro r m1 ⟨h1,hr⟩
 replace h1:=h1.symm; subst h1
 rcases hr with ⟨rfl,hnz⟩ | ⟨k,rfl,hk,hz,hp⟩
 .refine ⟨_,rfl,rfl,bcET (by decide) (retP_of ?_)⟩
  have:nz l=l:=by unfold nz; rw [List.filter_eq_self]; intro x hx; simpa using hnz x hx
  rw [this]
  exact ⟨rfl,h,Fr.refl _ _⟩
 .have hcap:=h.2.1
  refine ⟨_,rfl,rfl,bcEF (by simp) ⟨rfl,?_⟩⟩
  have wk:IntKind.wrap .i64 ((k:Int)+1)=k+1:=by rw [IntKind.wrap_i64]; omega
  rw [wk]
  have tk:nz (l.take (k+1))=l.take k:=by
   have hlt:k<l.length:=hk
   rw [<- List.take_append_getElem hlt]
   have e0:l[k]=0:=by simpa [List.getD,hlt] using hz
   unfold nz
   rw [List.filter_append,e0]
   simp only [List.filter_cons,List.filter_nil]
   rw [if_neg (by simp),List.append_nil,List.filter_eq_self]
   intro x hx
   obtain ⟨j,hj,rfl⟩:=List.mem_iff_getElem.1 hx
   rw [List.length_take] at hj
   have:=hp j (by omega)
   rw [List.getElem_take]
   simpa [List.getD,show j<l.length by omega] using this
  refine vl110_111010 w0 m _ _ A l.length c (k:Int) ((k:Int)+1)
   (fun n i j m'=>∃ l':List Int,l'.length=l.length/\Own m' w0.heap.size 3 1 A l.length c (intCells .i64 l')/\Fr m m' (obl A)/\0<=i/\i<j/\j<=l.length/\(n:Int)=l.length-j/\l'.take i.toNat=nz (l.take j.toNat)/\∀ q,j.toNat<=q->l'.getD q 0=l.getD q 0)
   (fun i m'=>∃ l':List Int,l'.length=l.length/\Own m' w0.heap.size 3 1 A l.length c (intCells .i64 l')/\Fr m m' (obl A)/\0<=i/\i<=l.length/\l'.take i.toNat=nz l) (l.length-(k+1)) rfl rfl rfl rfl
   ⟨l,rfl,h,Fr.refl _ _,by omega,by omega,by omega,by omega,by rw [show ((k:Int)+1).toNat=k+1 by omega,tk]; simp,fun _ _=>rfl⟩ ?_ ?_
  .rintro n σ i j m' ⟨l',hl',ho,hf,i0,ij,jn,hn,ht,hq⟩
   refine ⟨rfl,?_⟩
   by_cases c1:j<l.length
   .refine bcET (decide_eq_true c1) ⟨⟨by omega,c1⟩,?_⟩
    obtain ⟨ad,rfl,hc⟩:=ho.ex (by omega)
    rw [nilO_some]
    have hcell:=cell_k hc (i:=j) (by omega) (by omega)
    refine ⟨_,hcell,?_⟩
    refine CallsA.mono (del_spec w0 m' _) ?_
    rintro r m3 ⟨rfl,h3⟩
    replace h3:=h3.symm; subst h3
    refine ⟨_,rfl,?_⟩
    have wj:IntKind.wrap .i64 (j+1)=j+1:=by rw [IntKind.wrap_i64]; omega
    have wi:IntKind.wrap .i64 (i+1)=i+1:=by rw [IntKind.wrap_i64]; omega
    have hjl:j.toNat<l.length:=by omega
    have hv:l'.getD j.toNat 0=l[j.toNat]:=by rw [hq _ (Nat.le_refl _)]; simp [List.getD,hjl]
    have htk:nz (l.take (j+1).toNat)=nz (l.take j.toNat) ++ nz [l[j.toNat]]:=by
     rw [show (j+1).toNat=j.toNat+1 by omega,<- List.take_append_getElem hjl]
     unfold nz; rw [List.filter_append]
    rw [hv]
    by_cases hz2:l[j.toNat]=0
    .refine bcEF (by rw [hz2]; rfl) ⟨rfl,rfl,rfl,rfl,rfl,n-1,by omega,?_⟩
     rw [wj]
     refine ⟨l',hl',ho,hf,i0,by omega,by omega,by omega,?_,fun q hq2=>hq q (by omega)⟩
     rw [htk,hz2,ht]; simp [nz]
    .refine bcET (by simpa using hz2) ⟨⟨i0,by omega⟩,?_⟩
     rw [nilO_some]
     rw [<- hl'] at ho
     refine own_set ho (k:=i.toNat) (by omega) _ fun m4 o4 f4=>⟨rfl,rfl,rfl,rfl,rfl,rfl,n-1,by omega,?_⟩
     rw [wi,wj]
     rw [hl'] at o4
     refine ⟨l'.set i.toNat l[j.toNat],by simp [hl'],o4,hf.trans f4 fun _ h=>.inl h,by omega,by omega,by omega,by omega,?_,fun q hq2=>?_⟩
     .rw [htk,<- ht,show (i+1).toNat=i.toNat+1 by omega]
      have hil:i.toNat<(l'.set i.toNat l[j.toNat]).length:=by simp; omega
      rw [<- List.take_append_getElem hil]
      simp [nz,hz2,List.take_set_of_le]
     .have:i.toNat≠q:=by omega
      rw [<- hq q (by omega)]
      simp [List.getD,List.getElem?_set_ne this]
   .refine bcEF (decide_eq_false c1) ⟨rfl,rfl,rfl,l',hl',ho,hf,i0,by omega,?_⟩
    rw [ht,List.take_of_length_le (by omega)]
  .rintro σ i m' ⟨l',hl',ho,hf,i0,il,ht⟩
   refine ⟨i0,hcap,by omega,?_⟩
   rw [<- hl'] at ho ⊢
   refine clear_tail ho (k:=i.toNat) (by omega) (by omega) fun m5 o5 f5=>⟨rfl,i0,by omega,by omega,retP_of ?_⟩
   have hlen:(nz l).length=i.toNat:=by rw [<- ht,List.length_take]; omega
   have hA:(if c=0 then A else Option.map (fun x=>Addr.add x (0*1)) A)=A:=by
    split
    .rfl
    .cases A with
     | none=>rfl
     | some ad=>simp [Addr.add]
   rw [hA,hlen,<- ht]
   exact ⟨rfl,o5,hf.trans f5 fun _ h=>.inl h⟩
def dd (l:List Int):List Int:=match l with
 | [x,y]=>if y=x then [x] else [x,y]
 | l=>l
theorem compact_spec (w0 : World) (m : AM) (A : Option Addr) (c : Nat) (l : List Int) (hl : l.length <= 2) (h : Own m w0.heap.size 3 1 A l.length c (intCells .i64 l)) :
    CallsA Tryz.prog w0 125 #[.slice A l.length c] m (fun r m' => r = .slice A (dd l).length c /\ Own m' w0.heap.size 3 1 A (dd l).length c (intCells .i64 (dd l)) /\ Fr m m' (obl A)) := by
  have hcap := h.2.1
  refine cf125 w0 m A l.length c _ ⟨rfl, ?_⟩
  refine bcP (fun hn => retP_of ?_) fun hn => ?_
  . have : dd l = l := by
      match l, hn with
      | [], _ => rfl
      | [x], _ => rfl
      | x :: y :: t, h => simp at h; omega
    rw [this]; exact ⟨rfl, h, Fr.refl _ _⟩
  obtain ⟨x, y, rfl⟩ : ∃ x y, l = [x, y] := by
    match l, hl, hn with
    | [], _, h3 => simp at h3
    | [x], _, h3 => simp at h3
    | [x, y], _, _ => exact ⟨x, y, rfl⟩
  obtain ⟨ad, rfl, hc⟩ := h.ex (by simp)
  let E : AM -> Prop := fun m' => m' = m /\ y ≠ x
  let I : Nat -> Int -> AM -> Prop := fun k i m' => (i = 1 /\ m' = m /\ k = 1) \/ (i = 2 /\ E m' /\ k = 0)
  refine vl125_11010 w0 m _ _ (some ad) 2 c 1 I E 1 rfl rfl (.inl ⟨rfl, rfl, rfl⟩) ?_ ?_
  . rintro k σ i m' hI
    refine ⟨rfl, ?_⟩
    rcases hI with ⟨rfl, rfl, rfl⟩ | ⟨rfl, hE, rfl⟩
    . have w0' : IntKind.wrap .i64 (1 - 1) = 0 := by decide
      refine bcET (by decide) ⟨⟨by decide, by decide⟩, ?_⟩
      rw [nilO_some, w0']
      refine ⟨_, hc 1 _ rfl, rfl, ⟨by decide, by decide⟩, ?_⟩
      rw [nilO_some]
      refine ⟨_, hc 0 _ rfl, rfl, bcI (fun he => ?_) fun he => ?_⟩
      . have he : y = x := by simpa using he
        refine ⟨by decide, hcap, by decide, ?_⟩
        refine Vn.f (Vn.f (vl125_110100100101010 w0 m' _ _ 1 I E (some ad) 2 c _ _ _ 1 1 (fun _ i k m2 => i = 1 /\ k = 1 /\ m2 = m') (fun i m2 => i = 1 /\ m2 = m') 0 rfl rfl rfl rfl ⟨rfl, rfl, rfl⟩) ?_) ?_
        . rintro n σ i k m2 ⟨rfl, rfl, rfl⟩
          exact ⟨rfl, bcEF (by decide) ⟨rfl, rfl, rfl, rfl, rfl⟩⟩
        . rintro σ i m2 ⟨rfl, rfl⟩
          refine ⟨by decide, hcap, by decide, ?_⟩
          refine clear_tail (l := [x, y]) h (k := 1) (by simp) (by simp) fun m3 o3 f3 => ⟨rfl, by decide, ?_, by decide, retP_of ?_⟩
          . have : (2 : Nat) <= c := hcap
            show (1 : Nat) <= c
            omega
          . have hd : dd [x, y] = [x] := by unfold dd; simp only; rw [if_pos he]
            rw [hd]
            refine ⟨?_, o3, f3⟩
            rw [if_neg (by have : (2 : Nat) <= c := hcap
                           omega)]
            simp [Addr.add]
      . have he : ¬ y = x := by simpa using he
        refine ⟨rfl, rfl, rfl, 0, by omega, .inr ⟨by decide, ⟨rfl, he⟩, rfl⟩⟩
    . exact bcEF (by decide) ⟨rfl, hE⟩
  . rintro σ m' ⟨rfl, hE⟩
    have hd : dd [x, y] = [x, y] := by unfold dd; simp only; rw [if_neg hE]
    rw [hd]
    exact retP_of ⟨rfl, h, Fr.refl _ _⟩
def fieldL (i:Ins):List Int :=
 if 1<=i.op/\i.op<=9 then [i.b,i.c] else if i.op=10\/i.op=12 then [i.b] else if i.op=13\/i.op=15\/i.op=16 then [i.a,i.b] else if i.op=14\/i.op=19 then [i.a] else if i.op=20/\i.imm=2 then [4] else []
abbrev wrLE (w0:World) (v:Int) (L:List Int) (m0:AM) (r:Value) (m':AM):Prop:=(∃ (A:Option Addr) (c:Nat),r=.tuple #[.slice A L.length c,.int .i64 v]/\Own m' w0.heap.size 3 1 A L.length c (intCells .i64 L)/\∀ k∈obl A,m0 k=none)/\m0.le m'
theorem fields2_spec (w0 : World) (m0 : AM) (i : Ins) : CallsA Tryz.prog w0 122 #[i.val] m0 (wrLE w0 (fieldW i) (fieldL i) m0) := by
  generalize hR : wrLE w0 (fieldW i) (fieldL i) m0 = R
  refine cf122 w0 m0 _ _ _ _ _ _ ?_
  intro b hb hm M
  have l : m0.le M := le_new hm _
  have p : M b = some (.cells i.cells.toArray 57) := upd_get_same
  clear_value M
  refine ⟨_, cel p rfl, ?_⟩
  have retN : ∀ (v : Int), fieldW i = v -> fieldL i = [] -> ∀ m', m0.le m' -> RetP R (.tuple #[.slice none 0 0, .int .i64 v]) m' := fun v e e2 m' l' => retP_of (by
    rw [<- hR]
    refine ⟨⟨none, 0, by rw [e, e2]; rfl, ?_, fun k hk => by simp [obl] at hk⟩, l'⟩
    rw [e2]; exact Own.nil m' w0.heap.size 3 1)
  have fresh : ∀ {mm : AM} {b' : Nat}, m0.le mm -> mm b' = none -> m0 b' = none := fun hl hn => by
    cases hx : m0 _ with
    | none => rfl
    | some o => rw [hl _ _ hx] at hn; cases hn
  have retL : ∀ (v : Int) (L : List Int), fieldW i = v -> fieldL i = L -> ∀ (mm : AM) (b' : Nat), m0.le mm -> w0.heap.size <= b' -> mm b' = none -> RetP R (.tuple #[.slice (some ⟨b', 0, none⟩) L.length L.length, .int .i64 v]) (mm.upd b' (.cells (intCells .i64 L).toArray 3)) := fun v L e e2 mm b' l' hb' hm' => retP_of (by
    rw [<- hR]
    refine ⟨⟨_, L.length, by rw [e, e2], ?_, fun k hk => ?_⟩, AM.le_trans l' (le_new hm' _)⟩
    . rw [e2]; exact Own.new mm hb' 3 1 L.length (intCells .i64 L) (by simp [intCells])
    . simp [obl] at hk; subst hk; exact fresh l' hm')
  have K3 : ∀ (m : AM) (σ : Sg) (x : Bool), m = M -> σ 1 = .pointer (some ⟨b, 0, none⟩) -> σ 5 = .int .i64 i.op -> σ 35 = .bool x -> x = decide (i.op = 13 \/ i.op = 15 \/ i.op = 16) -> ¬ (1 <= i.op /\ i.op <= 12) -> (XV w0 F122 (Tz R) 3455 σ m) := by
    intro m σ x hm' h1 h5 h35 hx hno
    subst hm'
    refine vk122_10101111111 w0 m σ R b i.op x h1 h5 h35 ?_
    dsimp only [vk122_10101111111, mkK]
    have fw : fieldW i = if i.op = 18 then 31 else if i.op = 20 /\ i.imm = 1 then 4 else 0 := by unfold fieldW; rw [if_neg hno]
    have fl : fieldL i = if i.op = 13 \/ i.op = 15 \/ i.op = 16 then [i.a, i.b] else if i.op = 14 \/ i.op = 19 then [i.a] else if i.op = 20 /\ i.imm = 2 then [4] else [] := by unfold fieldL; rw [if_neg (by omega), if_neg (by omega)]
    refine bcI (fun h => ?_) fun h => ?_
    . rw [hx] at h
      have h := of_decide_eq_true h
      refine ⟨_, cel p rfl, _, cel p rfl, rfl, fun b' hb' hm' => retL 0 [i.a, i.b] (by rw [fw, if_neg (by omega), if_neg (by omega)]) (by rw [fl, if_pos h]) _ _ l hb' hm'⟩
    rw [hx] at h
    have h := of_decide_eq_false h
    have one : ∀ v, fieldW i = v -> fieldL i = [i.a] -> ∃ i18 : Int, m.cell ⟨b, 1, none⟩ = some (.int .i64 i18) /\ true = true /\ ∀ b19 : Nat, w0.heap.size <= b19 -> m b19 = none -> let m20 := AM.upd m b19 (.cells #[.int .i64 i18] 3); RetP R (.tuple #[.slice (some ⟨b19, 0, none⟩) 1 1, .int .i64 v]) m20 := fun v e e2 => ⟨_, cel p rfl, rfl, fun b' hb' hm' => retL v [i.a] e e2 _ _ l hb' hm'⟩
    have tail : i.op ≠ 14 -> i.op ≠ 19 -> IntKind.i64 = IntKind.i64 /\ (bcase (i.op == 18) (RetP R (.tuple #[.slice none 0 0, .int .i64 31]) m) (IntKind.i64 = IntKind.i64 /\ (bcase (i.op == 20) (∃ i21 : Int, m.cell ⟨b, 4, none⟩ = some (.int .i64 i21) /\ CallsA Tryz.prog w0 164 #[.int .i64 i21] m fun r26 m27 => ∃ (A22 : Option Addr) (n23 c24 : Nat), ∃ i25 : Int, r26 = .tuple #[.slice A22 n23 c24, .int .i64 i25] /\ RetP R (.tuple #[.slice A22 n23 c24, .int .i64 i25]) m27) (RetP R (.tuple #[.slice none 0 0, .int .i64 0]) m)))) := by
      intro n14 n19
      have fl2 : fieldL i = if i.op = 20 /\ i.imm = 2 then [4] else [] := by rw [fl, if_neg h, if_neg (by omega)]
      refine ⟨rfl, bcI (fun h8 => retN _ (by rw [fw, if_pos (by simpa using h8)]) (by rw [fl2, if_neg (by simp at h8; omega)]) _ l) fun h8 => ⟨rfl, bcI (fun h20 => ?_) fun h20 => retN _ (by rw [fw, if_neg (by simpa using h8), if_neg (by simp at h20; omega)]) (by rw [fl2, if_neg (by simp at h20; omega)]) _ l⟩⟩
      refine ⟨_, cel p rfl, ?_⟩
      have e20 : i.op = 20 := by simpa using h20
      have fw2 : fieldW i = if i.imm = 1 then 4 else 0 := by
        rw [fw, if_neg (by simpa using h8)]
        by_cases e : i.imm = 1
        . rw [if_pos ⟨e20, e⟩, if_pos e]
        . rw [if_neg (fun hh => e hh.2), if_neg e]
      have fl3 : fieldL i = if i.imm = 2 then [4] else [] := by
        rw [fl2]
        by_cases e : i.imm = 2
        . rw [if_pos ⟨e20, e⟩, if_pos e]
        . rw [if_neg (fun hh => e hh.2), if_neg e]
      refine cf164 w0 m i.imm _ ⟨rfl, bcI (fun h1 => ?_) fun h1 => ⟨rfl, bcI (fun h2 => ⟨rfl, fun b' hb' hm' => ?_⟩) fun h2 => ?_⟩⟩
      . have e : i.imm = 1 := by simpa using h1
        exact retP_of ⟨_, _, _, _, rfl, retN _ (by rw [fw2, if_pos e]) (by rw [fl3, if_neg (by omega)]) _ l⟩
      . have e : i.imm = 2 := by simpa using h2
        exact retP_of ⟨_, _, _, _, rfl, retL 0 [4] (by rw [fw2, if_neg (by omega)]) (by rw [fl3, if_pos e]) _ _ l hb' hm'⟩
      . have e : i.imm ≠ 1 := by simpa using h1
        have e2 : i.imm ≠ 2 := by simpa using h2
        exact retP_of ⟨_, _, _, _, rfl, retN _ (by rw [fw2, if_neg e]) (by rw [fl3, if_neg e2]) _ l⟩
    refine ⟨rfl, bcI (fun h14 => ?_) fun h14 => ⟨rfl, bcI (fun h19 => ?_) fun h19 => ?_⟩⟩
    . have : i.op = 14 := by simpa using h14
      exact bcET h14 (one 0 (by rw [fw, if_neg (by omega), if_neg (by omega)]) (by rw [fl, if_neg h, if_pos (.inl this)]))
    . have : i.op = 19 := by simpa using h19
      exact one 0 (by rw [fw, if_neg (by omega), if_neg (by omega)]) (by rw [fl, if_neg h, if_pos (.inr this)])
    . exact tail (by simpa using h14) (by simpa using h19)
  have K2 : ∀ (m : AM) (σ : Sg) (x : Bool), m = M -> σ 1 = .pointer (some ⟨b, 0, none⟩) -> σ 5 = .int .i64 i.op -> σ 23 = .bool x -> x = decide (i.op = 10 \/ i.op = 12) -> ¬ (1 <= i.op /\ i.op <= 9) -> (XV w0 F122 (Tz R) 215 σ m) := by
    intro m σ x hm' h1 h5 h23 hx hno
    subst hm'
    refine vk122_1010111 w0 m σ R b i.op x h1 h5 h23 ?_
    refine bcI (fun h => ?_) fun h => ?_
    . rw [hx] at h
      have h := of_decide_eq_true h
      refine vr122_101011100 w0 m _ R b (fun A n c v m' => v = i.a /\ m0.le m' /\ n = 1 /\ Own m' w0.heap.size 3 1 A n c (intCells .i64 [i.b]) /\ ∀ k ∈ obl A, m0 k = none) rfl ?_ ?_
      . exact ⟨_, cel p rfl, _, cel p rfl, rfl, fun b' hb' hm' => ⟨rfl, rfl, rfl, rfl, AM.le_trans l (le_new hm' _), rfl, Own.new m hb' 3 1 1 (intCells .i64 [i.b]) rfl, fun k hk => by simp [obl] at hk; subst hk; exact fresh l hm'⟩⟩
      . rintro σ' A n c v m' ⟨rfl, l', rfl, o', f'⟩
        exact retP_of (by
          rw [<- hR]
          have e2 : fieldL i = [i.b] := (by unfold fieldL; rw [if_neg (by omega), if_pos h])
          refine ⟨⟨A, c, ?_, ?_, f'⟩, l'⟩
          . rw [e2]; unfold fieldW; rw [if_pos (by omega)]; rfl
          . rw [e2]; exact o')
    rw [hx] at h
    have h := of_decide_eq_false h
    refine ⟨rfl, bcI (fun h11 => ?_) fun h11 => ?_⟩
    . have : i.op = 11 := by simpa using h11
      exact ⟨_, cel p rfl, retN _ (by unfold fieldW; rw [if_pos (by omega)]) (by unfold fieldL; rw [if_neg (by omega), if_neg (by omega), if_neg (by omega), if_neg (by omega), if_neg (by omega)]) _ l⟩
    have n11 : i.op ≠ 11 := by simpa using h11
    refine ⟨rfl, bcI (fun h13 => ?_) fun h13 => ⟨rfl, bcI (fun h15 => ?_) fun h15 => ⟨rfl, ?_⟩⟩⟩
    . exact K3 m _ (i.op == 13) rfl rfl rfl rfl (by have : i.op = 13 := by simpa using h13
                                                    simp [this]) (by omega)
    . exact K3 m _ (i.op == 15) rfl rfl rfl rfl (by have : i.op = 15 := by simpa using h15
                                                    simp [this]) (by omega)
    . refine K3 m _ (i.op == 16) rfl rfl rfl rfl ?_ (by omega)
      have a1 : i.op ≠ 13 := by simpa using h13
      have a2 : i.op ≠ 15 := by simpa using h15
      by_cases e : i.op = 16 <;> simp [e, a1, a2]
  have K1 : ∀ (m : AM) (σ : Sg) (x : Bool), m = M -> σ 1 = .pointer (some ⟨b, 0, none⟩) -> σ 5 = .int .i64 i.op -> σ 6 = .bool x -> x = decide (1 <= i.op /\ i.op <= 9) -> (XV w0 F122 (Tz R) 53 σ m) := by
    intro m σ x hm' h1 h5 h6 hx
    subst hm'
    refine vk122_10101 w0 m σ R b i.op x h1 h5 h6 ?_
    refine bcI (fun h => ?_) fun h => ?_
    . rw [hx] at h
      have h := of_decide_eq_true h
      refine vr122_1010100 w0 m _ R b (fun A n c v m' => v = i.a /\ m0.le m' /\ n = 2 /\ Own m' w0.heap.size 3 1 A n c (intCells .i64 [i.b, i.c]) /\ ∀ k ∈ obl A, m0 k = none) rfl ?_ ?_
      . exact ⟨_, cel p rfl, _, cel p rfl, _, cel p rfl, rfl, fun b' hb' hm' => ⟨rfl, rfl, rfl, rfl, AM.le_trans l (le_new hm' _), rfl, Own.new m hb' 3 1 2 (intCells .i64 [i.b, i.c]) rfl, fun k hk => by simp [obl] at hk; subst hk; exact fresh l hm'⟩⟩
      . rintro σ' A n c v m' ⟨rfl, l', rfl, o', f'⟩
        exact retP_of (by
          rw [<- hR]
          have e2 : fieldL i = [i.b, i.c] := (by unfold fieldL; rw [if_pos h])
          refine ⟨⟨A, c, ?_, ?_, f'⟩, l'⟩
          . rw [e2]; unfold fieldW; rw [if_pos (by omega)]; rfl
          . rw [e2]; exact o')
    rw [hx] at h
    have h := of_decide_eq_false h
    refine ⟨rfl, bcI (fun h10 => ?_) fun h10 => ⟨rfl, ?_⟩⟩
    . exact K2 m _ (i.op == 10) rfl rfl rfl rfl (by have : i.op = 10 := by simpa using h10
                                                    simp [this]) h
    . refine K2 m _ (i.op == 12) rfl rfl rfl rfl ?_ h
      have a1 : i.op ≠ 10 := by simpa using h10
      by_cases e : i.op = 12 <;> simp [e, a1]
  have go : ∀ (σ : Sg) (k : Int), σ 1 = .pointer (some ⟨b, 0, none⟩) -> σ 5 = .int .i64 i.op -> σ 6 = .bool (i.op == k) -> 1 <= k -> k <= 9 -> (i.op == k) = true -> ∀ m, m = M -> (XV w0 F122 (Tz R) 53 σ m) := by
    intro σ k h1 h5 h6 hk1 hk2 he m hm'
    refine K1 m σ _ hm' h1 h5 h6 ?_
    have : i.op = k := by simpa using he
    rw [he]
    exact (decide_eq_true ⟨by omega, by omega⟩).symm
  refine ⟨rfl, bcI (fun h => go _ 1 rfl rfl rfl (by omega) (by omega) h _ rfl) fun h1 => ?_⟩
  refine ⟨rfl, bcI (fun h => go _ 2 rfl rfl rfl (by omega) (by omega) h _ rfl) fun h2 => ?_⟩
  refine ⟨rfl, bcI (fun h => go _ 3 rfl rfl rfl (by omega) (by omega) h _ rfl) fun h3 => ?_⟩
  refine ⟨rfl, bcI (fun h => go _ 4 rfl rfl rfl (by omega) (by omega) h _ rfl) fun h4 => ?_⟩
  refine ⟨rfl, bcI (fun h => go _ 5 rfl rfl rfl (by omega) (by omega) h _ rfl) fun h5 => ?_⟩
  refine ⟨rfl, bcI (fun h => go _ 6 rfl rfl rfl (by omega) (by omega) h _ rfl) fun h6 => ?_⟩
  refine ⟨rfl, bcI (fun h => go _ 7 rfl rfl rfl (by omega) (by omega) h _ rfl) fun h7 => ?_⟩
  refine ⟨rfl, bcI (fun h => go _ 8 rfl rfl rfl (by omega) (by omega) h _ rfl) fun h8 => ⟨rfl, ?_⟩⟩
  refine K1 _ _ (i.op == 9) rfl rfl rfl rfl ?_
  simp only [beq_eq_false_iff_ne, ne_eq] at h1 h2 h3 h4 h5 h6 h7 h8
  by_cases e : i.op = 9
  . simp [e]
  . rw [beq_eq_false_iff_ne.2 e]
    exact (decide_eq_false (by omega)).symm
def readsL (i:Ins):List Int:=if rightR i=true then dd (s2 (nz (fieldL i))) else []
theorem low_fresh {m m1 m2:AM} {A:Option Addr} (h:m.le m1) (hf:Fr m1 m2 (obl A)) (hn:∀ k∈obl A,m k=none):m.le m2:=fun k o hk=>hf k o (h k o hk) fun hin=>by rw [hn k hin] at hk; cases hk
theorem fieldL_len (i:Ins):(fieldL i).length<=2:=by
 unfold fieldL
 repeat' split
 all_goals simp
theorem nz_len (l:List Int):(nz l).length<=l.length:=List.length_filter_le _ _
theorem s2_len (l:List Int):(s2 l).length=l.length:=by
 unfold s2
 split
 .split <;> rfl
 .rfl
theorem reads_spec (w0:World) (m:AM) (i:Ins):CallsA Tryz.prog w0 77 #[i.val] m (fun r m'=>(∃ (A:Option Addr) (c:Nat),r=.slice A (readsL i).length c/\Own m' w0.heap.size 3 1 A (readsL i).length c (intCells .i64 (readsL i))/\∀ k∈obl A,m k=none)/\m.le m'):=by
 refine cf77 w0 m _ _ _ _ _ _ ?_
 intro b hb hm M
 have l:m.le M:=le_new hm _
 have p:M b=some (.cells i.cells.toArray 57):=upd_get_same
 clear_value M
 refine ⟨_,cel p rfl,_,cel p rfl,_,cel p rfl,_,cel p rfl,_,cel p rfl,?_⟩
 refine CallsA.mono (isaRight w0 M i) ?_
 rintro r m2 ⟨rfl,l2⟩
 refine ⟨_,rfl,?_⟩
 have p2:=l2 _ _ p
 have L:=AM.le_trans l l2
 cases hr:rightR i
 .refine bcET (by rfl) (retP_of ?_)
  have:readsL i = []:=by unfold readsL; rw [hr]; rfl
  rw [this]
  exact ⟨⟨none,0,rfl,Own.nil _ _ _ _,fun k hk=>by simp [obl] at hk⟩,L⟩
 .refine bcEF (by rfl) ?_
  refine ⟨_,cel p2 rfl,_,cel p2 rfl,_,cel p2 rfl,_,cel p2 rfl,_,cel p2 rfl,?_⟩
  refine CallsA.mono (fields2_spec w0 m2 i) ?_
  rintro r m3 ⟨⟨A,c,rfl,o3,f3⟩,l3⟩
  have f3:∀ k∈obl A,m k=none:=fun k hk=>by
   cases hx:m k with
   | none=>rfl
   | some o=>have:=L _ _ hx; rw [f3 k hk] at this; cases this
  have L3:=AM.le_trans L l3
  refine ⟨_,_,_,_,rfl,?_⟩
  refine CallsA.mono (delete_spec w0 m3 A c _ (fieldL_len i) o3) ?_
  rintro r m4 ⟨rfl,o4,h4⟩
  have n2:(nz (fieldL i)).length<=2:=Nat.le_trans (nz_len _) (fieldL_len i)
  refine ⟨_,_,_,rfl,?_⟩
  refine CallsA.mono (sort_spec w0 m4 A c _ n2 o4) ?_
  rintro r m5 ⟨rfl,o5,h5⟩
  refine ⟨rfl,?_⟩
  rw [<- s2_len] at o5 ⊢
  refine CallsA.mono (compact_spec w0 m5 A c _ (by rw [s2_len]; exact n2) o5) ?_
  rintro r m6 ⟨rfl,o6,h6⟩
  have:readsL i=dd (s2 (nz (fieldL i))):=by unfold readsL; rw [hr]; rfl
  refine ⟨_,_,_,rfl,retP_of ?_⟩
  rw [this]
  refine ⟨⟨A,c,rfl,o6,f3⟩,?_⟩
  exact low_fresh (low_fresh (low_fresh L3 h4 f3) h5 f3) h6 f3
theorem iloop_lt {l:List Int} {i:Int} (h0:0<=i) (h:i<l.length):i.toNat<l.length:=by omega
theorem ix_spec (w0:World) (m:AM) (A:Option Addr) (c:Nat) (l:List Int) (x:Int) (hl:l.length<=1000000) (h:Reads m 1 A l.length (intCells .i64 l)) :
  CallsA Tryz.prog w0 76 #[.slice A l.length c,.int .i64 x] m (fun r m'=>r=.bool (l.contains x)/\m'=m):=by
 refine cf76 w0 m A l.length c x _ ?_
 refine CallsA.mono (R:=fun r m'=>m'=m/\∃ q:Int,r=.int .i64 q/\decide (q>=0)=l.contains x) ?_ ?_
 .refine cf123 w0 m A l.length c x _ ?_
  dsimp only [cf123,mkF]
  refine vl123_1010 w0 m _ _ A l.length c x l.length 0 (fun k i m'=>m'=m/\0<=i/\i<=l.length/\(k:Int)=l.length-i/\x∉l.take i.toNat) (fun m'=>m'=m/\x∉l) l.length rfl rfl rfl rfl ⟨rfl,by omega,by omega,by omega,by simp⟩ ?_ ?_
  .rintro k σ i m' ⟨rfl,i0,i1,hk,hp⟩
   refine ⟨rfl,bcP (fun c1=>⟨⟨i0,c1⟩,?_⟩) fun c1=>⟨rfl,?_⟩⟩
   .obtain ⟨ad,rfl,hc⟩:=h.ex (by omega)
    rw [nilO_some]
    refine ⟨_,cell_k hc i0 c1,rfl,?_⟩
    have hi:i.toNat<l.length:=iloop_lt i0 c1
    have e:l.getD i.toNat 0=l[i.toNat]:=by simp [List.getD,hi]
    rw [e]
    refine bcI (fun hz=>retP_of ⟨rfl,_,rfl,?_⟩) fun hz=>⟨rfl,rfl,rfl,rfl,rfl,k-1,by omega,?_⟩
    .have hz:x=l[i.toNat]:=by simpa using hz
     rw [decide_eq_true i0]
     have:x∈l:=by rw [hz]; exact List.getElem_mem hi
     exact (List.contains_iff_mem.2 this).symm
    .have w:IntKind.wrap .i64 (i+1)=i+1:=by rw [IntKind.wrap_i64]; omega
     rw [w]
     refine ⟨rfl,by omega,by omega,by omega,?_⟩
     rw [show (i+1).toNat=i.toNat+1 by omega,<- List.take_append_getElem hi]
     have hz:¬ x=l[i.toNat]:=by simpa using hz
     intro hmm
     rcases List.mem_append.1 hmm with h1 | h1
     .exact hp h1
     .exact hz (List.mem_singleton.1 h1)
   .rw [List.take_of_length_le (by omega)] at hp; exact ⟨rfl,rfl,rfl,hp⟩
  .rintro σ m' ⟨rfl,hp⟩
   refine retP_of ⟨rfl,_,rfl,?_⟩
   have:l.contains x=false:=by
    cases hc:l.contains x with
    | false=>rfl
    | true=>exact absurd (List.contains_iff_mem.1 hc) hp
   rw [this]; rfl
 .rintro r m2 ⟨h2,q,rfl,hq⟩
  replace h2:=h2.symm; subst h2
  exact ⟨_,rfl,rfl,retP_of ⟨by rw [hq],rfl⟩⟩
theorem right_e (w0:World) (m:AM) (i:Ins):CallsA Tryz.prog w0 16 #[i.val] m (fun r m'=>r=.bool (rightR i)/\m'=m):=(isaRight w0 m i).down fun _ _ h=>h
theorem writes_e (w0:World) (m:AM) (i:Ins):CallsA Tryz.prog w0 75 #[i.val] m (fun r m'=>r=.int .i64 (writesP i)/\m'=m):=(writes_spec w0 m i).down fun _ _ h=>h
theorem acts_e (w0:World) (m:AM) (i:Ins):CallsA Tryz.prog w0 121 #[i.val] m (fun r m'=>r=.bool (actsP i)/\m'=m):=(acts_spec w0 m i).down fun _ _ h=>h
theorem goes_e (w0:World) (m:AM) (i:Ins):CallsA Tryz.prog w0 69 #[i.val] m (fun r m'=>r=.bool (goesP i)/\m'=m):=(goes_spec w0 m i).down fun _ _ h=>h
theorem late_e (w0:World) (m:AM) (i:Ins):CallsA Tryz.prog w0 71 #[i.val] m (fun r m'=>r=.bool (lateP i)/\m'=m):=(late_spec w0 m i).down fun _ _ h=>h
def readsR (i:Ins) (n:Int):Bool:=rightR i && (decide (1<=n/\n<=31) && (fieldL i).contains n)
end Go.Proofs.YtgjamnhjlaohaaaGreatDoor.S
namespace Go.Alog
open Go Go.RowKit
def MapI (es:Array MapEntry) (kv:List (Int × Value)):Prop:=es.toList.map (fun e=>(e.key,e.val))=kv.map (fun p=>(Value.int .i64 p.1,p.2))
def findI (k:Int):List (Int × Value)->Nat->Option (Nat × Value)
 | [],_=>none
 | p :: l,i=>if k == p.1 then some (i,p.2) else findI k l (i+1)
theorem findNow_int (k:Int):∀ (l:List MapEntry) (kv:List (Int × Value)) (i:Nat),l.map (fun e=>(e.key,e.val))=kv.map (fun p=>(Value.int .i64 p.1,p.2))->Instr.findNow (.int .i64) (.int .i64 k) l i=some (findI k kv i):=by
 intro l
 induction l with
 | nil=>intro kv i h; cases kv with
  | nil=>rfl
  | cons p kv=>cases h
 | cons e l ih =>
  intro kv i h
  cases kv with
  | nil=>cases h
  | cons p kv =>
   simp only [List.map_cons,List.cons.injEq,Prod.mk.injEq] at h
   obtain ⟨⟨h1,h2⟩,h3⟩:=h
   unfold Instr.findNow findI
   rw [h1]
   simp only [Instr.sameNow,if_true]
   cases hk:(k == p.1) with
   | true=>simp [h2]
   | false=>simp [ih kv (i+1) h3]
theorem checkKey_int {P:Program} {kt:TypeId} (hk:P.underlying kt=some (.int .i64)) (b:Bool) (k:Int):pval P (Instr.checkKey b 10000 kt (.int .i64 k))=some ():=by
 show pval P (Instr.checkKey b (9999+1) kt (.int .i64 k))=some ()
 unfold Instr.checkKey
 rw [pval_bind',pv_underlying hk]
 rfl
theorem findKey_int {P:Program} {kt:TypeId} (hk:P.underlying kt=some (.int .i64)) (k:Int) {es:Array MapEntry} {kv:List (Int × Value)} (h:MapI es kv):pval P (Instr.findKey kt (.int .i64 k) es.toList)=some (findI k kv 0):=by
 unfold Instr.findKey
 rw [pval_bind',pv_underlying hk]
 simp only [Option.bind_some]
 rw [findNow_int k _ _ 0 h]
 rfl
theorem lookup_int {P:Program} {m:AM} {t kt et:TypeId} {z:Value} (ht:P.underlying t=some (.map kt et)) (hk:P.underlying kt=some (.int .i64)) (hz:pval P (zeroValue et)=some z) {x:Option Nat} {kv:List (Int × Value)}
  (hx:(x=none/\kv = [])\/∃ r es clk,x=some r/\m r=some (.map es clk)/\MapI es kv) (k:Int) :
  rval P m (Instr.lookup t (.map x) (.int .i64 k) false)=some (match findI k kv 0 with | some p=>p.2 | none=>z):=by
 have fin:∀ es:Array MapEntry,MapI es kv->rval P m (do
   Instr.checkKey es.isEmpty 10000 kt (.int .i64 k)
   let (v,ok) <- match <- Instr.findKey kt (.int .i64 k) es.toList with
    | some (_,v)=>pure (v,true)
    | none=>pure (<- zeroValue et,false)
   pure (if false then Value.tuple #[v,.bool ok] else v))=some (match findI k kv 0 with | some p=>p.2 | none=>z):=by
  intro es he
  rw [rval_bind',rval_of_pval _ (checkKey_int hk _ k)]
  simp only [Option.bind_some]
  rw [rval_bind',rval_of_pval _ (findKey_int hk k he)]
  simp only [Option.bind_some]
  cases findI k kv 0 with
  | none =>
   simp only []
   rw [rval_bind',rval_of_pval _ hz]
   rfl
  | some p=>rfl
 unfold Instr.lookup
 rw [rval_bind',rval_of_pval _ (pv_underlying ht)]
 simp only [Option.bind_some]
 rcases hx with ⟨rfl,rfl⟩ | ⟨r,es,clk,rfl,hm,he⟩
 .rw [rval_bind']
  exact fin #[] rfl
 .rw [rval_bind']
  have hg:rval P m (getObj r)=some (.map es clk):=by simp [getObj,rval,hm]
  rw [hg]
  simp only [Option.bind_some]
  rw [rval_bind']
  exact fin es he
theorem awp_pv {P:Program} {B:Nat} {α:Type} (s:Sem α):∀ {x:α} {m:AM} {K:α->AM->Prop},pval P s=some x->K x m->awp P B s m K:=by
 induction s with
 | pure x=>intro y m K h hk; injection h with h; subst h; exact hk
 | program k ih=>intro y m K h hk; exact ih _ h hk
 | mark mk k ih=>intro y m K h hk; exact ih h hk
 | _=>intros; simp_all [pval]
theorem awp_pv_bind {P:Program} {B:Nat} {α β:Type} {s:Sem α} {f:α->Sem β} {x:α} {m:AM} {K:β->AM->Prop} (h:pval P s=some x) (hk:awp P B (f x) m K):awp P B (s >>= f) m K:=by
 show awp P B (s.bind f) m K
 rw [awp_bind]
 exact awp_pv s h hk
theorem mapUpdate_new {P:Program} {B:Nat} {m:AM} {t kt et:TypeId} (ht:P.underlying t=some (.map kt et)) (hk:P.underlying kt=some (.int .i64)) {r:Nat} {es:Array MapEntry} {clk:Nat} {kv:List (Int × Value)} (hB:B<=r)
  (hm:m r=some (.map es clk)) (he:MapI es kv) {k:Int} {v:Value} (hn:findI k kv 0=none) {K:Unit->AM->Prop} (h:∀ es' clk',MapI es' (kv ++ [(k,v)])->K () (m.upd r (.map es' clk'))) :
  awp P B (Instr.mapUpdate t (.map (some r)) (.int .i64 k) v) m K:=by
 unfold Instr.mapUpdate
 refine awp_pv_bind (pv_underlying ht) ?_
 simp only []
 show awp P B ((getObj r).bind _) m K
 rw [awp_bind]
 refine ⟨_,hm,trivial,?_⟩
 simp only [awp]
 refine awp_pv_bind (checkKey_int hk _ k) ?_
 refine awp_pv_bind (findKey_int hk k he) ?_
 rw [hn]
 refine ⟨hB,⟨_,hm,trivial⟩,?_⟩
 refine h _ _ ?_
 unfold MapI at he ⊢
 simp [he]
theorem findI_none {k:Int} {kv:List (Int × Value)} (h:k∉kv.map (·.1)) (i:Nat):findI k kv i=none:=by
 induction kv generalizing i with
 | nil=>rfl
 | cons p l ih =>
  simp only [List.map_cons,List.mem_cons,not_or] at h
  unfold findI
  rw [if_neg (by simpa using h.1)]
  exact ih h.2 _
theorem findI_map {k:Int} {f:Int->Value} {l:List Int} (h:k∈l) (i:Nat):∃ j,findI k (l.map fun x=>(x,f x)) i=some (j,f k):=by
 induction l generalizing i with
 | nil=>cases h
 | cons p l ih =>
  simp only [List.map_cons]
  unfold findI
  by_cases e:k=p
  .subst e; exact ⟨i,by simp⟩
  .rw [if_neg (by simpa using e)]
   exact ih ((List.mem_cons.1 h).resolve_left e) _
theorem awp_copy {P:Program} {B:Nat} {t ty e:TypeId} {sz bs:Nat} {z:List Value} (hel:elOf P t=some (e,sz,bs,z)) {m:AM} {g o dn dc:Nat} {cur:Array Value} (hg:m g=some (.cells cur e (0,0))) (hB:B<=g)
  {A2:Option Addr} {k c2 n:Nat} {xs:List Value} (hn:n=Nat.min k dn) (hr:Reads m sz A2 n xs) (h1:∀ u∈xs,u.oneCell'=true) (hfit:o+n*sz<=cur.size) {K:Value->AM->Prop}
  (h:K (.int .i64 n) (m.upd g (.cells (splice cur o xs) e))) :
  awp P B (Builtin.copy_ #[t,t] ty #[.slice (some ⟨g,o,none⟩) dn dc,.slice A2 k c2]) m K:=by
 obtain ⟨i,zv,hu,hi,hz,hzs,hsz,hbs,hzl⟩:=elOf_spec hel
 subst hsz
 show awp P B (underlying t >>= _) m K
 rw [awp_bind']
 refine awp_p (pv_underlying hu) ?_
 simp only [List.getElem_toArray,List.getElem_cons_zero,List.getElem_cons_succ]
 rw [awp_bind']
 refine awp_p (x:=k) rfl ?_
 rw [awp_bind']
 refine awp_p (pv_sizeOf hi) ?_
 rw [awp_bind',<- hn]
 have hf:rval P m (Builtin.firstCells i.size n (.slice A2 k c2))=some xs.toArray:=by
  have:=hr.first (P:=P) (c:=c2)
  obtain ⟨hl,⟨rfl,rfl⟩ | ⟨ad,rfl,hc⟩⟩:=hr
  .have:xs = []:=List.eq_nil_of_length_eq_zero (by simpa using hl)
   subst this
   rfl
  .exact this
 refine awp_of_rval _ hf ?_
 simp only
 rw [awp_bind']
 refine store_list xs 0 o m cur _ hg hB h1 (by rw [hr.1]; omega) ?_
 exact h
end Go.Alog
namespace Go.Proofs.YtgjamnhjlaohaaaGreatDoor.V
open Go Go.Alog Go.Proofs.YtgjamnhjlaohaaaGreatDoor.T
variable (w0:World) (m:AM)
noncomputable abbrev cf56 (x0:Nat) (R:RT):Vn (C_ w0 56 #[pt_ x0] m R):=mkF (F:=F56) Tryz.func56 (by dsimp only [push_cast,↓u1,↓u2,↓u3,Nat.reduceAdd,Nat.reduceBEq,Nat.reduceDiv,Nat.reduceMod]) (by kernel_rfl)
noncomputable abbrev cf96 (x0:Nat) (x1:ByteArray) (R:RT):Vn (C_ w0 96 #[pt_ x0,.string x1] m R):=mkF (F:=F96) Tryz.func96 (by dsimp only [push_cast,↓u1,↓u2,↓u3,Nat.reduceAdd,Nat.reduceBEq,Nat.reduceDiv,Nat.reduceMod]) (by kernel_rfl)
noncomputable abbrev cf46 (x0:Nat) (x1:ByteArray) (R:RT):Vn (C_ w0 46 #[pt_ x0,.string x1] m R):=mkF (F:=F46) Tryz.func46 (by dsimp only [push_cast,↓u1,↓u2,↓u3,Nat.reduceAdd,Nat.reduceBEq,Nat.reduceDiv,Nat.reduceMod]) (by kernel_rfl)
noncomputable abbrev cf47 (x0:Nat) (x1:ByteArray) (R:RT):Vn (C_ w0 47 #[pt_ x0,.string x1] m R):=mkF (F:=F47) Tryz.func47 (by dsimp only [push_cast,↓u1,↓u2,↓u3,Nat.reduceAdd,Nat.reduceBEq,Nat.reduceDiv,Nat.reduceMod]) (by kernel_rfl)
noncomputable abbrev cf97 (x0:Nat) (R:RT):Vn (C_ w0 97 #[pt_ x0] m R):=mkF (F:=F97) Tryz.func97 (by dsimp only [push_cast,↓u1,↓u2,↓u3,Nat.reduceAdd,Nat.reduceBEq,Nat.reduceDiv,Nat.reduceMod]) (by kernel_rfl)
noncomputable abbrev vr97_10 (σ:Sg) (R:RT) (x0:Nat) (K:Bool->AM->Prop) (h0:σ 0=pt_ x0):Vn (Vn (XV w0 F97 (Tz R) 6 σ m)):=mkR (.o 0 (.o 1 (.o 2 (.o 3 (.o 4 (.o 5 (.o 6 (.o 7 (.o 8 (.o 9 (.o 10 (.o 11 (.o 12 (.o 13 (.o 14 (.o 15 (.o 16 (.o 18 (.o 19 (.o 20 (.o 21 (.o 22 (.o 23 (.o 24 (.o 17 (.o 25 (.o 26 (.o 27 (.o 28 .z))))))))))))))))))))))))))))) [] (ks:=[(2,.b)]) K (cs h0 nl) (by dsimp only [push_cast,↓u1,↓u2,↓u3,Nat.reduceAdd,Nat.reduceBEq,Nat.reduceDiv,Nat.reduceMod]) (by dsimp only [push_cast,↓u1,↓u2,↓u3,Nat.reduceAdd,Nat.reduceBEq,Nat.reduceDiv,Nat.reduceMod]) (by kernel_rfl)
noncomputable abbrev cf48 (x0:Nat) (R:RT):Vn (C_ w0 48 #[pt_ x0] m R):=mkF (F:=F48) Tryz.func48 (by dsimp only [push_cast,↓u1,↓u2,↓u3,Nat.reduceAdd,Nat.reduceBEq,Nat.reduceDiv,Nat.reduceMod]) (by kernel_rfl)
noncomputable abbrev cf141 (x0:Nat) (R:RT):Vn (C_ w0 141 #[pt_ x0] m R):=mkF (F:=F141) Tryz.func141 (by dsimp only [push_cast,↓u1,↓u2,↓u3,Nat.reduceAdd,Nat.reduceBEq,Nat.reduceDiv,Nat.reduceMod]) (by kernel_rfl)
noncomputable abbrev cf24 (x0:Nat) (x1 x2:Int) (R:RT):Vn (C_ w0 24 #[pt_ x0,I_ x1,I_ x2] m R):=mkF (F:=F24) Tryz.func24 (by dsimp only [push_cast,↓u1,↓u2,↓u3,Nat.reduceAdd,Nat.reduceBEq,Nat.reduceDiv,Nat.reduceMod]) (by kernel_rfl)
noncomputable abbrev cf140 (x0:Nat) (x1:ByteArray) (x2 x3_0 x3_1 x3_2:Int) (x3_3:Bool) (R:RT):Vn (C_ w0 140 #[pt_ x0,.string x1,I_ x2,.agg #[I_ x3_0,I_ x3_1,I_ x3_2,.bool x3_3]] m R):=mkF (F:=F140) Tryz.func140 (by dsimp only [push_cast,↓u1,↓u2,↓u3,Nat.reduceAdd,Nat.reduceBEq,Nat.reduceDiv,Nat.reduceMod]) (by kernel_rfl)
noncomputable abbrev cf177 (x0:Nat) (x1:ByteArray) (x2:Int) (R:RT):Vn (C_ w0 177 #[pt_ x0,.string x1,I_ x2] m R):=mkF (F:=F177) Tryz.func177 (by dsimp only [push_cast,↓u1,↓u2,↓u3,Nat.reduceAdd,Nat.reduceBEq,Nat.reduceDiv,Nat.reduceMod]) (by kernel_rfl)
noncomputable abbrev cf214 (x0:Nat) (x1:Int) (R:RT):Vn (C_ w0 214 #[pt_ x0,I_ x1] m R):=mkF (F:=F214) Tryz.func214 (by dsimp only [push_cast,↓u1,↓u2,↓u3,Nat.reduceAdd,Nat.reduceBEq,Nat.reduceDiv,Nat.reduceMod]) (by kernel_rfl)
noncomputable abbrev cf216 (x0:Nat) (x1_0 x1_1 x1_2:Int) (x1_3:Bool) (x2:Int) (R:RT):Vn (C_ w0 216 #[pt_ x0,.agg #[I_ x1_0,I_ x1_1,I_ x1_2,.bool x1_3],I_ x2] m R):=mkF (F:=F216) Tryz.func216 (by dsimp only [push_cast,↓u1,↓u2,↓u3,Nat.reduceAdd,Nat.reduceBEq,Nat.reduceDiv,Nat.reduceMod]) (by kernel_rfl)
noncomputable abbrev cf178 (x0:Nat) (x1_0 x1_1 x1_2:Int) (x1_3:Bool) (x2:Int) (R:RT):Vn (C_ w0 178 #[pt_ x0,.agg #[I_ x1_0,I_ x1_1,I_ x1_2,.bool x1_3],I_ x2] m R):=mkF (F:=F178) Tryz.func178 (by dsimp only [push_cast,↓u1,↓u2,↓u3,Nat.reduceAdd,Nat.reduceBEq,Nat.reduceDiv,Nat.reduceMod]) (by kernel_rfl)
noncomputable abbrev cf200 (x0:Nat) (x1_0 x1_1 x1_2:Int) (x1_3:Bool) (R:RT):Vn (C_ w0 200 #[pt_ x0,.agg #[I_ x1_0,I_ x1_1,I_ x1_2,.bool x1_3]] m R):=mkF (F:=F200) Tryz.func200 (by dsimp only [push_cast,↓u1,↓u2,↓u3,Nat.reduceAdd,Nat.reduceBEq,Nat.reduceDiv,Nat.reduceMod]) (by kernel_rfl)
noncomputable abbrev cf213 (x0:Nat) (R:RT):Vn (C_ w0 213 #[pt_ x0] m R):=mkF (F:=F213) Tryz.func213 (by dsimp only [push_cast,↓u1,↓u2,↓u3,Nat.reduceAdd,Nat.reduceBEq,Nat.reduceDiv,Nat.reduceMod]) (by kernel_rfl)
noncomputable abbrev cf208 (x0:Nat) (R:RT):Vn (C_ w0 208 #[pt_ x0] m R):=mkF (F:=F208) Tryz.func208 (by dsimp only [push_cast,↓u1,↓u2,↓u3,Nat.reduceAdd,Nat.reduceBEq,Nat.reduceDiv,Nat.reduceMod]) (by kernel_rfl)
noncomputable abbrev cf199 (x0:Nat) (R:RT):Vn (C_ w0 199 #[pt_ x0] m R):=mkF (F:=F199) Tryz.func199 (by dsimp only [push_cast,↓u1,↓u2,↓u3,Nat.reduceAdd,Nat.reduceBEq,Nat.reduceDiv,Nat.reduceMod]) (by kernel_rfl)
noncomputable abbrev cf176 (x0:Nat) (R:RT):Vn (C_ w0 176 #[pt_ x0] m R):=mkF (F:=F176) Tryz.func176 (by dsimp only [push_cast,↓u1,↓u2,↓u3,Nat.reduceAdd,Nat.reduceBEq,Nat.reduceDiv,Nat.reduceMod]) (by kernel_rfl)
noncomputable abbrev cf152 (x0:Nat) (R:RT):Vn (C_ w0 152 #[pt_ x0] m R):=mkF (F:=F152) Tryz.func152 (by dsimp only [push_cast,↓u1,↓u2,↓u3,Nat.reduceAdd,Nat.reduceBEq,Nat.reduceDiv,Nat.reduceMod]) (by kernel_rfl)
noncomputable abbrev vl152_11010 (σ:Sg) (R:RT) (x0:Nat) (x3:Int) (x10:Option Addr) (x10n x10c:Nat) (x11 x12:Int) (I0:Nat->Int->AM->Prop) (E0_0:AM->Prop) (N:Nat) (h0:σ 0=pt_ x0) (h3:σ 3=I_ x3) (h10:σ 10=.slice x10 x10n x10c) (h11:σ 11=I_ x11) (h12:σ 12=I_ x12) (h_0:I0 N x12 m):Vn (Vn (XV w0 F152 (Tz R) 58 σ m)):=mkL1 (lq152_11010 R x0 x3 x10 x10n x10c x11 I0 E0_0) (fun _=>rfl) N (cs h0 (cs h3 (cs h10 (cs h11 nl)))) (cs h12 nl) h_0 (by dsimp only [push_cast,↓u1,↓u2,↓u3,Nat.reduceAdd,Nat.reduceBEq,Nat.reduceDiv,Nat.reduceMod]) (by dsimp only [push_cast,↓u1,↓u2,↓u3,Nat.reduceAdd,Nat.reduceBEq,Nat.reduceDiv,Nat.reduceMod]) (by kernel_rfl)
noncomputable abbrev vk152_110100110011111 (σ:Sg) (R:RT) (n0:Nat) (I0:Nat->Int->AM->Prop) (E0_0:AM->Prop) (x0:Nat) (x3:Int) (x5:ByteArray) (x6:Int) (x7:Nat) (x10:Option Addr) (x10n x10c:Nat) (x11 x12:Int) (h0:σ 0=pt_ x0) (h3:σ 3=I_ x3) (h5:σ 5=.string x5) (h6:σ 6=I_ x6) (h7:σ 7=pt_ x7) (h10:σ 10=.slice x10 x10n x10c) (h11:σ 11=I_ x11) (h12:σ 12=I_ x12):Vn (XV w0 F152 (lq152_11010 R x0 x3 x10 x10n x10c x11 I0 E0_0 n0) 59807 σ m):=mkK (cs h0 (cs h3 (cs h5 (cs h6 (cs h7 (cs h10 (cs h11 (cs h12 nl)))))))) (by dsimp only [push_cast,↓u1,↓u2,↓u3,Nat.reduceAdd,Nat.reduceBEq,Nat.reduceDiv,Nat.reduceMod]) (by kernel_rfl)
noncomputable abbrev vk152_1101001100111111 (σ:Sg) (R:RT) (n0:Nat) (I0:Nat->Int->AM->Prop) (E0_0:AM->Prop) (x0:Nat) (x3:Int) (x5:ByteArray) (x7:Nat) (x10:Option Addr) (x10n x10c:Nat) (x11 x12:Int) (h0:σ 0=pt_ x0) (h3:σ 3=I_ x3) (h5:σ 5=.string x5) (h7:σ 7=pt_ x7) (h10:σ 10=.slice x10 x10n x10c) (h11:σ 11=I_ x11) (h12:σ 12=I_ x12):Vn (XV w0 F152 (lq152_11010 R x0 x3 x10 x10n x10c x11 I0 E0_0 n0) 119615 σ m):=mkK (cs h0 (cs h3 (cs h5 (cs h7 (cs h10 (cs h11 (cs h12 nl))))))) (by dsimp only [push_cast,↓u1,↓u2,↓u3,Nat.reduceAdd,Nat.reduceBEq,Nat.reduceDiv,Nat.reduceMod]) (by kernel_rfl)
noncomputable abbrev cf180 (x0:Nat) (x1_0 x1_1 x1_2:Int) (x1_3:Bool) (R:RT):Vn (C_ w0 180 #[pt_ x0,.agg #[I_ x1_0,I_ x1_1,I_ x1_2,.bool x1_3]] m R):=mkF (F:=F180) Tryz.func180 (by dsimp only [push_cast,↓u1,↓u2,↓u3,Nat.reduceAdd,Nat.reduceBEq,Nat.reduceDiv,Nat.reduceMod]) (by kernel_rfl)
noncomputable abbrev vr180_1110 (σ:Sg) (R:RT) (x0 x3:Nat) (K:AM->Prop) (h0:σ 0=pt_ x0) (h3:σ 3=pt_ x3):Vn (Vn (XV w0 F180 (Tz R) 30 σ m)):=mkR (.o 0 (.o 2 (.a (.o 1 (.o 3 (.o 4 .z))) (.o 3 (.o 1 (.o 4 .z)))))) [0] (ks:=[]) K (cs h0 (cs h3 nl)) (by dsimp only [push_cast,↓u1,↓u2,↓u3,Nat.reduceAdd,Nat.reduceBEq,Nat.reduceDiv,Nat.reduceMod]) (by dsimp only [push_cast,↓u1,↓u2,↓u3,Nat.reduceAdd,Nat.reduceBEq,Nat.reduceDiv,Nat.reduceMod]) (by kernel_rfl)
noncomputable abbrev cf179 (x0:Nat) (x1_0 x1_1 x1_2:Int) (x1_3:Bool) (R:RT):Vn (C_ w0 179 #[pt_ x0,.agg #[I_ x1_0,I_ x1_1,I_ x1_2,.bool x1_3]] m R):=mkF (F:=F179) Tryz.func179 (by dsimp only [push_cast,↓u1,↓u2,↓u3,Nat.reduceAdd,Nat.reduceBEq,Nat.reduceDiv,Nat.reduceMod]) (by kernel_rfl)
noncomputable abbrev cf155 (x0:Nat) (R:RT):Vn (C_ w0 155 #[pt_ x0] m R):=mkF (F:=F155) Tryz.func155 (by dsimp only [push_cast,↓u1,↓u2,↓u3,Nat.reduceAdd,Nat.reduceBEq,Nat.reduceDiv,Nat.reduceMod]) (by kernel_rfl)
noncomputable abbrev cf174 (x0:Nat) (x1:Int) (R:RT):Vn (C_ w0 174 #[pt_ x0,I_ x1] m R):=mkF (F:=F174) Tryz.func174 (by dsimp only [push_cast,↓u1,↓u2,↓u3,Nat.reduceAdd,Nat.reduceBEq,Nat.reduceDiv,Nat.reduceMod]) (by kernel_rfl)
noncomputable abbrev cf150 (x0:Nat) (x1:Int) (R:RT):Vn (C_ w0 150 #[pt_ x0,I_ x1] m R):=mkF (F:=F150) Tryz.func150 (by dsimp only [push_cast,↓u1,↓u2,↓u3,Nat.reduceAdd,Nat.reduceBEq,Nat.reduceDiv,Nat.reduceMod]) (by kernel_rfl)
noncomputable abbrev cf151 (x0:Nat) (x1:Int) (R:RT):Vn (C_ w0 151 #[pt_ x0,I_ x1] m R):=mkF (F:=F151) Tryz.func151 (by dsimp only [push_cast,↓u1,↓u2,↓u3,Nat.reduceAdd,Nat.reduceBEq,Nat.reduceDiv,Nat.reduceMod]) (by kernel_rfl)
noncomputable abbrev cf154 (x0:Nat) (R:RT):Vn (C_ w0 154 #[pt_ x0] m R):=mkF (F:=F154) Tryz.func154 (by dsimp only [push_cast,↓u1,↓u2,↓u3,Nat.reduceAdd,Nat.reduceBEq,Nat.reduceDiv,Nat.reduceMod]) (by kernel_rfl)
noncomputable abbrev cf103 (x0:Nat) (R:RT):Vn (C_ w0 103 #[pt_ x0] m R):=mkF (F:=F103) Tryz.func103 (by dsimp only [push_cast,↓u1,↓u2,↓u3,Nat.reduceAdd,Nat.reduceBEq,Nat.reduceDiv,Nat.reduceMod]) (by kernel_rfl)
noncomputable abbrev cf54 (x0:Nat) (R:RT):Vn (C_ w0 54 #[pt_ x0] m R):=mkF (F:=F54) Tryz.func54 (by dsimp only [push_cast,↓u1,↓u2,↓u3,Nat.reduceAdd,Nat.reduceBEq,Nat.reduceDiv,Nat.reduceMod]) (by kernel_rfl)
noncomputable abbrev vl54_10 (σ:Sg) (R:RT) (x0:Nat) (I0:Nat->AM->Prop) (E0_0:AM->Prop) (N:Nat) (h0:σ 0=pt_ x0) (h_0:I0 N  m):Vn (Vn (XV w0 F54 (Tz R) 6 σ m)):=mkL1 (lq54_10 R x0 I0 E0_0) (fun _=>rfl) N (cs h0 nl) nl h_0 (by dsimp only [push_cast,↓u1,↓u2,↓u3,Nat.reduceAdd,Nat.reduceBEq,Nat.reduceDiv,Nat.reduceMod]) (by dsimp only [push_cast,↓u1,↓u2,↓u3,Nat.reduceAdd,Nat.reduceBEq,Nat.reduceDiv,Nat.reduceMod]) (by kernel_rfl)
noncomputable abbrev cf99 (x0:Nat) (R:RT):Vn (C_ w0 99 #[pt_ x0] m R):=mkF (F:=F99) Tryz.func99 (by dsimp only [push_cast,↓u1,↓u2,↓u3,Nat.reduceAdd,Nat.reduceBEq,Nat.reduceDiv,Nat.reduceMod]) (by kernel_rfl)
noncomputable abbrev cf144 (x0:Nat) (R:RT):Vn (C_ w0 144 #[pt_ x0] m R):=mkF (F:=F144) Tryz.func144 (by dsimp only [push_cast,↓u1,↓u2,↓u3,Nat.reduceAdd,Nat.reduceBEq,Nat.reduceDiv,Nat.reduceMod]) (by kernel_rfl)
noncomputable abbrev cf143 (x0:Nat) (x1:ByteArray) (x2 x3:Int) (R:RT):Vn (C_ w0 143 #[pt_ x0,.string x1,I_ x2,I_ x3] m R):=mkF (F:=F143) Tryz.func143 (by dsimp only [push_cast,↓u1,↓u2,↓u3,Nat.reduceAdd,Nat.reduceBEq,Nat.reduceDiv,Nat.reduceMod]) (by kernel_rfl)
noncomputable abbrev cf100 (x0:Nat) (R:RT):Vn (C_ w0 100 #[pt_ x0] m R):=mkF (F:=F100) Tryz.func100 (by dsimp only [push_cast,↓u1,↓u2,↓u3,Nat.reduceAdd,Nat.reduceBEq,Nat.reduceDiv,Nat.reduceMod]) (by kernel_rfl)
noncomputable abbrev cf146 (x0:Nat) (x1:ByteArray) (x2 x3:Int) (R:RT):Vn (C_ w0 146 #[pt_ x0,.string x1,I_ x2,I_ x3] m R):=mkF (F:=F146) Tryz.func146 (by dsimp only [push_cast,↓u1,↓u2,↓u3,Nat.reduceAdd,Nat.reduceBEq,Nat.reduceDiv,Nat.reduceMod]) (by kernel_rfl)
noncomputable abbrev cf101 (x0:Nat) (R:RT):Vn (C_ w0 101 #[pt_ x0] m R):=mkF (F:=F101) Tryz.func101 (by dsimp only [push_cast,↓u1,↓u2,↓u3,Nat.reduceAdd,Nat.reduceBEq,Nat.reduceDiv,Nat.reduceMod]) (by kernel_rfl)
noncomputable abbrev vl101_11111111111010010 (σ:Sg) (R:RT) (x0:Nat) (x7:Bool) (x8:Int) (x9:Bool) (I0:Nat->Int->Bool->AM->Prop) (E0_0:Int->AM->Prop) (N:Nat) (h0:σ 0=pt_ x0) (h7:σ 7=.bool x7) (h8:σ 8=I_ x8) (h9:σ 9=.bool x9) (h_0:I0 N x8 x9 m):Vn (Vn (XV w0 F101 (Tz R) 262098 σ m)):=mkL1 (lq101_11111111111010010 R x0 x7 I0 E0_0) (fun _=>rfl) N (cs h0 (cs h7 nl)) (cs h8 (cs h9 nl)) h_0 (by dsimp only [push_cast,↓u1,↓u2,↓u3,Nat.reduceAdd,Nat.reduceBEq,Nat.reduceDiv,Nat.reduceMod]) (by dsimp only [push_cast,↓u1,↓u2,↓u3,Nat.reduceAdd,Nat.reduceBEq,Nat.reduceDiv,Nat.reduceMod]) (by kernel_rfl)
noncomputable abbrev cf147 (x0:Nat) (x1:Int) (x2:Bool) (R:RT):Vn (C_ w0 147 #[pt_ x0,I_ x1,.bool x2] m R):=mkF (F:=F147) Tryz.func147 (by dsimp only [push_cast,↓u1,↓u2,↓u3,Nat.reduceAdd,Nat.reduceBEq,Nat.reduceDiv,Nat.reduceMod]) (by kernel_rfl)
noncomputable abbrev vl147_11111110 (σ:Sg) (R:RT) (x0:Nat) (x1:Int) (x2:Bool) (x6:Int) (I0:Nat->Int->AM->Prop) (E0_0:AM->Prop) (N:Nat) (h0:σ 0=pt_ x0) (h1:σ 1=I_ x1) (h2:σ 2=.bool x2) (h6:σ 6=I_ x6) (h_0:I0 N x6 m):Vn (Vn (XV w0 F147 (Tz R) 510 σ m)):=mkL1 (lq147_11111110 R x0 x1 x2 I0 E0_0) (fun _=>rfl) N (cs h0 (cs h1 (cs h2 nl))) (cs h6 nl) h_0 (by dsimp only [push_cast,↓u1,↓u2,↓u3,Nat.reduceAdd,Nat.reduceBEq,Nat.reduceDiv,Nat.reduceMod]) (by dsimp only [push_cast,↓u1,↓u2,↓u3,Nat.reduceAdd,Nat.reduceBEq,Nat.reduceDiv,Nat.reduceMod]) (by kernel_rfl)
noncomputable abbrev cf148 (x0:Nat) (x1:Int) (R:RT):Vn (C_ w0 148 #[pt_ x0,I_ x1] m R):=mkF (F:=F148) Tryz.func148 (by dsimp only [push_cast,↓u1,↓u2,↓u3,Nat.reduceAdd,Nat.reduceBEq,Nat.reduceDiv,Nat.reduceMod]) (by kernel_rfl)
noncomputable abbrev cf51 (x0:Nat) (R:RT):Vn (C_ w0 51 #[pt_ x0] m R):=mkF (F:=F51) Tryz.func51 (by dsimp only [push_cast,↓u1,↓u2,↓u3,Nat.reduceAdd,Nat.reduceBEq,Nat.reduceDiv,Nat.reduceMod]) (by kernel_rfl)
noncomputable abbrev vl51_0 (σ:Sg) (R:RT) (x0:Nat) (I0:Nat->AM->Prop) (E0_0:AM->Prop) (N:Nat) (h0:σ 0=pt_ x0) (h_0:I0 N  m):Vn (Vn (XV w0 F51 (Tz R) 2 σ m)):=mkL1 (lq51_0 R x0 I0 E0_0) (fun _=>rfl) N (cs h0 nl) nl h_0 (by dsimp only [push_cast,↓u1,↓u2,↓u3,Nat.reduceAdd,Nat.reduceBEq,Nat.reduceDiv,Nat.reduceMod]) (by dsimp only [push_cast,↓u1,↓u2,↓u3,Nat.reduceAdd,Nat.reduceBEq,Nat.reduceDiv,Nat.reduceMod]) (by kernel_rfl)
noncomputable abbrev cf21 (x0:Nat) (R:RT):Vn (C_ w0 21 #[pt_ x0] m R):=mkF (F:=F21) Tryz.func21 (by dsimp only [push_cast,↓u1,↓u2,↓u3,Nat.reduceAdd,Nat.reduceBEq,Nat.reduceDiv,Nat.reduceMod]) (by kernel_rfl)
noncomputable abbrev vk21_11 (σ:Sg) (R:RT) (x0:Nat) (x2:Bool) (h0:σ 0=pt_ x0) (h2:σ 2=.bool x2):Vn (XV w0 F21 (Tz R) 7 σ m):=mkK (cs h0 (cs h2 nl)) (by dsimp only [push_cast,↓u1,↓u2,↓u3,Nat.reduceAdd,Nat.reduceBEq,Nat.reduceDiv,Nat.reduceMod]) (by kernel_rfl)
noncomputable abbrev cf139 (R:RT):Vn (C_ w0 139 #[] m R):=mkF (F:=F139) Tryz.func139 (by dsimp only [push_cast,↓u1,↓u2,↓u3,Nat.reduceAdd,Nat.reduceBEq,Nat.reduceDiv,Nat.reduceMod]) (by kernel_rfl)
noncomputable abbrev cf209 (x0:Nat) (x1:Int) (R:RT):Vn (C_ w0 209 #[pt_ x0,I_ x1,.func (.func 152) #[pt_ x0] #[]] m R):=mkF (F:=F209) Tryz.func209 (by dsimp only [push_cast,↓u1,↓u2,↓u3,Nat.reduceAdd,Nat.reduceBEq,Nat.reduceDiv,Nat.reduceMod]) (by kernel_rfl)
noncomputable abbrev fcf209 (x0:Nat) (x1:Int) (R:RT):Vn (C_ w0 209 #[pt_ x0,I_ x1,.func (.func 208) #[pt_ x0] #[]] m R):=mkF (F:=fF209) Tryz.func209 (by dsimp only [push_cast,↓u1,↓u2,↓u3,Nat.reduceAdd,Nat.reduceBEq,Nat.reduceDiv,Nat.reduceMod]) (by kernel_rfl)
noncomputable abbrev cf198 (x0:Nat) (x2:Option Nat) (R:RT):Vn (C_ w0 198 #[pt_ x0,.func (.func 208) #[pt_ x0] #[],.map x2] m R):=mkF (F:=F198) Tryz.func198 (by dsimp only [push_cast,↓u1,↓u2,↓u3,Nat.reduceAdd,Nat.reduceBEq,Nat.reduceDiv,Nat.reduceMod]) (by kernel_rfl)
noncomputable abbrev vl198_1100 (σ:Sg) (R:RT) (x0:Nat) (x2:Option Nat) (x7:Int) (I0:Nat->AM->Prop) (E0_0:AM->Prop) (N:Nat) (h0:σ 0=pt_ x0) (h1:σ 1=.func (.func 208) #[pt_ x0] #[]) (h2:σ 2=.map x2) (h7:σ 7=I_ x7) (h_0:I0 N  m):Vn (Vn (XV w0 F198 (Tz R) 28 σ m)):=mkL1 (lq198_1100 R x0 x2 x7 I0 E0_0) (fun _=>rfl) N (cs h0 (cs h1 (cs h2 (cs h7 nl)))) nl h_0 (by dsimp only [push_cast,↓u1,↓u2,↓u3,Nat.reduceAdd,Nat.reduceBEq,Nat.reduceDiv,Nat.reduceMod]) (by dsimp only [push_cast,↓u1,↓u2,↓u3,Nat.reduceAdd,Nat.reduceBEq,Nat.reduceDiv,Nat.reduceMod]) (by kernel_rfl)
noncomputable abbrev tcf198 (x0:Nat) (x2:Option Nat) (R:RT):Vn (C_ w0 198 #[pt_ x0,.func (.func 199) #[pt_ x0] #[],.map x2] m R):=mkF (F:=tF198) Tryz.func198 (by dsimp only [push_cast,↓u1,↓u2,↓u3,Nat.reduceAdd,Nat.reduceBEq,Nat.reduceDiv,Nat.reduceMod]) (by kernel_rfl)
noncomputable abbrev tvl198_1100 (σ:Sg) (R:RT) (x0:Nat) (x2:Option Nat) (x7:Int) (I0:Nat->AM->Prop) (E0_0:AM->Prop) (N:Nat) (h0:σ 0=pt_ x0) (h1:σ 1=.func (.func 199) #[pt_ x0] #[]) (h2:σ 2=.map x2) (h7:σ 7=I_ x7) (h_0:I0 N  m):Vn (Vn (XV w0 tF198 (Tz R) 28 σ m)):=mkL1 (tlq198_1100 R x0 x2 x7 I0 E0_0) (fun _=>rfl) N (cs h0 (cs h1 (cs h2 (cs h7 nl)))) nl h_0 (by dsimp only [push_cast,↓u1,↓u2,↓u3,Nat.reduceAdd,Nat.reduceBEq,Nat.reduceDiv,Nat.reduceMod]) (by dsimp only [push_cast,↓u1,↓u2,↓u3,Nat.reduceAdd,Nat.reduceBEq,Nat.reduceDiv,Nat.reduceMod]) (by kernel_rfl)
noncomputable abbrev cf11 (x0:ByteArray) (R:RT):Vn (C_ w0 11 #[.string x0] m R):=mkF (F:=F11) Tryz.func11 (by dsimp only [push_cast,↓u1,↓u2,↓u3,Nat.reduceAdd,Nat.reduceBEq,Nat.reduceDiv,Nat.reduceMod]) (by kernel_rfl)
noncomputable abbrev vk11_1111111 (σ:Sg) (R:RT) (x2 x8:Nat) (h2:σ 2=pt_ x2) (h8:σ 8=pt_ x8):Vn (XV w0 F11 (Tz R) 255 σ m):=mkK (cs h2 (cs h8 nl)) (by dsimp only [push_cast,↓u1,↓u2,↓u3,Nat.reduceAdd,Nat.reduceBEq,Nat.reduceDiv,Nat.reduceMod]) (by kernel_rfl)
noncomputable abbrev vr11_11111110100 (σ:Sg) (R:RT) (x2 x8:Nat) (K:Int->Int->AM->Prop) (h2:σ 2=pt_ x2) (h8:σ 8=pt_ x8):Vn (Vn (XV w0 F11 (Tz R) 4084 σ m)):=mkR (.o 0 (.o 1 (.o 2 (.o 3 (.o 5 (.o 6 (.o 7 (.a (.o 4 (.a (.o 8 (.o 9 (.o 10 (.o 11 .z)))) (.o 9 (.o 8 (.o 10 (.o 11 .z)))))) (.a (.o 8 (.a (.o 4 (.o 9 (.o 10 (.o 11 .z)))) (.o 9 (.o 4 (.o 10 (.o 11 .z)))))) (.o 9 (.o 4 (.o 8 (.o 10 (.o 11 .z)))))))))))))) [2] (ks:=[(3,.i),(4,.i)]) K (cs h2 (cs h8 nl)) (by dsimp only [push_cast,↓u1,↓u2,↓u3,Nat.reduceAdd,Nat.reduceBEq,Nat.reduceDiv,Nat.reduceMod]) (by dsimp only [push_cast,↓u1,↓u2,↓u3,Nat.reduceAdd,Nat.reduceBEq,Nat.reduceDiv,Nat.reduceMod]) (by kernel_rfl)
end Go.Proofs.YtgjamnhjlaohaaaGreatDoor.V
namespace Go.Proofs.YtgjamnhjlaohaaaGreatDoor.S
open Go Go.RowKit Go.Alog Go.Proofs.YtgjamnhjlaohaaaGreatDoor.T Go.Proofs.YtgjamnhjlaohaaaGreatDoor.V
def Sp (m:AM):Prop:=∃ C T f,m 1=some (.cells C T f)/\∀ c:Nat,c<256->C[c]?=some (.int .u8 (if Lib.isSp (UInt8.ofNat c) then 1 else 0))
theorem Sp.le {m m':AM} (h:Sp m) (l:m.le m'):Sp m':=by
 obtain ⟨C,T,f,h1,h2⟩:=h
 exact ⟨C,T,f,l _ _ h1,h2⟩
def fldL (s:ByteArray):List ByteArray:=(Lib.fields s.data.toList).map fun l=>⟨l.toArray⟩
theorem fieldsRen:Go.Proofs.Tryz.lFields_ren.f 157=170/\Go.Proofs.Tryz.lFields_ren.g 0=1/\Go.Proofs.Tryz.lFields_ren.t 9=9:=by decide
theorem fields_c (w0:World) (m:AM) (s:ByteArray) (hs:s.size<4294967281) (ha:∀ (j:Nat) b,s.data.toList[j]?=some b->b.toNat<128) (hsp:Sp m) :
  CallsA Tryz.prog w0 170 #[.string s] m (fun r m'=>∃ b,r=.slice (some ⟨b,0,none⟩) (fldL s).length (fldL s).length/\m.le m'/\m' b=some (.cells ((fldL s).map Value.string).toArray 9 (0,0))):=by
 intro W hW
 obtain ⟨C,T,f,h1,h2⟩:=hsp
 obtain ⟨e1,e2,e3⟩:=fieldsRen
 have:=Go.Proofs.Any.strings_Fields_core Go.Proofs.Tryz.lFields (by kernel_rfl) s W hs ha (fun c hc=>by rw [e2]; exact hW.cell (by rw [cell_of h1]; exact h2 c hc))
 rw [e1,e3] at this
 refine this.mono ?_
 rintro e W' ⟨rfl,rfl⟩
 refine ⟨_,m.upd W.heap.size _,rfl,hW.new _,W.heap.size,by simp [fldL],le_new hW.free _,?_⟩
 rw [upd_get_same]
 simp [fldL]
def wordS:ByteArray:=ByteArray.mk #[112,114,111,103,114,97,109,32,109,111,100,117,108,101,32,118,97,114,32,101,120,116,101,114,110,97,108,32,112,114,111,99,101,100,117,114,101,32,98,101,103,105,110,32,101,110,100,32,105,102,32,116,104,101,110,32,101,108,115,101,32,119,104,105,108,101,32,100,111,32,119,114,105,116,101,32,114,101,97,100,32,110,111,116,32,97,110,100,32,111,114,32,100,105,118,32,109,111,100]
def WL:List ByteArray:=fldL wordS
theorem words_c (w0:World) (m:AM) (hsp:Sp m) :
  CallsA Tryz.prog w0 139 #[] m (fun r m'=>∃ b,r=.slice (some ⟨b,0,none⟩) WL.length WL.length/\m.le m'/\m' b=some (.cells (WL.map Value.string).toArray 9 (0,0))):=by
 refine cf139 w0 m _ ?_
 refine CallsA.mono (fields_c w0 m wordS (by decide) (fun j b h=>?_) hsp) ?_
 .have hm:=List.mem_of_getElem? h
  have:∀ x∈wordS.data.toList,x.toNat<128:=by decide
  exact this _ hm
 .rintro r m2 ⟨b,rfl,l,p⟩
  exact ⟨_,_,_,rfl,retP_of ⟨b,rfl,l,p⟩⟩
def isW (x:ByteArray):Bool:=Lib.containsS WL x
theorem containsRen:Go.Proofs.Tryz.lContains_ren.f 110=138:=by decide
theorem contains_c (w0:World) (m:AM) (b:Nat) (x:ByteArray) (p:m b=some (.cells (WL.map Value.string).toArray 9 (0,0))) :
  CallsA Tryz.prog w0 138 #[.slice (some ⟨b,0,none⟩) WL.length WL.length,.string x] m (fun r m'=>r=.bool (isW x)/\m'=m):=by
 intro W hW
 have:=Go.Proofs.Any.slices_Contains_string Go.Proofs.Tryz.lContains b 0 WL.length WL.length WL x W (Nat.le_refl _) ?_ (fun j hj=>hW.cell ?_)
 .rw [containsRen] at this
  refine this.mono ?_
  rintro e W' ⟨rfl,rfl⟩
  exact ⟨_,m,rfl,hW,by simp [isW],rfl⟩
 .have h1:(Lib.fields wordS.data.toList).length<=200:=by decide
  have:WL.length=(Lib.fields wordS.data.toList).length:=by simp [WL,fldL]
  omega
 .rw [Nat.zero_add,cell_of p]
  simp [List.getD,hj]
end Go.Proofs.YtgjamnhjlaohaaaGreatDoor.S
namespace Go.Proofs.YtgjamnhjlaohaaaGreatDoor.V
open Go Go.Alog Go.Proofs.YtgjamnhjlaohaaaGreatDoor.T
variable (w0:World) (m:AM)
noncomputable abbrev cf49 (x0:Nat) (R:RT):Vn (C_ w0 49 #[.pointer (some ⟨x0,5,none⟩)] m R):=mkF (F:=F49) Tryz.func49 (by dsimp only [push_cast,↓u1,↓u2,↓u3,Nat.reduceAdd,Nat.reduceBEq,Nat.reduceDiv,Nat.reduceMod]) (by kernel_rfl)
noncomputable abbrev cf149 (x0:Nat) (R:RT):Vn (C_ w0 149 #[.pointer (some ⟨x0,5,none⟩)] m R):=mkF (F:=F149) Tryz.func149 (by dsimp only [push_cast,↓u1,↓u2,↓u3,Nat.reduceAdd,Nat.reduceBEq,Nat.reduceDiv,Nat.reduceMod]) (by kernel_rfl)
noncomputable abbrev cf196 (x0:Nat) (R:RT):Vn (C_ w0 196 #[.pointer (some ⟨x0,5,none⟩)] m R):=mkF (F:=F196) Tryz.func196 (by dsimp only [push_cast,↓u1,↓u2,↓u3,Nat.reduceAdd,Nat.reduceBEq,Nat.reduceDiv,Nat.reduceMod]) (by kernel_rfl)
noncomputable abbrev cf171 (x0:Nat) (x1:ByteArray) (x2_0 x2_1 x2_2:Int) (x2_3:Bool) (R:RT):Vn (C_ w0 171 #[.pointer (some ⟨x0,5,none⟩),.string x1,.agg #[I_ x2_0,I_ x2_1,I_ x2_2,.bool x2_3]] m R):=mkF (F:=F171) Tryz.func171 (by dsimp only [push_cast,↓u1,↓u2,↓u3,Nat.reduceAdd,Nat.reduceBEq,Nat.reduceDiv,Nat.reduceMod]) (by kernel_rfl)
noncomputable abbrev cf173 (x0:Nat) (x1:ByteArray) (R:RT):Vn (C_ w0 173 #[.pointer (some ⟨x0,5,none⟩),.string x1] m R):=mkF (F:=F173) Tryz.func173 (by dsimp only [push_cast,↓u1,↓u2,↓u3,Nat.reduceAdd,Nat.reduceBEq,Nat.reduceDiv,Nat.reduceMod]) (by kernel_rfl)
noncomputable abbrev vl173_11010 (σ:Sg) (R:RT) (x0:Nat) (x1:ByteArray) (x4:Nat) (x7 x8:Int) (I0:Nat->Int->Int->AM->Prop) (E0_0:AM->Prop) (N:Nat) (h0:σ 0=.pointer (some ⟨x0,5,none⟩)) (h1:σ 1=.string x1) (h4:σ 4=pt_ x4) (h7:σ 7=I_ x7) (h8:σ 8=I_ x8) (h_0:I0 N x7 x8 m):Vn (Vn (XV w0 F173 (Tz R) 58 σ m)):=mkL1 (lq173_11010 R x0 x1 x4 I0 E0_0) (fun _=>rfl) N (cs h0 (cs h1 (cs h4 nl))) (cs h7 (cs h8 nl)) h_0 (by dsimp only [push_cast,↓u1,↓u2,↓u3,Nat.reduceAdd,Nat.reduceBEq,Nat.reduceDiv,Nat.reduceMod]) (by dsimp only [push_cast,↓u1,↓u2,↓u3,Nat.reduceAdd,Nat.reduceBEq,Nat.reduceDiv,Nat.reduceMod]) (by kernel_rfl)
noncomputable abbrev vl173_11010010000 (σ:Sg) (R:RT) (n0:Nat) (I0:Nat->Int->Int->AM->Prop) (E0_0:AM->Prop) (x0:Nat) (x1:ByteArray) (x4:Nat) (x8 x7:Int) (I1:Nat->Int->AM->Prop) (E1_2:Int->AM->Prop) (N:Nat) (h0:σ 0=.pointer (some ⟨x0,5,none⟩)) (h1:σ 1=.string x1) (h4:σ 4=pt_ x4) (h7:σ 7=I_ x7) (h8:σ 8=I_ x8) (h_0:I1 N x7 m):Vn (Vn (XV w0 F173 (lq173_11010 R x0 x1 x4 I0 E0_0 n0) 3728 σ m)):=mkL1 (lq173_11010010000 R x0 x1 x4 x8 I1 E1_2) (fun _=>rfl) N (cs h0 (cs h1 (cs h4 (cs h8 nl)))) (cs h7 nl) h_0 (by dsimp only [push_cast,↓u1,↓u2,↓u3,Nat.reduceAdd,Nat.reduceBEq,Nat.reduceDiv,Nat.reduceMod]) (by dsimp only [push_cast,↓u1,↓u2,↓u3,Nat.reduceAdd,Nat.reduceBEq,Nat.reduceDiv,Nat.reduceMod]) (by kernel_rfl)
end Go.Proofs.YtgjamnhjlaohaaaGreatDoor.V
namespace Go.Proofs.YtgjamnhjlaohaaaGreatDoor.S
open Go Go.RowKit Go.Alog Go.Proofs.YtgjamnhjlaohaaaGreatDoor.T Go.Proofs.YtgjamnhjlaohaaaGreatDoor.V
structure Tok where
 kind:Int
 text:ByteArray
 n:Int
 pos:Int
structure Thg where
 kind:Int
 pos:Int
 size:Int
 takes:Bool
structure Pch where
 pos:Int
 kind:Int
 n:Int
structure Ent where
 name:ByteArray
 v:Thg
structure Sbl where
 name:ByteArray
 pos:Int
def Tok.cells (t:Tok):List Value:=[.int .i64 t.kind,.string t.text,.int .i64 t.n,.int .i64 t.pos]
def Thg.cells (t:Thg):List Value:=[.int .i64 t.kind,.int .i64 t.pos,.int .i64 t.size,.bool t.takes]
def Thg.val (t:Thg):Value:=.agg #[.int .i64 t.kind,.int .i64 t.pos,.int .i64 t.size,.bool t.takes]
def Pch.cells (t:Pch):List Value:=[.int .i64 t.pos,.int .i64 t.kind,.int .i64 t.n]
def Ent.cells (t:Ent):List Value:=.string t.name :: t.v.cells
def Sbl.cells (t:Sbl):List Value:=[.string t.name,.int .i64 t.pos]
structure CS where
 toks:List Tok
 fin:Int
 code:List Ins
 pats:List Pch
 taken:Int
 ents:List Ent
 begs:List Int
 name:ByteArray
 data:Int
 exps:List Sbl
 imps:List ByteArray
 e:Int
 bad:Int
 factors:Int
 nested:Int
def fT:Nat->TypeId
 | 0=>57
 | 1=>86
 | 2=>243
 | 3=>3
 | 4=>137
 | _=>9
def fS:Nat->Nat
 | 0=>5
 | 1=>3
 | 2=>5
 | 3=>1
 | 4=>2
 | _=>1
def CS.len (s:CS):Nat->Nat
 | 0=>s.code.length
 | 1=>s.pats.length
 | 2=>s.ents.length
 | 3=>s.begs.length
 | 4=>s.exps.length
 | _=>s.imps.length
def CS.xs (s:CS):Nat->List Value
 | 0=>insCells s.code
 | 1=>s.pats.flatMap Pch.cells
 | 2=>s.ents.flatMap Ent.cells
 | 3=>intCells .i64 s.begs
 | 4=>s.exps.flatMap Sbl.cells
 | _=>s.imps.map Value.string
abbrev Sls:=Nat->Option Addr × Nat
def Blk (s:CS) (At:Option Addr) (ct:Nat) (L:Sls):Array Value:=#[.slice At s.toks.length ct,.int .i64 s.fin,.slice (L 0).1 s.code.length (L 0).2,.slice (L 1).1 s.pats.length (L 1).2,.int .i64 s.taken,.slice (L 2).1 s.ents.length (L 2).2,.slice (L 3).1 s.begs.length (L 3).2,.string s.name,.slice none 0 0,.int .i64 s.data,.slice (L 4).1 s.exps.length (L 4).2,.slice (L 5).1 s.imps.length (L 5).2,.slice none 0 0,.int .i64 s.e,.int .i64 s.bad,.int .i64 s.factors,.int .i64 s.nested]
structure CI (mt m0 m:AM) (B c:Nat) (s:CS) (At:Option Addr) (ct:Nat) (L:Sls):Prop where
 sp:Sp mt
 lt:mt.le m0
 le:m0.le m
 hc:B<=c
 nc:m0 c=none
 ps:m c=some (.cells (Blk s At ct L) 72 (0,0))
 rt:Reads mt 4 At s.toks.length (s.toks.flatMap Tok.cells)
 tc:s.toks.length<=ct
 ow:∀ j,j<6->Alog.Own m B (fT j) (fS j) (L j).1 (s.len j) (L j).2 (s.xs j)
 nw:∀ j,j<6->∀ k∈obl (L j).1,m0 k=none
def CIx (mt m0 m:AM) (B c:Nat) (s:CS):Prop:=∃ At ct L,CI mt m0 m B c s At ct L
theorem fT_ne {j:Nat} (h:j<6):(72:TypeId)≠fT j:=by
 have:∀ j,j<6->(72:TypeId)≠fT j:=by decide
 exact this j h
theorem fT_inj {i j:Nat} (h:i<6) (h':j<6) (hn:i≠j):fT i≠fT j:=by
 have:∀ i,i<6->∀ j,j<6->i≠j->fT i≠fT j:=by decide
 exact this i h j h' hn
theorem rd_of {m:AM} {b:Nat} {cs:List Value} {e:TypeId} {sz n:Nat} (h:m b=some (.cells cs.toArray e (0,0))) (hl:cs.length=n*sz):Reads m sz (some ⟨b,0,none⟩) n cs :=
 ⟨hl,.inr ⟨_,rfl,fun j u hu=>by rw [addn,Nat.zero_add,cell_of h]; simpa using hu⟩⟩
theorem elI:elOf Tryz.prog 25=some (fT 0,fS 0,40,Ins.cells ⟨0,0,0,0,0⟩):=by kernel_rfl
theorem elP:elOf Tryz.prog 43=some (fT 1,fS 1,24,Pch.cells ⟨0,0,0⟩):=by kernel_rfl
theorem elN:elOf Tryz.prog 33=some (fT 3,fS 3,8,[.int .i64 0]):=by kernel_rfl
section
variable {mt m0 m m':AM} {B c:Nat} {s s':CS} {At:Option Addr} {ct:Nat} {L:Sls}
theorem CI.nec {k:Nat} {j:Nat} (h:CI mt m0 m B c s At ct L) (hj:j<6) (hk:k∈obl (L j).1):k≠c:=fun e =>
 (h.ow j hj).obl_ne h.ps (fT_ne hj) (e ▸ hk)
theorem CI.grow (h:CI mt m0 m B c s At ct L) (l:m.le m'):CI mt m0 m' B c s At ct L :=
 ⟨h.sp,h.lt,AM.le_trans h.le l,h.hc,h.nc,l _ _ h.ps,h.rt,h.tc,fun j hj=>(h.ow j hj).le l,h.nw⟩
theorem CI.box (h:CI mt m0 m B c s At ct L) {b:Nat} (hb:m b=none) (o:Obj):CI mt (m0.upd b o) (m.upd b o) B c s At ct L:=by
 have hb0:m0 b=none:=AM.le_none h.le hb
 have hcb:c≠b:=fun e=>by have:=h.ps; rw [e,hb] at this; cases this
 refine ⟨h.sp,AM.le_trans h.lt (le_new hb0 _),?_,h.hc,by rw [upd_get_ne hcb]; exact h.nc,by rw [upd_get_ne hcb]; exact h.ps,h.rt,h.tc,fun j hj=>(h.ow j hj).le (le_new hb _),fun j hj k hk=>?_⟩
 .intro k o' hk
  by_cases e:k=b
  .subst e; rw [upd_get_same] at hk ⊢; exact hk
  .rw [upd_get_ne e] at hk ⊢; exact h.le _ _ hk
 .have:k≠b:=fun e=>by
   obtain ⟨_,cur,h1⟩:=(h.ow j hj).obl_some hk
   rw [e,hb] at h1; cases h1
  rw [upd_get_ne this]; exact h.nw j hj k hk
theorem CI.base {m1:AM} (h:CI mt m1 m B c s At ct L) (l:m0.le m1) (lt:mt.le m0):CI mt m0 m B c s At ct L :=
 ⟨h.sp,lt,AM.le_trans l h.le,h.hc,AM.le_none l h.nc,h.ps,h.rt,h.tc,h.ow,fun j hj k hk=>AM.le_none l (h.nw j hj k hk)⟩
theorem CIx.base {m1:AM} (h:CIx mt m1 m B c s) (l:m0.le m1) (lt:mt.le m0):CIx mt m0 m B c s:=by
 obtain ⟨_,_,_,h⟩:=h
 exact ⟨_,_,_,h.base l lt⟩
theorem CIx.grow (h:CIx mt m0 m B c s) (l:m.le m'):CIx mt m0 m' B c s:=by
 obtain ⟨_,_,_,h⟩:=h
 exact ⟨_,_,_,h.grow l⟩
theorem CIx.le (h:CIx mt m0 m B c s):m0.le m:=by
 obtain ⟨_,_,_,h⟩:=h
 exact h.le
theorem CIx.sp (h:CIx mt m0 m B c s):Sp m:=by
 obtain ⟨_,_,_,h⟩:=h
 exact (h.sp.le h.lt).le h.le
theorem CIx.lt (h:CIx mt m0 m B c s):mt.le m0:=by
 obtain ⟨_,_,_,h⟩:=h
 exact h.lt
theorem CIx.box (h:CIx mt m0 m B c s) {b:Nat} (hb:m b=none) (o:Obj):CIx mt (m0.upd b o) (m.upd b o) B c s/\m0.le (m0.upd b o):=by
 obtain ⟨_,_,_,h⟩:=h
 exact ⟨⟨_,_,_,h.box hb o⟩,le_new (AM.le_none h.le hb) _⟩
theorem CI.st (h:CI mt m0 m B c s At ct L) {k:Nat} {v:Value} {At':Option Addr} {ct':Nat} (he:(Blk s At ct L).setIfInBounds k v=Blk s' At' ct' L) (hk:k<17)
  (hn:∀ j,s'.len j=s.len j) (hx:∀ j,s'.xs j=s.xs j) (ht:Reads mt 4 At' s'.toks.length (s'.toks.flatMap Tok.cells)) (htc:s'.toks.length<=ct') {K:AM->Prop} (hK:∀ m',CI mt m0 m' B c s' At' ct' L->K m'):StC B m ⟨c,k,none⟩ v K:=by
 refine StC_own h.ps h.hc hk ?_
 rw [he]
 refine hK _ ⟨h.sp,h.lt,?_,h.hc,h.nc,upd_get_same,ht,htc,fun j hj=>?_,h.nw⟩
 .intro k' o hk'
  have:k'≠c:=fun e=>by rw [e,h.nc] at hk'; cases hk'
  rw [upd_get_ne this]; exact h.le _ _ hk'
 .rw [hn,hx]
  exact (h.ow j hj).upd fun off e=>(h.ow j hj).ne_type h.ps (fT_ne hj) off e
theorem CI.st' (h:CI mt m0 m B c s At ct L) {k:Nat} {v:Value} (he:(Blk s At ct L).setIfInBounds k v=Blk s' At ct L) (hk:k<17) (hn:∀ j,s'.len j=s.len j) (hx:∀ j,s'.xs j=s.xs j) (ht:s'.toks=s.toks) {K:AM->Prop} (hK:∀ m',CIx mt m0 m' B c s'->K m'):StC B m ⟨c,k,none⟩ v K :=
 h.st he hk hn hx (by rw [ht]; exact h.rt) (by rw [ht]; exact h.tc) fun m' h'=>hK m' ⟨_,_,_,h'⟩
theorem CI.app (h:CI mt m0 m B c s At ct L) {j p:Nat} (hj:j<6) {t ty:TypeId} {bs:Nat} {z:List Value} (hel:elOf Tryz.prog t=some (fT j,fS j,bs,z)) (hbs:bs<=64) (hlen:s.len j<=1000000) (hp:p<17)
  {A2:Option Addr} {c2:Nat} {news:List Value} (hr:Reads m (fS j) A2 1 news) (h1:∀ u∈news,u.oneCell'=true)
  (hblk:∀ g cp',(Blk s At ct L).setIfInBounds p (.slice (some ⟨g,0,none⟩) (s.len j+1) cp')=Blk s' At ct (fun i=>if i=j then (some ⟨g,0,none⟩,cp') else L i))
  (hn:s'.len j=s.len j+1) (hx:s'.xs j=s.xs j ++ news) (ho:∀ i,i≠j->i<6->s'.len i=s.len i/\s'.xs i=s.xs i) (ht:s'.toks=s.toks)
  {K:AM->Prop} (hK:∀ m',CIx mt m0 m' B c s'->K m') :
  awp Tryz.prog B (Builtin.append_ #[t,t] ty #[.slice (L j).1 (s.len j) (L j).2,.slice A2 1 c2]) m fun v m1=>∃ A' n' c',v=.slice A' n' c'/\StC B m1 ⟨c,p,none⟩ (.slice A' n' c') K:=by
 refine awp_append_field hel (h.ow j hj) hr h1 (by have:=Nat.mul_le_mul (show s.len j+1<=1000001 by omega) hbs; omega) (by omega) (by omega) h.ps h.hc (fT_ne hj) hp (fun g2 cp' cur hor hB2 hgg hown=>?_)
 rw [hblk] at hown ⊢
 have hg0:m0 g2=none:=by
  rcases hor with h' | h'
  .exact h.nw j hj g2 (by rw [h']; simp [obl])
  .exact AM.le_none h.le h'
 refine hK _ ⟨At,ct,_,h.sp,h.lt,?_,h.hc,h.nc,upd_get_same,by rw [ht]; exact h.rt,by rw [ht]; exact h.tc,fun i hi=>?_,fun i hi k hk=>?_⟩
 .intro k o hk
  have e1:k≠c:=fun e=>by rw [e,h.nc] at hk; cases hk
  have e2:k≠g2:=fun e=>by rw [e,hg0] at hk; cases hk
  rw [upd_get_ne e1,upd_get_ne e2]; exact h.le _ _ hk
 .by_cases e:i=j
  .subst e
   rw [hn,hx]
   simpa using hown
  .obtain ⟨h2,h3⟩:=ho i e hi
   rw [h2,h3]
   simp only [e,if_false]
   refine ((h.ow i hi).upd fun off e'=>?_).upd fun off e'=>(h.ow i hi).ne_type h.ps (fT_ne hi) off e'
   rcases hor with h' | h'
   .obtain ⟨_,cur',k2⟩:=(h.ow j hj).obl_some (k:=g2) (by rw [h']; simp [obl])
    exact (h.ow i hi).ne_type k2 (fT_inj hj hi (Ne.symm e)) off e'
   .exact (h.ow i hi).ne_none h' off e'
 .by_cases e:i=j
  .simp only [e,if_true,obl,List.mem_singleton] at hk
   rw [hk]; exact hg0
  .simp only [e,if_false] at hk
   exact h.nw i hi k hk
end
def CS.put (s:CS) (i:Ins):CS:={ s with code:=s.code ++ [i] }
def CS.mark (s:CS) (i:Ins) (k n:Int):CS:={ s with code:=s.code ++ [i],pats:=s.pats ++ [⟨s.code.length,k,n⟩] }
theorem put_c (w0:World) (mt m0 m:AM) (c:Nat) (s:CS) (i:Ins) (h:CIx mt m0 m w0.heap.size c s) (hl:s.code.length<=1000000) :
  CallsA Tryz.prog w0 55 #[.pointer (some ⟨c,2,none⟩),i.val] m (fun r m'=>r=.int .i64 s.code.length/\CIx mt m0 m' w0.heap.size c (s.put i)):=by
 obtain ⟨At,ct,L,h⟩:=h
 refine cf55 w0 m c _ _ _ _ _ _ ?_
 intro b1 hBb1 hNb1 M1
 have l1:AM.le _ M1:=le_new hNb1 _
 have p1:M1 b1=some (.cells (Ins.cells i).toArray 57):=upd_get_same
 clear_value M1
 have h:=h.grow l1
 refine ⟨_,_,_,cel h.ps rfl,_,cel p1 rfl,_,cel p1 rfl,_,cel p1 rfl,_,cel p1 rfl,_,cel p1 rfl,rfl,?_⟩
 intro b2 hBb2 hNb2 M2
 have l2:AM.le _ M2:=le_new hNb2 _
 have p2:M2 b2=some (.cells (Ins.cells i).toArray 57):=upd_get_same
 clear_value M2
 have h:=h.grow l2
 refine CI.app h (j:=0) (p:=2) (s':=s.put i) (by omega) elI (by omega) hl (by omega) (rd_of p2 rfl) (ins_one i) (fun g cp'=>by simp [Blk,CS.len,CS.put]) (by simp [CS.len,CS.put]) (by simp [CS.xs,CS.put,insCells_app,insCells]) (fun i hi h6=>?_) rfl (fun m' h'=>?_)
 .rcases i with _ | _ | _ | _ | _ | _ | _ <;> first | omega | exact ⟨rfl,rfl⟩
 .obtain ⟨At',ct',L',h'⟩:=h'
  refine ⟨_,_,_,cel h'.ps rfl,rfl,retP_of ⟨?_,_,_,_,h'⟩⟩
  simp only [CS.put,List.length_append,List.length_singleton]
  rw [IntKind.wrap_i64]; congr 1; omega
theorem mark_c (w0:World) (mt m0 m:AM) (c:Nat) (s:CS) (i:Ins) (k n:Int) (h:CIx mt m0 m w0.heap.size c s) (hl:s.code.length<=1000000) (hl':s.pats.length<=1000000) :
  CallsA Tryz.prog w0 53 #[.pointer (some ⟨c,2,none⟩),i.val,.int .i64 k,.int .i64 n] m (fun r m'=>r=.int .i64 s.code.length/\CIx mt m0 m' w0.heap.size c (s.mark i k n)):=by
 obtain ⟨At,ct,L,h⟩:=h
 refine cf53 w0 m c _ _ _ _ _ _ _ _ ?_
 intro b1 hB1 hN1 M1
 have p1:M1 b1=some (.cells (Ins.cells i).toArray 57):=upd_get_same
 have h0:CI mt (m0.upd b1 (.cells (Ins.cells i).toArray 57)) M1 w0.heap.size c s At ct L:=h.box hN1 _
 have l0:m0.le (m0.upd b1 (.cells (Ins.cells i).toArray 57)):=le_new (AM.le_none h.le hN1) _
 clear_value M1
 refine ⟨_,_,_,cel h0.ps rfl,_,_,_,cel h0.ps rfl,rfl,rfl,?_⟩
 intro b2 hB2 hN2 M2
 have l2:AM.le M1 M2:=le_new hN2 _
 have p2:M2 b2=some (.cells (Pch.cells ⟨s.code.length,k,n⟩).toArray 86):=upd_get_same
 clear_value M2
 have h1:=h0.grow l2
 refine CI.app h1 (j:=1) (p:=3) (s':={ s with pats:=s.pats ++ [⟨s.code.length,k,n⟩] }) (by omega) elP (by omega) hl' (by omega) (rd_of p2 rfl) (by simp [Pch.cells,Value.oneCell']) (fun g cp'=>by simp [Blk,CS.len]) (by simp [CS.len]) (by simp [CS.xs]) (fun i hi h6=>?_) rfl (fun m' h'=>?_)
 .rcases i with _ | _ | _ | _ | _ | _ | _ <;> first | omega | exact ⟨rfl,rfl⟩
 .have q1:m' b1=some (.cells (Ins.cells i).toArray 57):=by
   obtain ⟨_,_,_,h'⟩:=h'
   exact h'.le _ _ upd_get_same
  refine ⟨_,cel q1 rfl,_,cel q1 rfl,_,cel q1 rfl,_,cel q1 rfl,_,cel q1 rfl,?_⟩
  refine CallsA.mono (put_c w0 _ _ _ c _ i h' hl) ?_
  rintro r m2 ⟨rfl,h2⟩
  refine ⟨_,rfl,retP_of ⟨rfl,?_⟩⟩
  exact h2.base l0 h.lt
end Go.Proofs.YtgjamnhjlaohaaaGreatDoor.S
namespace Go.Proofs.YtgjamnhjlaohaaaGreatDoor.V
open Go Go.Alog Go.Proofs.YtgjamnhjlaohaaaGreatDoor.T
variable (w0:World) (m:AM)
noncomputable abbrev cf127 (x0 x1:Int) (R:RT):Vn (C_ w0 127 #[I_ x0,I_ x1] m R):=mkF (F:=F127) Tryz.func127 (by dsimp only [push_cast,↓u1,↓u2,↓u3,Nat.reduceAdd,Nat.reduceBEq,Nat.reduceDiv,Nat.reduceMod]) (by kernel_rfl)
noncomputable abbrev cf132 (x0 x1:Int) (R:RT):Vn (C_ w0 132 #[I_ x0,I_ x1] m R):=mkF (F:=F132) Tryz.func132 (by dsimp only [push_cast,↓u1,↓u2,↓u3,Nat.reduceAdd,Nat.reduceBEq,Nat.reduceDiv,Nat.reduceMod]) (by kernel_rfl)
end Go.Proofs.YtgjamnhjlaohaaaGreatDoor.V
namespace Go.Proofs.YtgjamnhjlaohaaaGreatDoor.S
open Go Go.RowKit Go.Alog Go.Proofs.YtgjamnhjlaohaaaGreatDoor.T Go.Proofs.YtgjamnhjlaohaaaGreatDoor.V
theorem wrapW (w0:World) (m:AM) (n:Int):CallsA Tryz.prog w0 130 #[.int .i64 n] m (fun r m'=>r=.int .i64 (w32 n)/\m'=m) :=
 by
 refine cf130 w0 m n _ ?_
 dsimp only [cf130,mkF]
 refine retP_of ?_
 exact ⟨by rw [<- w64_w32]; rfl,rfl⟩
theorem addW (w0:World) (m:AM) (a b:Int):CallsA Tryz.prog w0 127 #[.int .i64 a,.int .i64 b] m (fun r m'=>r=.int .i64 (w32 (a+b))/\m'=m):=by
 refine cf127 w0 m a b _ ?_
 refine ⟨rfl,CallsA.mono (wrapW w0 m _) ?_⟩
 rintro r m' ⟨rfl,rfl⟩
 exact ⟨_,rfl,retP_of ⟨by rw [w32_w64],rfl⟩⟩
theorem divW (w0:World) (m:AM) (a b:Int):CallsA Tryz.prog w0 132 #[.int .i64 a,.int .i64 b] m (fun r m'=>(if w32 b=0 then r=.tuple #[.int .i64 0,.int .i64 0,.bool false] else r=.tuple #[.int .i64 (w32 ((w32 a).tdiv (w32 b))),.int .i64 ((w32 a).tmod (w32 b)),.bool true])/\m'=m):=by
 refine cf132 w0 m a b _ ?_
 refine CallsA.mono (wrapW w0 m a) ?_
 rintro r m1 ⟨rfl,rfl⟩
 refine ⟨_,rfl,CallsA.mono (wrapW w0 _ b) ?_⟩
 rintro r m1 ⟨rfl,rfl⟩
 refine ⟨_,rfl,?_⟩
 by_cases h:w32 b=0
 .simp only [h,beq_self_eq_true,std_all,sto_all,Nat.reduceAdd,Nat.reduceLT,LI_,LB_,LA_,SI_,pt_,KI_,I_,SJ_,S_,LT_,LS_,LC_,LU_,LV_,RB_,RI_,RS_,N_,T_,SE_,if_true]
  exact retP_of ⟨rfl,rfl⟩
 .have hb:(w32 b == 0)=false:=by simpa using h
  simp only [hb,std_all,sto_all,Nat.reduceAdd,Nat.reduceLT,LI_,LB_,LA_,SI_,pt_,KI_,I_,SJ_,S_,LT_,LS_,LC_,LU_,LV_,RB_,RI_,RS_,N_,T_,SE_,if_neg h]
  refine ⟨h,CallsA.mono (wrapW w0 _ _) ?_⟩
  rintro r m1 ⟨rfl,rfl⟩
  exact ⟨_,rfl,h,retP_of ⟨by rw [w32_w64],rfl⟩⟩
def farB (i:Ins):Bool:=i.op == 17 || i.op == 18
theorem far_c (w0:World) (m:AM) (i:Ins):CallsA Tryz.prog w0 98 #[i.val] m (fun r m'=>r=.bool (farB i)/\m.le m'):=by
 refine cf98 w0 m _ _ _ _ _ _ ?_
 intro b1 hb1 hm1
 simp only [std_all,LI_,LB_,LA_,SI_,pt_,KI_,I_,SJ_,S_,LT_,LS_,LC_,LU_,LV_,RB_,RI_,RS_,N_,T_,SE_]
 have hle1:=AM.le_upd (AM.le_refl m) hm1 (o:=.cells i.cells.toArray 57)
 unfold bcase farB
 cases h1:(i.op == 17) <;> simp only [cond_true,cond_false,Bool.true_or,Bool.false_or,std_all,LI_,LB_,LA_,SI_,pt_,KI_,I_,SJ_,S_,LT_,LS_,LC_,LU_,LV_,RB_,RI_,RS_,N_,T_,SE_]
 .exact retP_of ⟨rfl,hle1⟩
 .exact retP_of ⟨rfl,hle1⟩
def CS.jump (s:CS) (i:Ins):CS:=bif farB i then s.mark i 0 0 else s.put i
theorem jump_c (w0:World) (mt m0 m:AM) (c:Nat) (s:CS) (i:Ins) (h:CIx mt m0 m w0.heap.size c s) (hl:s.code.length<=1000000) (hl':s.pats.length<=1000000) :
  CallsA Tryz.prog w0 50 #[.pointer (some ⟨c,2,none⟩),i.val] m (fun r m'=>r=.int .i64 s.code.length/\CIx mt m0 m' w0.heap.size c (s.jump i)):=by
 refine cf50 w0 m c _ _ _ _ _ _ ?_
 intro b1 hBb1 hNb1 M1
 have l1:AM.le _ M1:=le_new hNb1 _
 have p1:M1 b1=some (.cells (Ins.cells i).toArray 57):=upd_get_same
 clear_value M1
 refine ⟨_,cel p1 rfl,_,cel p1 rfl,_,cel p1 rfl,_,cel p1 rfl,_,cel p1 rfl,?_⟩
 refine CallsA.mono (far_c w0 M1 i) ?_
 rintro r m2 ⟨rfl,l2⟩
 have p2:=l2 _ _ p1
 have h2:=h.grow (AM.le_trans l1 l2)
 refine ⟨_,rfl,?_⟩
 unfold CS.jump
 cases farB i
 .refine ⟨_,cel p2 rfl,_,cel p2 rfl,_,cel p2 rfl,_,cel p2 rfl,_,cel p2 rfl,?_⟩
  refine CallsA.mono (put_c w0 _ _ _ c _ i h2 hl) ?_
  rintro r m3 ⟨rfl,h3⟩
  exact ⟨_,rfl,retP_of ⟨rfl,h3⟩⟩
 .refine ⟨_,cel p2 rfl,_,cel p2 rfl,_,cel p2 rfl,_,cel p2 rfl,_,cel p2 rfl,?_⟩
  refine CallsA.mono (mark_c w0 _ _ _ c _ i 0 0 h2 hl hl') ?_
  rintro r m3 ⟨rfl,h3⟩
  exact ⟨_,rfl,retP_of ⟨rfl,h3⟩⟩
def aimI (i:Ins) (at_ tq:Int):Option Ins :=
 bif farB i then some { i with imm:=tq } else bif i.op == 15 || i.op == 16 then some { i with imm:=IntKind.wrap .i64 (IntKind.wrap .i64 (tq-at_)-1) } else none
def aimC (code:List Ins) (at_ tq:Int):Option Ins :=
 if at_<0 then none else if at_>=code.length then none else (code[at_.toNat]?).bind fun i=>aimI i at_ tq
def setC (code:List Ins) (at_:Int):Option Ins->List Ins
 | some i=>code.set at_.toNat i
 | none=>code
theorem setC_len (code:List Ins) (at_:Int) (o:Option Ins):(setC code at_ o).length=code.length:=by cases o <;> simp [setC]
def CS.aim (s:CS) (at_ tq:Int):CS:={ s with code:=setC s.code at_ (aimC s.code at_ tq) }
theorem CI.row {mt m0 m:AM} {B c:Nat} {s:CS} {At:Option Addr} {ct:Nat} {L:Sls} (h:CI mt m0 m B c s At ct L) {A0:Addr} (hA:(L 0).1=some A0) {k:Nat} (hk:k<s.code.length) (i:Ins) {K:AM->Prop}
  (hK:∀ m',CIx mt m0 m' B c { s with code:=s.code.set k i }->K m'):StL B (A0.add (k*5)) 0 i.cells m K:=by
 have ho:=h.ow 0 (by omega)
 rw [hA] at ho
 refine Own.storeRow (f:=Ins.cells) (l:=s.code) Ins.len ho hk i fun gA cur hA' hn=>hK _ ⟨At,ct,L,h.sp,h.lt,?_,h.hc,h.nc,?_,h.rt,h.tc,fun j hj=>?_,h.nw⟩
 .intro k' o hk'
  have:k'≠gA:=fun e=>by
   have:=h.nw 0 (by omega) gA (by rw [hA,hA']; simp [obl])
   rw [e,this] at hk'; cases hk'
  rw [upd_get_ne this]; exact h.le _ _ hk'
 .have:c≠gA:=fun e=>h.nec (j:=0) (k:=gA) (by omega) (by rw [hA,hA']; simp [obl]) e.symm
  rw [upd_get_ne this,h.ps]
  simp [Blk]
 .by_cases e:j=0
  .subst e
   rw [hA]; exact hn
  .have e2:CS.xs { s with code:=s.code.set k i } j=s.xs j:=by rcases j with _ | _ | _ | _ | _ | _ | _ <;> first | omega | rfl
   have e3:CS.len { s with code:=s.code.set k i } j=s.len j:=by rcases j with _ | _ | _ | _ | _ | _ | _ <;> first | omega | rfl
   rw [e2,e3]
   refine (h.ow j hj).upd fun off e'=>?_
   obtain ⟨_,cur',k2⟩:=ho.obl_some (k:=gA) (by rw [hA']; simp [obl])
   exact (h.ow j hj).ne_type k2 (fT_inj (by omega) hj (Ne.symm e)) off e'
theorem aim_c (w0:World) (mt m0 m:AM) (c:Nat) (s:CS) (at_ tq:Int) (h:CIx mt m0 m w0.heap.size c s) :
  CallsA Tryz.prog w0 102 #[.pointer (some ⟨c,2,none⟩),.int .i64 at_,.int .i64 tq] m (fun r m'=>r=.bool (aimC s.code at_ tq).isSome/\CIx mt m0 m' w0.heap.size c (s.aim at_ tq)):=by
 have hx:=h
 obtain ⟨At,ct,L,h⟩:=h
 have hg:=h.ps
 unfold Blk at hg
 refine cf102 w0 m c _ _ _ ?_
 dsimp only [cf102,mkF]
 simp only [std_all,LI_,LB_,LA_,SI_,pt_,KI_,I_,SJ_,S_,LT_,LS_,LC_,LU_,LV_,RB_,RI_,RS_,N_,T_,SE_,cell_of hg]
 unfold CS.aim aimC
 by_cases hn:at_<0
 .simp only [hn,decide_true,bcase_t,if_true,Option.isSome_none,setC,true_and]
  exact retP_of ⟨rfl,hx⟩
 simp only [hn,decide_false,bcase_f,cond_false,if_false]
 by_cases hk:at_>=s.code.length
 .simp only [hk,decide_true,bcase_t,if_true,Option.isSome_none,setC]
  exact retP_of ⟨rfl,hx⟩
 simp only [hk,decide_false,bcase_f,if_false]
 have hlt:at_.toNat<s.code.length:=by omega
 have ho:=h.ow 0 (by omega)
 obtain ⟨A0,hA⟩:∃ a,(L 0).1=some a:=by
  cases e:(L 0).1 with
  | some a=>exact ⟨a,rfl⟩
  | none =>
   rw [e] at ho
   obtain ⟨_,hn',h | ⟨g',cur',h',_⟩⟩:=ho
   .have:s.code.length<=(L 0).2:=hn'
    omega
   .cases h'
 have hc:=(ho.cells hA).ins (List.getElem?_eq_getElem hlt)
 rw [List.getElem?_eq_getElem hlt,Option.bind_some]
 have hrow:∀ (M:AM) (i':Ins),m.le M->StL w0.heap.size (A0.add (at_.toNat*5)) 0 i'.cells M (fun m'=>RetP (fun r m'=>r=.bool true/\CIx mt m0 m' w0.heap.size c { s with code:=s.code.set at_.toNat i' }) (.bool true) m'):=fun M i' l =>
  (h.grow l).row hA hlt i' fun m' h'=>retP_of ⟨rfl,h'⟩
 revert hc
 generalize s.code[at_.toNat]=i
 intro hc
 simp only [hA,nilO_some,hc,std_all,LI_,LB_,LA_,SI_,pt_,KI_,I_,SJ_,S_,LT_,LS_,LC_,LU_,LV_,RB_,RI_,RS_,N_,T_,SE_]
 refine ⟨by omega,by omega,?_⟩
 intro b hbs hbm
 have hle:=AM.le_upd (AM.le_refl m) hbm (o:=.cells i.cells.toArray 57)
 simp only [std_all,sto_all,Nat.reduceAdd,Nat.reduceLT,LI_,LB_,LA_,SI_,pt_,KI_,I_,SJ_,S_,LT_,LS_,LC_,LU_,LV_,RB_,RI_,RS_,N_,T_,SE_,hbs]
 refine CallsA.mono (far_c w0 _ i) ?_
 rintro r m2 ⟨rfl,hle2⟩
 have hbb:m2 b=some (.cells i.cells.toArray 57):=hle2 _ _ upd_get_same
 have hmm:=AM.le_trans hle hle2
 have hgb:c≠b:=fun e=>by subst e; rw [hbm] at hg; cases hg
 have hmb:∀ x:Array Value,m.le (m2.upd b (.cells x 57)):=fun x k o hk=>by
  rw [upd_get]
  by_cases e:k=b
  .subst e; rw [hbm] at hk; cases hk
  .rw [if_neg e]; exact hmm _ _ hk
 have hst:∀ i':Ins,StL w0.heap.size (A0.add (at_.toNat*5)) 0 i'.cells (m2.upd b (.cells i'.cells.toArray 57)) (fun m'=>RetP (fun r m'=>r=.bool true/\CIx mt m0 m' w0.heap.size c { s with code:=s.code.set at_.toNat i' }) (.bool true) m'):=fun i' =>
  hrow _ i' (hmb _)
 have hbe:m2=m2.upd b (.cells i.cells.toArray 57):=(upd_self hbb).symm
 rw [hbe]
 simp only [Ins.cells,aimI,std_all,sto_all,Nat.reduceAdd,Nat.reduceLT,LI_,LB_,LA_,SI_,pt_,KI_,I_,SJ_,S_,LT_,LS_,LC_,LU_,LV_,RB_,RI_,RS_,N_,T_,SE_,hbs,hgb,cell_of (hmm _ _ hg)]
 cases hf:farB i
 .simp only [std_all,sto_all,Nat.reduceAdd,Nat.reduceLT,LI_,LB_,LA_,SI_,pt_,KI_,I_,SJ_,S_,LT_,LS_,LC_,LU_,LV_,RB_,RI_,RS_,N_,T_,SE_]
  cases h1:(i.op == 15)
  .simp only [Bool.false_or,std_all,sto_all,Nat.reduceAdd,Nat.reduceLT,LI_,LB_,LA_,SI_,pt_,KI_,I_,SJ_,S_,LT_,LS_,LC_,LU_,LV_,RB_,RI_,RS_,N_,T_,SE_]
   cases h2:(i.op == 16)
   .simp only [std_all,sto_all,Nat.reduceAdd,Nat.reduceLT,LI_,LB_,LA_,SI_,pt_,KI_,I_,SJ_,S_,LT_,LS_,LC_,LU_,LV_,RB_,RI_,RS_,N_,T_,SE_]
    exact retP_of ⟨rfl,hx.grow (hmb _)⟩
   .simp only [std_all,sto_all,Nat.reduceAdd,Nat.reduceLT,LI_,LB_,LA_,SI_,pt_,KI_,I_,SJ_,S_,LT_,LS_,LC_,LU_,LV_,RB_,RI_,RS_,N_,T_,SE_,hbs,hgb,cell_of (hmm _ _ hg),setC,Option.isSome_some,hA]
    refine ⟨by omega,by omega,?_⟩
    exact hst ⟨i.op,i.a,i.b,i.c,IntKind.wrap .i64 (IntKind.wrap .i64 (tq-at_)-1)⟩
  .simp only [Bool.true_or,std_all,sto_all,Nat.reduceAdd,Nat.reduceLT,LI_,LB_,LA_,SI_,pt_,KI_,I_,SJ_,S_,LT_,LS_,LC_,LU_,LV_,RB_,RI_,RS_,N_,T_,SE_,hbs,hgb,cell_of (hmm _ _ hg),setC,Option.isSome_some,hA]
   refine ⟨by omega,by omega,?_⟩
   exact hst ⟨i.op,i.a,i.b,i.c,IntKind.wrap .i64 (IntKind.wrap .i64 (tq-at_)-1)⟩
 .simp only [std_all,sto_all,Nat.reduceAdd,Nat.reduceLT,LI_,LB_,LA_,SI_,pt_,KI_,I_,SJ_,S_,LT_,LS_,LC_,LU_,LV_,RB_,RI_,RS_,N_,T_,SE_,hbs,hgb,cell_of (hmm _ _ hg),setC,Option.isSome_some,hA]
  refine ⟨by omega,by omega,?_⟩
  exact hst ⟨i.op,i.a,i.b,i.c,tq⟩
theorem land_c (w0:World) (mt m0 m:AM) (c:Nat) (s:CS) (at_:Int) (h:CIx mt m0 m w0.heap.size c s) :
  CallsA Tryz.prog w0 52 #[.pointer (some ⟨c,2,none⟩),.int .i64 at_] m (fun r m'=>r=.bool (aimC s.code at_ s.code.length).isSome/\CIx mt m0 m' w0.heap.size c (s.aim at_ s.code.length)):=by
 have hx:=h
 obtain ⟨At,ct,L,h⟩:=h
 refine cf52 w0 m c _ _ ?_
 refine ⟨_,_,_,cel h.ps rfl,?_⟩
 refine CallsA.mono (aim_c w0 _ _ m c s at_ s.code.length hx) ?_
 rintro r m' ⟨rfl,hp⟩
 exact ⟨_,rfl,retP_of ⟨rfl,hp⟩⟩
theorem back_c (w0:World) (mt m0 m:AM) (c:Nat) (s:CS) (i:Ins) (tq:Int) (h:CIx mt m0 m w0.heap.size c s) (hl:s.code.length<=1000000) (hl':s.pats.length<=1000000) :
  CallsA Tryz.prog w0 175 #[.pointer (some ⟨c,2,none⟩),i.val,.int .i64 tq] m (fun r m'=>r=.int .i64 s.code.length/\CIx mt m0 m' w0.heap.size c ((s.jump i).aim s.code.length tq)):=by
 refine cf175 w0 m c _ _ _ _ _ _ _ ?_
 intro b1 hBb1 hNb1 M1
 have l1:AM.le _ M1:=le_new hNb1 _
 have p1:M1 b1=some (.cells (Ins.cells i).toArray 57):=upd_get_same
 clear_value M1
 refine ⟨_,cel p1 rfl,_,cel p1 rfl,_,cel p1 rfl,_,cel p1 rfl,_,cel p1 rfl,?_⟩
 refine CallsA.mono (jump_c w0 _ _ M1 c s i (h.grow l1) hl hl') ?_
 rintro r m2 ⟨rfl,h2⟩
 refine ⟨_,rfl,?_⟩
 refine CallsA.mono (aim_c w0 _ _ m2 c _ s.code.length tq h2) ?_
 rintro r m3 ⟨rfl,h3⟩
 exact ⟨_,rfl,retP_of ⟨rfl,h3⟩⟩
theorem here_c (w0:World) (mt m0 m:AM) (c:Nat) (s:CS) (h:CIx mt m0 m w0.heap.size c s) :
  CallsA Tryz.prog w0 145 #[.pointer (some ⟨c,2,none⟩)] m (fun r m'=>r=.int .i64 s.code.length/\CIx mt m0 m' w0.heap.size c s):=by
 have hx:=h
 obtain ⟨At,ct,L,h⟩:=h
 refine cf145 w0 m c _ ?_
 exact ⟨_,_,_,cel h.ps rfl,retP_of ⟨rfl,hx⟩⟩
def CS.give (s:CS):CS:=bif s.taken == 0 then s else { s with taken:=IntKind.wrap .i64 (s.taken-1) }
theorem give_c (w0:World) (mt m0 m:AM) (c:Nat) (s:CS) (h:CIx mt m0 m w0.heap.size c s) :
  CallsA Tryz.prog w0 153 #[.pointer (some ⟨c,2,none⟩)] m (fun r m'=>∃ b:Bool,r=.bool b/\CIx mt m0 m' w0.heap.size c s.give):=by
 have hx:=h
 obtain ⟨At,ct,L,h⟩:=h
 refine cf153 w0 m c _ ?_
 refine ⟨_,cel h.ps rfl,rfl,?_⟩
 unfold CS.give
 cases s.taken == 0
 .refine ⟨_,cel h.ps rfl,rfl,?_⟩
  exact h.st' (s':={ s with taken:=IntKind.wrap .i64 (s.taken-1) }) rfl (by omega) (fun _=>by rfl) (fun _=>by rfl) rfl fun m' h'=>retP_of ⟨_,rfl,h'⟩
 .rw [bcase_t]; exact retP_of ⟨_,rfl,hx⟩
def CS.take (s:CS):CS:=bif s.taken == 8 then s else { s with taken:=IntKind.wrap .i64 (s.taken+1) }
def CS.reg (s:CS):Int:=bif s.taken == 8 then 0 else IntKind.wrap .i64 (IntKind.wrap .i64 (8+IntKind.wrap .i64 (s.taken+1))-1)
theorem take_c (w0:World) (mt m0 m:AM) (c:Nat) (s:CS) (h:CIx mt m0 m w0.heap.size c s) :
  CallsA Tryz.prog w0 217 #[.pointer (some ⟨c,2,none⟩)] m (fun r m'=>r=.tuple #[.int .i64 s.reg,.bool !(s.taken == 8)]/\CIx mt m0 m' w0.heap.size c s.take):=by
 have hx:=h
 obtain ⟨At,ct,L,h⟩:=h
 refine cf217 w0 m c _ ?_
 refine ⟨_,cel h.ps rfl,rfl,?_⟩
 unfold CS.take CS.reg
 cases s.taken == 8
 .refine ⟨_,cel h.ps rfl,rfl,?_⟩
  refine h.st' (s':={ s with taken:=IntKind.wrap .i64 (s.taken+1) }) rfl (by omega) (fun _=>by rfl) (fun _=>by rfl) rfl fun m' h'=>?_
  have h2:=h'
  obtain ⟨_,_,_,h'⟩:=h'
  exact ⟨_,cel h'.ps rfl,rfl,rfl,retP_of ⟨rfl,h2⟩⟩
 .rw [bcase_t]; exact retP_of ⟨rfl,hx⟩
theorem tokCells_drop (l:List Tok):(l.flatMap Tok.cells).drop 4=l.tail.flatMap Tok.cells:=by
 cases l with
 | nil=>rfl
 | cons t l=>rfl
theorem CI.tok {mt m0 m:AM} {B c:Nat} {s:CS} {At:Option Addr} {ct:Nat} {L:Sls} (h:CI mt m0 m B c s At ct L) {t:Tok} {ts:List Tok} (ht:s.toks=t :: ts) {m':AM} (l:m.le m') :
  ∃ ad,At=some ad/\m'.cell (ad.add 0)=some (.int .i64 t.kind)/\m'.cell ((ad.add 0).add 1)=some (.string t.text)/\m'.cell ((ad.add 0).add 2)=some (.int .i64 t.n)/\m'.cell ((ad.add 0).add 3)=some (.int .i64 t.pos):=by
 have r:=h.rt
 rw [ht] at r
 obtain ⟨ad,h1,h2⟩:=r.ex (by simp)
 have h3:=h2.le (AM.le_trans (AM.le_trans h.lt h.le) l)
 simp only [add_add]
 exact ⟨ad,h1,h3 0 _ rfl,h3 1 _ rfl,h3 2 _ rfl,h3 3 _ rfl⟩
def CS.nxt (s:CS):CS:={ s with toks:=s.toks.tail }
theorem CI.nxt {mt m0 m:AM} {B c:Nat} {s:CS} {At:Option Addr} {ct:Nat} {L:Sls} (h:CI mt m0 m B c s At ct L) {t:Tok} {ts:List Tok} (ht:s.toks=t :: ts) {K:AM->Prop} (hK:∀ m',CIx mt m0 m' B c s.nxt->K m') :
  StC B m ⟨c,0,none⟩ (.slice (if ct=((1:Int).toNat) then At else Option.map (fun x=>Addr.add x ((1:Int).toNat*4)) At) (s.toks.length-((1:Int).toNat)) (ct-((1:Int).toNat))) K:=by
 have hl:s.toks.length=ts.length+1:=by rw [ht]; rfl
 have hn:s.nxt.toks.length=s.toks.length-1:=by simp [CS.nxt]
 refine h.st (s':=s.nxt) (At':=if ct=1 then At else Option.map (fun x=>Addr.add x (1*4)) At) (ct':=ct-1) ?_ (by omega) (fun _=>by rfl) (fun _=>by rfl) ?_ (by have:=h.tc; omega) fun m' h'=>hK m' ⟨_,_,_,h'⟩
 .unfold Blk
  rw [hn]; rfl
 .have:=h.rt.slice 1 s.toks.length (by omega) (Nat.le_refl _) h.tc
  rw [show (List.drop (1*4) (List.flatMap Tok.cells s.toks)).take ((s.toks.length-1)*4)=s.nxt.toks.flatMap Tok.cells from ?_] at this
  .rw [hn]; exact this
  .rw [show 1*4=4 from rfl,tokCells_drop,List.take_of_length_le]
   .rfl
   .have:(s.toks.tail.flatMap Tok.cells).length=s.toks.tail.length*4:=by
     generalize s.toks.tail=l
     induction l with
     | nil=>rfl
     | cons a l ih=>simp [ih,Tok.cells]; omega
    rw [this,List.length_tail]
    exact Nat.le_refl _
def CS.stop (s:CS) (e pos:Int):CS:=bif s.e == 0 then { s with e:=e,bad:=pos,toks:=[] } else { s with toks:=[] }
theorem stop_c (w0:World) (mt m0 m:AM) (c:Nat) (s:CS) (e pos:Int) (h:CIx mt m0 m w0.heap.size c s) :
  CallsA Tryz.prog w0 24 #[.pointer (some ⟨c,0,none⟩),.int .i64 e,.int .i64 pos] m (fun r m'=>r=.tuple #[]/\CIx mt m0 m' w0.heap.size c (s.stop e pos)):=by
 obtain ⟨At,ct,L,h⟩:=h
 refine cf24 w0 m c _ _ _ ?_
 refine ⟨_,cel h.ps rfl,rfl,?_⟩
 unfold CS.stop
 cases s.e == 0
 .rw [bcase_f]
  refine h.st (s':={ s with toks:=[] }) (At':=none) (ct':=0) rfl (by omega) (fun _=>by rfl) (fun _=>by rfl) (Reads.nil _ _) (Nat.le_refl _) fun m' h'=>retP_of ⟨rfl,_,_,_,h'⟩
 .rw [bcase_t]
  refine h.st' (s':={ s with e:=e }) rfl (by omega) (fun _=>by rfl) (fun _=>by rfl) rfl fun m1 h1=>?_
  obtain ⟨_,_,_,h1⟩:=h1
  refine h1.st' (s':={ s with e:=e,bad:=pos }) rfl (by omega) (fun _=>by rfl) (fun _=>by rfl) rfl fun m2 h2=>?_
  obtain ⟨_,_,_,h2⟩:=h2
  refine h2.st (s':={ s with e:=e,bad:=pos,toks:=[] }) (At':=none) (ct':=0) rfl (by omega) (fun _=>by rfl) (fun _=>by rfl) (Reads.nil _ _) (Nat.le_refl _) fun m' h'=>retP_of ⟨rfl,_,_,_,h'⟩
def CS.here (s:CS):Int:=match s.toks with
 | []=>s.fin
 | t :: _=>t.pos
theorem where_c (w0:World) (mt m0 m:AM) (c:Nat) (s:CS) (h:CIx mt m0 m w0.heap.size c s) :
  CallsA Tryz.prog w0 56 #[.pointer (some ⟨c,0,none⟩)] m (fun r m'=>r=.int .i64 s.here/\CIx mt m0 m' w0.heap.size c s):=by
 have hx:=h
 obtain ⟨At,ct,L,h⟩:=h
 refine cf56 w0 m c _ ?_
 refine ⟨_,_,_,cel h.ps rfl,rfl,?_⟩
 unfold CS.here
 cases ht:s.toks with
 | nil=>exact ⟨_,cel h.ps rfl,retP_of ⟨rfl,hx⟩⟩
 | cons t ts =>
  obtain ⟨ad,rfl,h0,h1,h2,h3⟩:=h.tok ht (AM.le_refl m)
  have e:((((t :: ts).length:Nat):Int) == 0)=false:=by simp; omega
  rw [e,bcase_f]
  refine ⟨_,_,_,cel h.ps rfl,⟨by omega,by rw [ht]; simp⟩,?_⟩
  exact ⟨_,h3,retP_of ⟨rfl,hx⟩⟩
def CS.sees (s:CS) (x:ByteArray):Bool:=match s.toks with
 | []=>false
 | t :: _=>bif t.text.toList == x.toList then bif t.kind == 3 then true else bif t.kind == 1 then isW x else false else false
theorem sees_c (w0:World) (mt m0 m:AM) (c:Nat) (s:CS) (x:ByteArray) (h:CIx mt m0 m w0.heap.size c s) :
  CallsA Tryz.prog w0 96 #[.pointer (some ⟨c,0,none⟩),.string x] m (fun r m'=>r=.bool (s.sees x)/\CIx mt m0 m' w0.heap.size c s):=by
 have hx:=h
 obtain ⟨At,ct,L,h⟩:=h
 refine cf96 w0 m c x _ ?_
 refine ⟨_,_,_,cel h.ps rfl,rfl,?_⟩
 unfold CS.sees
 cases ht:s.toks with
 | nil=>rw [show (((([]:List Tok).length:Nat):Int) == 0)=true from rfl,bcase_t]; exact retP_of ⟨rfl,hx⟩
 | cons t ts =>
  obtain ⟨ad,rfl,h0,h1,h2,h3⟩:=h.tok ht (AM.le_refl m)
  have e:((((t :: ts).length:Nat):Int) == 0)=false:=by simp; omega
  rw [e,bcase_f]
  refine ⟨_,_,_,cel h.ps rfl,⟨by omega,by rw [ht]; simp⟩,?_⟩
  refine ⟨_,h0,_,h1,_,h2,_,h3,?_⟩
  intro b hB hN
  simp only [std_all,sto_all,Nat.reduceAdd,Nat.reduceLT,LI_,LB_,LA_,SI_,pt_,KI_,I_,SJ_,S_,LT_,LS_,LC_,LU_,LV_,RB_,RI_,RS_,N_,T_,SE_,hB,Value.string.injEq]
  have l1:m.le (m.upd b (.cells (Tok.cells t).toArray 120)):=le_new hN _
  have p1:(m.upd b (.cells (Tok.cells t).toArray 120)) b=some (.cells (Tok.cells t).toArray 120 (0,0)):=upd_get_same
  have hx1:=hx.grow l1
  have fin:∀ {M:AM} {v:Bool},CIx mt m0 M w0.heap.size c s->RetP (fun r m'=>r=.bool v/\CIx mt m0 m' w0.heap.size c s) (.bool v) M:=fun hM=>retP_of ⟨rfl,hM⟩
  cases h5:(t.text.toList == x.toList)
  .simp only [std_all,sto_all,Nat.reduceAdd,Nat.reduceLT,LI_,LB_,LA_,SI_,pt_,KI_,I_,SJ_,S_,LT_,LS_,LC_,LU_,LV_,RB_,RI_,RS_,N_,T_,SE_]
   exact fin hx1
  .cases h6:(t.kind == 3)
   .cases h7:(t.kind == 1)
    .simp only [std_all,sto_all,Nat.reduceAdd,Nat.reduceLT,LI_,LB_,LA_,SI_,pt_,KI_,I_,SJ_,S_,LT_,LS_,LC_,LU_,LV_,RB_,RI_,RS_,N_,T_,SE_]
     exact fin hx1
    .simp only [std_all,sto_all,Nat.reduceAdd,Nat.reduceLT,LI_,LB_,LA_,SI_,pt_,KI_,I_,SJ_,S_,LT_,LS_,LC_,LU_,LV_,RB_,RI_,RS_,N_,T_,SE_]
     refine CallsA.mono (words_c w0 _ hx1.sp) ?_
     rintro r m2 ⟨b2,rfl,l2,p2⟩
     refine ⟨_,_,_,rfl,?_⟩
     refine CallsA.mono (contains_c w0 m2 b2 x p2) ?_
     rintro r m3 ⟨rfl,h⟩
     replace h:=h.symm
     subst h
     exact ⟨_,rfl,fin (hx1.grow l2)⟩
   .simp only [std_all,sto_all,Nat.reduceAdd,Nat.reduceLT,LI_,LB_,LA_,SI_,pt_,KI_,I_,SJ_,S_,LT_,LS_,LC_,LU_,LV_,RB_,RI_,RS_,N_,T_,SE_]
    exact fin hx1
def CS.has (s:CS) (x:ByteArray):CS:=bif s.sees x then s.nxt else s
theorem has_c (w0:World) (mt m0 m:AM) (c:Nat) (s:CS) (x:ByteArray) (h:CIx mt m0 m w0.heap.size c s) :
  CallsA Tryz.prog w0 46 #[.pointer (some ⟨c,0,none⟩),.string x] m (fun r m'=>r=.bool (s.sees x)/\CIx mt m0 m' w0.heap.size c (s.has x)):=by
 refine cf46 w0 m c x _ ?_
 refine CallsA.mono (sees_c w0 mt m0 m c s x h) ?_
 rintro r m1 ⟨rfl,h1⟩
 refine ⟨_,rfl,?_⟩
 unfold CS.has
 cases hs:s.sees x
 .rw [bcase_f]; exact retP_of ⟨rfl,h1⟩
 .rw [bcase_t]
  obtain ⟨At,ct,L,h1⟩:=h1
  obtain ⟨t,ts,ht⟩:∃ t ts,s.toks=t :: ts:=by
   unfold CS.sees at hs
   cases ht:s.toks with
   | nil=>rw [ht] at hs; cases hs
   | cons t ts=>exact ⟨t,ts,rfl⟩
  refine ⟨_,_,_,cel h1.ps rfl,by omega,h1.tc,by rw [ht]; simp,?_⟩
  exact h1.nxt ht fun m' h'=>retP_of ⟨rfl,h'⟩
def CS.must (s:CS) (x:ByteArray):CS:=bif s.sees x then s.nxt else s.stop 2 s.here
theorem must_c (w0:World) (mt m0 m:AM) (c:Nat) (s:CS) (x:ByteArray) (h:CIx mt m0 m w0.heap.size c s) :
  CallsA Tryz.prog w0 47 #[.pointer (some ⟨c,0,none⟩),.string x] m (fun r m'=>r=.tuple #[]/\CIx mt m0 m' w0.heap.size c (s.must x)):=by
 refine cf47 w0 m c x _ ?_
 refine CallsA.mono (has_c w0 mt m0 m c s x h) ?_
 rintro r m1 ⟨rfl,h1⟩
 refine ⟨_,rfl,?_⟩
 unfold CS.must
 unfold CS.has at h1
 cases hs:s.sees x
 .rw [hs] at h1
  refine CallsA.mono (where_c w0 mt m0 m1 c s h1) ?_
  rintro r m2 ⟨rfl,h2⟩
  refine ⟨_,rfl,?_⟩
  refine CallsA.mono (stop_c w0 mt m0 m2 c s 2 _ h2) ?_
  rintro r m3 ⟨rfl,h3⟩
  exact ⟨rfl,retP_of ⟨rfl,h3⟩⟩
 .rw [hs] at h1
  rw [show (!true)=false from rfl,bcase_f]
  exact retP_of ⟨rfl,h1⟩
def CS.isName (s:CS):Bool:=match s.toks with
 | []=>false
 | t :: _=>bif t.kind == 1 then !isW t.text else false
theorem named_c (w0:World) (mt m0 m:AM) (c:Nat) (s:CS) (h:CIx mt m0 m w0.heap.size c s) :
  CallsA Tryz.prog w0 97 #[.pointer (some ⟨c,0,none⟩)] m (fun r m'=>r=.bool s.isName/\CIx mt m0 m' w0.heap.size c s):=by
 have hx:=h
 obtain ⟨At,ct,L,h⟩:=h
 refine cf97 w0 m c _ ?_
 dsimp only [cf97,mkF]
 refine vr97_10 w0 m _ _ c (fun b m'=>b=s.isName/\CIx mt m0 m' w0.heap.size c s) rfl ?_ ?_
 .refine ⟨_,_,_,cel h.ps rfl,rfl,?_⟩
  unfold CS.isName
  cases ht:s.toks with
  | nil =>
   have e:decide (((([]:List Tok).length:Nat):Int)>0)=false:=by simp
   simp only [e,std_all,sto_all,Nat.reduceAdd,Nat.reduceLT,LI_,LB_,LA_,SI_,pt_,KI_,I_,SJ_,S_,LT_,LS_,LC_,LU_,LV_,RB_,RI_,RS_,N_,T_,SE_]
   exact hx
  | cons t ts =>
   obtain ⟨ad,rfl,h0,h1,h2,h3⟩:=h.tok ht (AM.le_refl m)
   have e:decide ((((t :: ts).length:Nat):Int)>0)=true:=by simp
   simp only [e,bcase_t,cond_true]
   refine ⟨_,_,_,cel h.ps rfl,⟨by simp,by rw [ht]; simp⟩,?_⟩
   refine ⟨_,h0,by simp,?_⟩
   cases h7:(t.kind == 1)
   .simp only [std_all,sto_all,Nat.reduceAdd,Nat.reduceLT,LI_,LB_,LA_,SI_,pt_,KI_,I_,SJ_,S_,LT_,LS_,LC_,LU_,LV_,RB_,RI_,RS_,N_,T_,SE_]
    exact hx
   .simp only [bcase_t,cond_true]
    refine ⟨_,_,_,cel h.ps rfl,⟨by simp,by rw [ht]; simp⟩,?_⟩
    refine ⟨_,h1,?_⟩
    refine CallsA.mono (words_c w0 _ hx.sp) ?_
    rintro r m2 ⟨b2,rfl,l2,p2⟩
    refine ⟨l2,_,_,_,rfl,?_⟩
    refine CallsA.mono (contains_c w0 m2 b2 _ p2) ?_
    rintro r m3 ⟨rfl,h⟩
    replace h:=h.symm
    subst h
    exact ⟨_,rfl,by simp,by simp,rfl,hx.grow l2⟩
 .rintro σ b m' ⟨rfl,hm⟩
  exact retP_of ⟨rfl,hm⟩
def CS.word (s:CS):ByteArray:=bif s.isName then (match s.toks with
 | []=>ByteArray.empty
 | t :: _=>t.text) else ByteArray.empty
def CS.aname (s:CS):CS:=bif s.isName then s.nxt else s.stop 2 s.here
theorem name_c (w0:World) (mt m0 m:AM) (c:Nat) (s:CS) (h:CIx mt m0 m w0.heap.size c s) :
  CallsA Tryz.prog w0 48 #[.pointer (some ⟨c,0,none⟩)] m (fun r m'=>r=.tuple #[.string s.word,.int .i64 s.here]/\CIx mt m0 m' w0.heap.size c s.aname):=by
 refine cf48 w0 m c _ ?_
 refine CallsA.mono (where_c w0 mt m0 m c s h) ?_
 rintro r m1 ⟨rfl,h1⟩
 refine ⟨_,rfl,?_⟩
 refine CallsA.mono (named_c w0 mt m0 m1 c s h1) ?_
 rintro r m2 ⟨rfl,h2⟩
 refine ⟨_,rfl,?_⟩
 unfold CS.aname CS.word
 cases hs:s.isName
 .rw [show (!false)=true from rfl,bcase_t]
  refine CallsA.mono (stop_c w0 mt m0 m2 c s 2 _ h2) ?_
  rintro r m3 ⟨rfl,h3⟩
  exact ⟨rfl,retP_of ⟨rfl,h3⟩⟩
 .rw [show (!true)=false from rfl,bcase_f]
  unfold CS.isName at hs
  cases ht:s.toks with
  | nil=>rw [ht] at hs; cases hs
  | cons t ts =>
   obtain ⟨At,ct,L,h2⟩:=h2
   obtain ⟨ad,rfl,k0,k1,k2,k3⟩:=h2.tok ht (AM.le_refl _)
   refine ⟨_,_,_,cel h2.ps rfl,⟨by omega,by rw [ht]; simp⟩,?_⟩
   refine ⟨_,k1,_,_,_,cel h2.ps rfl,by omega,h2.tc,by rw [ht]; simp,?_⟩
   exact h2.nxt ht fun m' h'=>retP_of ⟨rfl,h'⟩
def CS.isNum (s:CS):Bool:=match s.toks with
 | []=>false
 | t :: _=>t.kind == 2
def CS.num (s:CS):Int:=bif s.isNum then (match s.toks with
 | []=>0
 | t :: _=>t.n) else 0
def CS.anum (s:CS):CS:=bif s.isNum then s.nxt else s.stop 2 s.here
theorem number_c (w0:World) (mt m0 m:AM) (c:Nat) (s:CS) (h:CIx mt m0 m w0.heap.size c s) :
  CallsA Tryz.prog w0 141 #[.pointer (some ⟨c,0,none⟩)] m (fun r m'=>r=.tuple #[.int .i64 s.num,.int .i64 s.here]/\CIx mt m0 m' w0.heap.size c s.anum):=by
 refine cf141 w0 m c _ ?_
 refine CallsA.mono (where_c w0 mt m0 m c s h) ?_
 rintro r m1 ⟨rfl,h1⟩
 refine ⟨_,rfl,?_⟩
 have h1x:=h1
 obtain ⟨At,ct,L,h1⟩:=h1
 refine ⟨_,_,_,cel h1.ps rfl,rfl,?_⟩
 unfold CS.anum CS.num CS.isNum
 cases ht:s.toks with
 | nil =>
  rw [show (((([]:List Tok).length:Nat):Int) == 0)=true from rfl,bcase_t]
  refine ⟨rfl,?_⟩
  refine CallsA.mono (stop_c w0 mt m0 m1 c s 2 _ h1x) ?_
  rintro r m3 ⟨rfl,h3⟩
  exact ⟨rfl,retP_of ⟨rfl,h3⟩⟩
 | cons t ts =>
  obtain ⟨ad,rfl,k0,k1,k2,k3⟩:=h1.tok ht (AM.le_refl _)
  have e:((((t :: ts).length:Nat):Int) == 0)=false:=by simp; omega
  rw [e,bcase_f]
  refine ⟨_,_,_,cel h1.ps rfl,⟨by omega,by rw [ht]; simp⟩,?_⟩
  refine ⟨_,k0,rfl,?_⟩
  try dsimp only
  cases hk:(t.kind == 2)
  .rw [show (bif false then true else t.kind != 2)=true by simp only [bne,hk]; rfl,bcase_t]
   refine CallsA.mono (stop_c w0 mt m0 m1 c s 2 _ h1x) ?_
   rintro r m3 ⟨rfl,h3⟩
   exact ⟨rfl,retP_of ⟨rfl,h3⟩⟩
  .rw [show (bif false then true else t.kind != 2)=false by simp only [bne,hk]; rfl,bcase_f]
   refine ⟨_,_,_,cel h1.ps rfl,⟨by omega,by rw [ht]; simp⟩,?_⟩
   refine ⟨_,k2,_,_,_,cel h1.ps rfl,by omega,h1.tc,by rw [ht]; simp,?_⟩
   exact h1.nxt ht fun m' h'=>retP_of ⟨rfl,h'⟩
def CS.areg (s:CS) (pos:Int):CS:=bif s.taken == 8 then s.stop 8 pos else s.take
def CS.rg (s:CS):Int:=bif s.taken == 8 then 8 else s.reg
theorem reg_c (w0:World) (mt m0 m:AM) (c:Nat) (s:CS) (pos:Int) (h:CIx mt m0 m w0.heap.size c s) :
  CallsA Tryz.prog w0 214 #[.pointer (some ⟨c,0,none⟩),.int .i64 pos] m (fun r m'=>r=.int .i64 s.rg/\CIx mt m0 m' w0.heap.size c (s.areg pos)):=by
 refine cf214 w0 m c _ _ ?_
 refine CallsA.mono (take_c w0 mt m0 m c s h) ?_
 rintro r m1 ⟨rfl,h1⟩
 refine ⟨_,_,rfl,?_⟩
 unfold CS.areg CS.rg
 cases hs:s.taken == 8
 .rw [show (!(!false))=false from rfl,bcase_f]
  exact retP_of ⟨rfl,h1⟩
 .rw [show (!(!true))=true from rfl,bcase_t]
  have e:s.take=s:=by unfold CS.take; rw [hs]; rfl
  rw [e] at h1
  refine CallsA.mono (stop_c w0 mt m0 m1 c s 8 _ h1) ?_
  rintro r m3 ⟨rfl,h3⟩
  exact ⟨rfl,retP_of ⟨rfl,h3⟩⟩
theorem nilO_at {p:Option Addr} {a:Addr} {K:Addr->Prop} (h:p=some a) (hK:K a):nilO p K:=by subst h; exact hK
theorem CIx.stT {mt m0 m:AM} {B c b k:Nat} {s:CS} {C:Array Value} {T:TypeId} {v:Value} (h:CIx mt (m0.upd b (.cells C T)) m B c s) (hb0:m0 b=none) (l:mt.le m0) (hB:B<=b) (hk:k<C.size) {K:AM->Prop}
  (hK:∀ m',CIx mt (m0.upd b (.cells (C.setIfInBounds k v) T)) m' B c s->K m'):StC B m ⟨b,k,none⟩ v K:=by
 obtain ⟨At,ct,L,h⟩:=h
 have hb:m b=some (.cells C T (0,0)):=h.le _ _ upd_get_same
 have hn:∀ k:Nat,(m0.upd b (.cells C T)) k=none->k≠b/\m0 k=none:=fun k hk=>by
  by_cases e:k=b
  .rw [e,upd_get_same] at hk; cases hk
  .exact ⟨e,by rwa [upd_get_ne e] at hk⟩
 refine StC_own hb hB hk (hK _ ⟨At,ct,L,h.sp,AM.le_trans l (le_new hb0 _),?_,h.hc,?_,?_,h.rt,h.tc,fun j hj=>?_,fun j hj k hk=>?_⟩)
 .intro k o hk
  by_cases e:k=b
  .subst e; rw [upd_get_same] at hk ⊢; exact hk
  .rw [upd_get_ne e] at hk ⊢; exact h.le _ _ (by rw [upd_get_ne e]; exact hk)
 .obtain ⟨h1,h2⟩:=hn _ h.nc
  rw [upd_get_ne h1]; exact h2
 .obtain ⟨h1,h2⟩:=hn _ h.nc
  rw [upd_get_ne h1]; exact h.ps
 .refine (h.ow j hj).upd fun off e=>?_
  obtain ⟨h1,_⟩:=hn b (h.nw j hj b (by rw [e]; simp [obl]))
  exact h1 rfl
 .obtain ⟨h1,h2⟩:=hn _ (h.nw j hj k hk)
  rw [upd_get_ne h1]; exact h2
theorem depth_c (w0:World) (mt m0 m:AM) (c:Nat) (s:CS) (h:CIx mt m0 m w0.heap.size c s) :
  CallsA Tryz.prog w0 196 #[.pointer (some ⟨c,5,none⟩)] m (fun r m'=>r=.int .i64 s.begs.length/\CIx mt m0 m' w0.heap.size c s):=by
 have hx:=h
 obtain ⟨At,ct,L,h⟩:=h
 refine cf196 w0 m c _ ?_
 exact ⟨_,_,_,cel h.ps rfl,retP_of ⟨rfl,hx⟩⟩
theorem Ent.len (i:Ent):i.cells.length=5:=rfl
theorem find_c (w0:World) (mt m0 m:AM) (c:Nat) (s:CS) (x:ByteArray) (h:CIx mt m0 m w0.heap.size c s) (hl:s.ents.length<=1000000) (hl2:s.begs.length<=1000000) :
  CallsA Tryz.prog w0 173 #[.pointer (some ⟨c,5,none⟩),.string x] m (fun r m'=>∃ (t:Thg) (d:Int) (ok:Bool),r=.tuple #[t.val,.int .i64 d,.bool ok]/\CIx mt m0 m' w0.heap.size c s):=by
 have lt:=h.lt
 refine cf173 w0 m c x _ ?_
 intro b hB hN M
 have hb0:m0 b=none:=AM.le_none h.le hN
 have h0:CIx mt (m0.upd b (.cells (Thg.cells ⟨0,0,0,false⟩).toArray 128)) M w0.heap.size c s:=(h.box hN _).1
 clear_value M
 refine CallsA.mono (depth_c w0 _ _ M c s h0) ?_
 rintro r m1 ⟨rfl,h1⟩
 refine ⟨_,rfl,?_⟩
 have h1x:=h1
 obtain ⟨At,ct,L,h1⟩:=h1
 refine ⟨_,_,_,cel h1.ps rfl,rfl,?_⟩
 refine vl173_11010 w0 m1 _ _ c x b _ _
  (fun n d i m'=>0<=d/\d<=s.begs.length/\-1<=i/\i<s.ents.length/\n=(i+1).toNat/\CIx mt (m0.upd b (.cells (Thg.cells ⟨0,0,0,false⟩).toArray 128)) m' w0.heap.size c s)
  (fun m'=>CIx mt (m0.upd b (.cells (Thg.cells ⟨0,0,0,false⟩).toArray 128)) m' w0.heap.size c s) s.ents.length rfl rfl rfl rfl rfl ?_ ?_ ?_
 .rw [IntKind.wrap_i64]
  exact ⟨by omega,by omega,by omega,by omega,by omega,h1x⟩
 .rintro n σ d i m2 ⟨d0,d1,i0,i1,rfl,h2⟩
  refine ⟨rfl,?_⟩
  by_cases hi:i>=0
  .rw [decide_eq_true hi,bcase_t]
   refine vl173_11010010000 w0 m2 _ _ _ _ _ c x b i d
    (fun n d m'=>0<=d/\d<=s.begs.length/\n=d.toNat/\CIx mt (m0.upd b (.cells (Thg.cells ⟨0,0,0,false⟩).toArray 128)) m' w0.heap.size c s)
    (fun d m'=>0<=d/\d<=s.begs.length/\CIx mt (m0.upd b (.cells (Thg.cells ⟨0,0,0,false⟩).toArray 128)) m' w0.heap.size c s) d.toNat rfl rfl rfl rfl rfl ⟨d0,d1,rfl,h2⟩ ?_ ?_
   .rintro n σ d m3 ⟨d0,d1,rfl,h3⟩
    refine ⟨rfl,?_⟩
    by_cases hd:d>0
    .rw [decide_eq_true hd,bcase_t]
     have h3x:=h3
     obtain ⟨At,ct,L,h3⟩:=h3
     have hw:IntKind.wrap .i64 (d-1)=d-1:=by rw [IntKind.wrap_i64]; omega
     obtain ⟨ad,hA,hc⟩:=(h3.ow 3 (by omega)).ex (by show 0<s.begs.length; omega)
     refine ⟨_,_,_,cel h3.ps rfl,rfl,⟨by omega,by omega⟩,nilO_at hA ⟨_,cell_k (l:=s.begs) hc (by omega) (by omega),rfl,?_⟩⟩
     rw [cond_true]
     unfold bcase
     split
     .rw [hw]; exact ⟨rfl,rfl,rfl,rfl,rfl,rfl,d.toNat-1,by omega,by omega,by omega,by omega,h3x⟩
     .exact ⟨rfl,rfl,rfl,rfl,rfl,d0,d1,h3x⟩
    .rw [decide_eq_false hd,bcase_f]
     exact ⟨rfl,rfl,rfl,rfl,rfl,rfl,d0,d1,h3⟩
   .rintro σ d m3 ⟨d0,d1,h3⟩
    have h3x:=h3
    obtain ⟨At,ct,L,h3⟩:=h3
    obtain ⟨ad,hA,hc⟩:=(h3.ow 2 (by omega)).ex (by show 0<s.ents.length; omega)
    have hlt:i.toNat<s.ents.length:=by omega
    have hat:=fun j hj=>Cells.at (j:=j) Ent.len hc (List.getElem?_eq_getElem hlt) hj
    refine ⟨_,_,_,cel h3.ps rfl,⟨by omega,by omega⟩,nilO_at hA ?_⟩
    refine ⟨_,hat 0 (by omega),?_⟩
    try dsimp only
    unfold bcase
    split
    .refine ⟨_,_,_,cel h3.ps rfl,⟨by omega,by omega⟩,nilO_at hA ?_⟩
     simp only [add_add]
     refine ⟨_,hat 1 (by omega),_,hat 2 (by omega),_,hat 3 (by omega),_,hat 4 (by omega),?_⟩
     refine h3x.stT hb0 lt hB (by simp [Thg.cells]) fun m4 h4=>h4.stT hb0 lt hB (by simp [Thg.cells]) fun m5 h5=>h5.stT hb0 lt hB (by simp [Thg.cells]) fun m6 h6=>h6.stT hb0 lt hB (by simp [Thg.cells]) fun m7 h7=>?_
     have hb:=h7.le _ _ upd_get_same
     refine ⟨_,cel hb rfl,_,cel hb rfl,_,cel hb rfl,_,cel hb rfl,retP_of ⟨⟨_,_,_,_⟩,_,_,rfl,h7.base (le_new hb0 _) lt⟩⟩
    .have hw:IntKind.wrap .i64 (i-1)=i-1:=by rw [IntKind.wrap_i64]; omega
     rw [hw]
     exact ⟨rfl,rfl,rfl,rfl,rfl,rfl,i.toNat,by omega,by omega,by omega,by omega,by omega,by omega,h3x⟩
  .rw [decide_eq_false hi,bcase_f]
   exact ⟨rfl,rfl,rfl,h2⟩
 .rintro σ m2 h2
  intro b2 hB2 hN2 M2
  have l2:AM.le m2 M2:=le_new hN2 _
  have p2:M2 b2=some (.cells (Thg.cells ⟨0,0,0,false⟩).toArray 128):=upd_get_same
  clear_value M2
  refine ⟨_,cel p2 rfl,_,cel p2 rfl,_,cel p2 rfl,_,cel p2 rfl,?_⟩
  refine (h2.grow l2).stT hb0 lt hB (by simp [Thg.cells]) fun m4 h4=>h4.stT hb0 lt hB (by simp [Thg.cells]) fun m5 h5=>h5.stT hb0 lt hB (by simp [Thg.cells]) fun m6 h6=>h6.stT hb0 lt hB (by simp [Thg.cells]) fun m7 h7=>?_
  have hb:=h7.le _ _ upd_get_same
  exact ⟨_,cel hb rfl,_,cel hb rfl,_,cel hb rfl,_,cel hb rfl,retP_of ⟨⟨_,_,_,_⟩,_,_,rfl,h7.base (le_new hb0 _) lt⟩⟩
end Go.Proofs.YtgjamnhjlaohaaaGreatDoor.S
