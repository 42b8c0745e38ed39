/- The types of this seat's translation, as a short table, and that its functions have bodies. Written by wip/tools/tab.py. -/
import Derived.Test.YtpoahmeacjggfaaBuild
import Derived.Test.YtpoahmeacjggfaaProg
namespace Go.Proofs.Ytpoahmeacjggfaa
open Go Rw
set_option maxRecDepth 100000

theorem ti2 : TIOk Try.prog 2 ⟨.int .i64, 1, 8, .int .i64 0⟩ := ⟨⟨_, rfl, rfl, rfl, rfl⟩, Try.underlying2⟩
theorem ti3 : TIOk Try.prog 3 ⟨.int .i64, 1, 8, .int .i64 0⟩ := ⟨⟨_, rfl, rfl, rfl, rfl⟩, Try.underlying3⟩
theorem ti4 : TIOk Try.prog 4 ⟨.bool, 1, 1, .bool false⟩ := ⟨⟨_, rfl, rfl, rfl, rfl⟩, Try.underlying4⟩
theorem ti5 : TIOk Try.prog 5 ⟨.int .u8, 1, 1, .int .u8 0⟩ := ⟨⟨_, rfl, rfl, rfl, rfl⟩, Try.underlying5⟩
theorem ti9 : TIOk Try.prog 9 ⟨.str, 1, 16, .string ⟨#[]⟩⟩ := ⟨⟨_, rfl, rfl, rfl, rfl⟩, Try.underlying9⟩
theorem ti22 : TIOk Try.prog 22 ⟨.int .u8, 1, 1, .int .u8 0⟩ := ⟨⟨_, rfl, rfl, rfl, rfl⟩, Try.underlying22⟩
theorem ti23 : TIOk Try.prog 23 ⟨.sl 25, 1, 24, .slice none 0 0⟩ := ⟨⟨_, rfl, rfl, rfl, rfl⟩, Try.underlying23⟩
theorem ti25 : TIOk Try.prog 25 ⟨.st [(0, 22), (1, 9), (2, 3), (3, 23)], 4, 56, .agg #[.int .u8 0, .string ⟨#[]⟩, .int .i64 0, .slice none 0 0]⟩ := ⟨⟨_, rfl, rfl, rfl, rfl⟩, ⟨_, Try.underlying25, rfl, ⟨⟨_, _, rfl, rfl, rfl, rfl, rfl⟩, ⟨⟨_, _, rfl, rfl, rfl, rfl, rfl⟩, ⟨⟨_, _, rfl, rfl, rfl, rfl, rfl⟩, ⟨⟨_, _, rfl, rfl, rfl, rfl, rfl⟩, trivial⟩⟩⟩⟩⟩⟩
theorem ti30 : TIOk Try.prog 30 ⟨.sl 32, 1, 24, .slice none 0 0⟩ := ⟨⟨_, rfl, rfl, rfl, rfl⟩, Try.underlying30⟩
theorem ti32 : TIOk Try.prog 32 ⟨.st [(0, 9), (1, 25)], 5, 72, .agg #[.string ⟨#[]⟩, .int .u8 0, .string ⟨#[]⟩, .int .i64 0, .slice none 0 0]⟩ := ⟨⟨_, rfl, rfl, rfl, rfl⟩, ⟨_, Try.underlying32, rfl, ⟨⟨_, _, rfl, rfl, rfl, rfl, rfl⟩, ⟨⟨_, _, rfl, rfl, rfl, rfl, rfl⟩, trivial⟩⟩⟩⟩
theorem ti33 : TIOk Try.prog 33 ⟨.fn, 1, 8, .nilFunc⟩ := ⟨⟨_, rfl, rfl, rfl, rfl⟩, ⟨_, _, _, Try.underlying33⟩⟩
theorem ti46 : TIOk Try.prog 46 ⟨.sl 3, 1, 24, .slice none 0 0⟩ := ⟨⟨_, rfl, rfl, rfl, rfl⟩, Try.underlying46⟩
theorem ti49 : TIOk Try.prog 49 ⟨.fn, 1, 8, .nilFunc⟩ := ⟨⟨_, rfl, rfl, rfl, rfl⟩, ⟨_, _, _, Try.underlying49⟩⟩
theorem ti50 : TIOk Try.prog 50 ⟨.sl 5, 1, 24, .slice none 0 0⟩ := ⟨⟨_, rfl, rfl, rfl, rfl⟩, Try.underlying50⟩
theorem ti57 : TIOk Try.prog 57 ⟨.sl 59, 1, 24, .slice none 0 0⟩ := ⟨⟨_, rfl, rfl, rfl, rfl⟩, Try.underlying57⟩
theorem ti59 : TIOk Try.prog 59 ⟨.st [(0, 22), (1, 9), (2, 9), (3, 2), (4, 4), (5, 25), (9, 57)], 10, 136, .agg #[.int .u8 0, .string ⟨#[]⟩, .string ⟨#[]⟩, .int .i64 0, .bool false, .int .u8 0, .string ⟨#[]⟩, .int .i64 0, .slice none 0 0, .slice none 0 0]⟩ := ⟨⟨_, rfl, rfl, rfl, rfl⟩, ⟨_, Try.underlying59, rfl, ⟨⟨_, _, rfl, rfl, rfl, rfl, rfl⟩, ⟨⟨_, _, rfl, rfl, rfl, rfl, rfl⟩, ⟨⟨_, _, rfl, rfl, rfl, rfl, rfl⟩, ⟨⟨_, _, rfl, rfl, rfl, rfl, rfl⟩, ⟨⟨_, _, rfl, rfl, rfl, rfl, rfl⟩, ⟨⟨_, _, rfl, rfl, rfl, rfl, rfl⟩, ⟨⟨_, _, rfl, rfl, rfl, rfl, rfl⟩, trivial⟩⟩⟩⟩⟩⟩⟩⟩⟩
theorem ti63 : TIOk Try.prog 63 ⟨.fn, 1, 8, .nilFunc⟩ := ⟨⟨_, rfl, rfl, rfl, rfl⟩, ⟨_, _, _, Try.underlying63⟩⟩
theorem ti68 : TIOk Try.prog 68 ⟨.mp 3 4, 1, 8, .map none⟩ := ⟨⟨_, rfl, rfl, rfl, rfl⟩, Try.underlying68⟩
theorem ti69 : TIOk Try.prog 69 ⟨.mp 3 4, 1, 8, .map none⟩ := ⟨⟨_, rfl, rfl, rfl, rfl⟩, Try.underlying69⟩
theorem ti77 : TIOk Try.prog 77 ⟨.st [(0, 3), (1, 4)], 2, 16, .agg #[.int .i64 0, .bool false]⟩ := ⟨⟨_, rfl, rfl, rfl, rfl⟩, ⟨_, Try.underlying77, rfl, ⟨⟨_, _, rfl, rfl, rfl, rfl, rfl⟩, ⟨⟨_, _, rfl, rfl, rfl, rfl, rfl⟩, trivial⟩⟩⟩⟩
theorem ti79 : TIOk Try.prog 79 ⟨.st [(0, 33), (1, 33)], 2, 16, .agg #[.nilFunc, .nilFunc]⟩ := ⟨⟨_, rfl, rfl, rfl, rfl⟩, ⟨_, Try.underlying79, rfl, ⟨⟨_, _, rfl, rfl, rfl, rfl, rfl⟩, ⟨⟨_, _, rfl, rfl, rfl, rfl, rfl⟩, trivial⟩⟩⟩⟩
theorem ti81 : TIOk Try.prog 81 ⟨.mp 3 3, 1, 8, .map none⟩ := ⟨⟨_, rfl, rfl, rfl, rfl⟩, Try.underlying81⟩
theorem ti87 : TIOk Try.prog 87 ⟨.st [(0, 50)], 1, 24, .agg #[.slice none 0 0]⟩ := ⟨⟨_, rfl, rfl, rfl, rfl⟩, ⟨_, Try.underlying87, rfl, ⟨⟨_, _, rfl, rfl, rfl, rfl, rfl⟩, trivial⟩⟩⟩
theorem ti99 : TIOk Try.prog 99 ⟨.fn, 1, 8, .nilFunc⟩ := ⟨⟨_, rfl, rfl, rfl, rfl⟩, ⟨_, _, _, Try.underlying99⟩⟩
theorem ti104 : TIOk Try.prog 104 ⟨.ptr 87, 1, 8, .pointer none⟩ := ⟨⟨_, rfl, rfl, rfl, rfl⟩, Try.underlying104⟩
theorem ti106 : TIOk Try.prog 106 ⟨.sl 9, 1, 24, .slice none 0 0⟩ := ⟨⟨_, rfl, rfl, rfl, rfl⟩, Try.underlying106⟩
theorem ti115 : TIOk Try.prog 115 ⟨.st [(0, 4), (1, 4), (2, 3), (3, 3)], 4, 24, .agg #[.bool false, .bool false, .int .i64 0, .int .i64 0]⟩ := ⟨⟨_, rfl, rfl, rfl, rfl⟩, ⟨_, Try.underlying115, rfl, ⟨⟨_, _, rfl, rfl, rfl, rfl, rfl⟩, ⟨⟨_, _, rfl, rfl, rfl, rfl, rfl⟩, ⟨⟨_, _, rfl, rfl, rfl, rfl, rfl⟩, ⟨⟨_, _, rfl, rfl, rfl, rfl, rfl⟩, trivial⟩⟩⟩⟩⟩⟩
theorem ti125 : TIOk Try.prog 125 ⟨.int .u64, 1, 8, .int .u64 0⟩ := ⟨⟨_, rfl, rfl, rfl, rfl⟩, Try.underlying125⟩
def tb : Tab := [(2, ⟨.int .i64, 1, 8, .int .i64 0⟩), (3, ⟨.int .i64, 1, 8, .int .i64 0⟩), (4, ⟨.bool, 1, 1, .bool false⟩), (5, ⟨.int .u8, 1, 1, .int .u8 0⟩), (9, ⟨.str, 1, 16, .string ⟨#[]⟩⟩), (22, ⟨.int .u8, 1, 1, .int .u8 0⟩), (23, ⟨.sl 25, 1, 24, .slice none 0 0⟩), (25, ⟨.st [(0, 22), (1, 9), (2, 3), (3, 23)], 4, 56, .agg #[.int .u8 0, .string ⟨#[]⟩, .int .i64 0, .slice none 0 0]⟩), (30, ⟨.sl 32, 1, 24, .slice none 0 0⟩), (32, ⟨.st [(0, 9), (1, 25)], 5, 72, .agg #[.string ⟨#[]⟩, .int .u8 0, .string ⟨#[]⟩, .int .i64 0, .slice none 0 0]⟩), (33, ⟨.fn, 1, 8, .nilFunc⟩), (46, ⟨.sl 3, 1, 24, .slice none 0 0⟩), (49, ⟨.fn, 1, 8, .nilFunc⟩), (50, ⟨.sl 5, 1, 24, .slice none 0 0⟩), (57, ⟨.sl 59, 1, 24, .slice none 0 0⟩), (59, ⟨.st [(0, 22), (1, 9), (2, 9), (3, 2), (4, 4), (5, 25), (9, 57)], 10, 136, .agg #[.int .u8 0, .string ⟨#[]⟩, .string ⟨#[]⟩, .int .i64 0, .bool false, .int .u8 0, .string ⟨#[]⟩, .int .i64 0, .slice none 0 0, .slice none 0 0]⟩), (63, ⟨.fn, 1, 8, .nilFunc⟩), (68, ⟨.mp 3 4, 1, 8, .map none⟩), (69, ⟨.mp 3 4, 1, 8, .map none⟩), (77, ⟨.st [(0, 3), (1, 4)], 2, 16, .agg #[.int .i64 0, .bool false]⟩), (79, ⟨.st [(0, 33), (1, 33)], 2, 16, .agg #[.nilFunc, .nilFunc]⟩), (81, ⟨.mp 3 3, 1, 8, .map none⟩), (87, ⟨.st [(0, 50)], 1, 24, .agg #[.slice none 0 0]⟩), (99, ⟨.fn, 1, 8, .nilFunc⟩), (104, ⟨.ptr 87, 1, 8, .pointer none⟩), (106, ⟨.sl 9, 1, 24, .slice none 0 0⟩), (115, ⟨.st [(0, 4), (1, 4), (2, 3), (3, 3)], 4, 24, .agg #[.bool false, .bool false, .int .i64 0, .int .i64 0]⟩), (125, ⟨.int .u64, 1, 8, .int .u64 0⟩)]
theorem tbOk : TabOk Try.prog tb := tab_cons ti2 (tab_cons ti3 (tab_cons ti4 (tab_cons ti5 (tab_cons ti9 (tab_cons ti22 (tab_cons ti23 (tab_cons ti25 (tab_cons ti30 (tab_cons ti32 (tab_cons ti33 (tab_cons ti46 (tab_cons ti49 (tab_cons ti50 (tab_cons ti57 (tab_cons ti59 (tab_cons ti63 (tab_cons ti68 (tab_cons ti69 (tab_cons ti77 (tab_cons ti79 (tab_cons ti81 (tab_cons ti87 (tab_cons ti99 (tab_cons ti104 (tab_cons ti106 (tab_cons ti115 (tab_cons ti125 (tab_nil))))))))))))))))))))))))))))
theorem fo3 : FnOk Try.prog 3 := ⟨⟨_, _, Try.func3, by decide, rfl⟩⟩
theorem fo4 : FnOk Try.prog 4 := ⟨⟨_, _, Try.func4, by decide, rfl⟩⟩
theorem fo5 : FnOk Try.prog 5 := ⟨⟨_, _, Try.func5, by decide, rfl⟩⟩
theorem fo6 : FnOk Try.prog 6 := ⟨⟨_, _, Try.func6, by decide, rfl⟩⟩
theorem fo7 : FnOk Try.prog 7 := ⟨⟨_, _, Try.func7, by decide, rfl⟩⟩
theorem fo8 : FnOk Try.prog 8 := ⟨⟨_, _, Try.func8, by decide, rfl⟩⟩
theorem fo9 : FnOk Try.prog 9 := ⟨⟨_, _, Try.func9, by decide, rfl⟩⟩
theorem fo10 : FnOk Try.prog 10 := ⟨⟨_, _, Try.func10, by decide, rfl⟩⟩
theorem fo11 : FnOk Try.prog 11 := ⟨⟨_, _, Try.func11, by decide, rfl⟩⟩
theorem fo12 : FnOk Try.prog 12 := ⟨⟨_, _, Try.func12, by decide, rfl⟩⟩
theorem fo13 : FnOk Try.prog 13 := ⟨⟨_, _, Try.func13, by decide, rfl⟩⟩
theorem fo14 : FnOk Try.prog 14 := ⟨⟨_, _, Try.func14, by decide, rfl⟩⟩
theorem fo15 : FnOk Try.prog 15 := ⟨⟨_, _, Try.func15, by decide, rfl⟩⟩
theorem fo16 : FnOk Try.prog 16 := ⟨⟨_, _, Try.func16, by decide, rfl⟩⟩
theorem fo17 : FnOk Try.prog 17 := ⟨⟨_, _, Try.func17, by decide, rfl⟩⟩
theorem fo18 : FnOk Try.prog 18 := ⟨⟨_, _, Try.func18, by decide, rfl⟩⟩
theorem fo19 : FnOk Try.prog 19 := ⟨⟨_, _, Try.func19, by decide, rfl⟩⟩
theorem fo20 : FnOk Try.prog 20 := ⟨⟨_, _, Try.func20, by decide, rfl⟩⟩
theorem fo21 : FnOk Try.prog 21 := ⟨⟨_, _, Try.func21, by decide, rfl⟩⟩
theorem fo22 : FnOk Try.prog 22 := ⟨⟨_, _, Try.func22, by decide, rfl⟩⟩
theorem fo23 : FnOk Try.prog 23 := ⟨⟨_, _, Try.func23, by decide, rfl⟩⟩
theorem fo24 : FnOk Try.prog 24 := ⟨⟨_, _, Try.func24, by decide, rfl⟩⟩
theorem fo25 : FnOk Try.prog 25 := ⟨⟨_, _, Try.func25, by decide, rfl⟩⟩
theorem fo26 : FnOk Try.prog 26 := ⟨⟨_, _, Try.func26, by decide, rfl⟩⟩
theorem fo27 : FnOk Try.prog 27 := ⟨⟨_, _, Try.func27, by decide, rfl⟩⟩
theorem fo28 : FnOk Try.prog 28 := ⟨⟨_, _, Try.func28, by decide, rfl⟩⟩
theorem fo29 : FnOk Try.prog 29 := ⟨⟨_, _, Try.func29, by decide, rfl⟩⟩
theorem fo30 : FnOk Try.prog 30 := ⟨⟨_, _, Try.func30, by decide, rfl⟩⟩
theorem fo31 : FnOk Try.prog 31 := ⟨⟨_, _, Try.func31, by decide, rfl⟩⟩
theorem fo32 : FnOk Try.prog 32 := ⟨⟨_, _, Try.func32, by decide, rfl⟩⟩
theorem fo33 : FnOk Try.prog 33 := ⟨⟨_, _, Try.func33, by decide, rfl⟩⟩
theorem fo34 : FnOk Try.prog 34 := ⟨⟨_, _, Try.func34, by decide, rfl⟩⟩
theorem fo35 : FnOk Try.prog 35 := ⟨⟨_, _, Try.func35, by decide, rfl⟩⟩
theorem fo36 : FnOk Try.prog 36 := ⟨⟨_, _, Try.func36, by decide, rfl⟩⟩
theorem fo37 : FnOk Try.prog 37 := ⟨⟨_, _, Try.func37, by decide, rfl⟩⟩
theorem fo38 : FnOk Try.prog 38 := ⟨⟨_, _, Try.func38, by decide, rfl⟩⟩
theorem fo39 : FnOk Try.prog 39 := ⟨⟨_, _, Try.func39, by decide, rfl⟩⟩
theorem fo40 : FnOk Try.prog 40 := ⟨⟨_, _, Try.func40, by decide, rfl⟩⟩
theorem fo41 : FnOk Try.prog 41 := ⟨⟨_, _, Try.func41, by decide, rfl⟩⟩
theorem fo42 : FnOk Try.prog 42 := ⟨⟨_, _, Try.func42, by decide, rfl⟩⟩
theorem fo43 : FnOk Try.prog 43 := ⟨⟨_, _, Try.func43, by decide, rfl⟩⟩
theorem fo44 : FnOk Try.prog 44 := ⟨⟨_, _, Try.func44, by decide, rfl⟩⟩
theorem fo45 : FnOk Try.prog 45 := ⟨⟨_, _, Try.func45, by decide, rfl⟩⟩
theorem fo46 : FnOk Try.prog 46 := ⟨⟨_, _, Try.func46, by decide, rfl⟩⟩
theorem fo47 : FnOk Try.prog 47 := ⟨⟨_, _, Try.func47, by decide, rfl⟩⟩
theorem fo48 : FnOk Try.prog 48 := ⟨⟨_, _, Try.func48, by decide, rfl⟩⟩
theorem fo49 : FnOk Try.prog 49 := ⟨⟨_, _, Try.func49, by decide, rfl⟩⟩
theorem fo50 : FnOk Try.prog 50 := ⟨⟨_, _, Try.func50, by decide, rfl⟩⟩
theorem fo51 : FnOk Try.prog 51 := ⟨⟨_, _, Try.func51, by decide, rfl⟩⟩
theorem fo52 : FnOk Try.prog 52 := ⟨⟨_, _, Try.func52, by decide, rfl⟩⟩
theorem fo53 : FnOk Try.prog 53 := ⟨⟨_, _, Try.func53, by decide, rfl⟩⟩
theorem fo54 : FnOk Try.prog 54 := ⟨⟨_, _, Try.func54, by decide, rfl⟩⟩
theorem fo55 : FnOk Try.prog 55 := ⟨⟨_, _, Try.func55, by decide, rfl⟩⟩
theorem fo56 : FnOk Try.prog 56 := ⟨⟨_, _, Try.func56, by decide, rfl⟩⟩
theorem fo57 : FnOk Try.prog 57 := ⟨⟨_, _, Try.func57, by decide, rfl⟩⟩
theorem fo58 : FnOk Try.prog 58 := ⟨⟨_, _, Try.func58, by decide, rfl⟩⟩
theorem fo59 : FnOk Try.prog 59 := ⟨⟨_, _, Try.func59, by decide, rfl⟩⟩
theorem fo60 : FnOk Try.prog 60 := ⟨⟨_, _, Try.func60, by decide, rfl⟩⟩
theorem fo61 : FnOk Try.prog 61 := ⟨⟨_, _, Try.func61, by decide, rfl⟩⟩
theorem fo62 : FnOk Try.prog 62 := ⟨⟨_, _, Try.func62, by decide, rfl⟩⟩
theorem fo63 : FnOk Try.prog 63 := ⟨⟨_, _, Try.func63, by decide, rfl⟩⟩
theorem fo64 : FnOk Try.prog 64 := ⟨⟨_, _, Try.func64, by decide, rfl⟩⟩
theorem fo65 : FnOk Try.prog 65 := ⟨⟨_, _, Try.func65, by decide, rfl⟩⟩
theorem fo66 : FnOk Try.prog 66 := ⟨⟨_, _, Try.func66, by decide, rfl⟩⟩
theorem fo67 : FnOk Try.prog 67 := ⟨⟨_, _, Try.func67, by decide, rfl⟩⟩
theorem fo68 : FnOk Try.prog 68 := ⟨⟨_, _, Try.func68, by decide, rfl⟩⟩
theorem fo69 : FnOk Try.prog 69 := ⟨⟨_, _, Try.func69, by decide, rfl⟩⟩
theorem fo70 : FnOk Try.prog 70 := ⟨⟨_, _, Try.func70, by decide, rfl⟩⟩
theorem fo71 : FnOk Try.prog 71 := ⟨⟨_, _, Try.func71, by decide, rfl⟩⟩
theorem fo72 : FnOk Try.prog 72 := ⟨⟨_, _, Try.func72, by decide, rfl⟩⟩
theorem fo73 : FnOk Try.prog 73 := ⟨⟨_, _, Try.func73, by decide, rfl⟩⟩
theorem fo74 : FnOk Try.prog 74 := ⟨⟨_, _, Try.func74, by decide, rfl⟩⟩
theorem fo75 : FnOk Try.prog 75 := ⟨⟨_, _, Try.func75, by decide, rfl⟩⟩
theorem fo76 : FnOk Try.prog 76 := ⟨⟨_, _, Try.func76, by decide, rfl⟩⟩
theorem fo77 : FnOk Try.prog 77 := ⟨⟨_, _, Try.func77, by decide, rfl⟩⟩
theorem fo78 : FnOk Try.prog 78 := ⟨⟨_, _, Try.func78, by decide, rfl⟩⟩
theorem fo79 : FnOk Try.prog 79 := ⟨⟨_, _, Try.func79, by decide, rfl⟩⟩
theorem fo80 : FnOk Try.prog 80 := ⟨⟨_, _, Try.func80, by decide, rfl⟩⟩
theorem fo81 : FnOk Try.prog 81 := ⟨⟨_, _, Try.func81, by decide, rfl⟩⟩
theorem fo82 : FnOk Try.prog 82 := ⟨⟨_, _, Try.func82, by decide, rfl⟩⟩
theorem fo83 : FnOk Try.prog 83 := ⟨⟨_, _, Try.func83, by decide, rfl⟩⟩
theorem fo84 : FnOk Try.prog 84 := ⟨⟨_, _, Try.func84, by decide, rfl⟩⟩
theorem fo85 : FnOk Try.prog 85 := ⟨⟨_, _, Try.func85, by decide, rfl⟩⟩
theorem fo86 : FnOk Try.prog 86 := ⟨⟨_, _, Try.func86, by decide, rfl⟩⟩
theorem fo87 : FnOk Try.prog 87 := ⟨⟨_, _, Try.func87, by decide, rfl⟩⟩
theorem fo88 : FnOk Try.prog 88 := ⟨⟨_, _, Try.func88, by decide, rfl⟩⟩
theorem fo89 : FnOk Try.prog 89 := ⟨⟨_, _, Try.func89, by decide, rfl⟩⟩
theorem fo90 : FnOk Try.prog 90 := ⟨⟨_, _, Try.func90, by decide, rfl⟩⟩
theorem fo91 : FnOk Try.prog 91 := ⟨⟨_, _, Try.func91, by decide, rfl⟩⟩
theorem fo92 : FnOk Try.prog 92 := ⟨⟨_, _, Try.func92, by decide, rfl⟩⟩
theorem fo93 : FnOk Try.prog 93 := ⟨⟨_, _, Try.func93, by decide, rfl⟩⟩
theorem fo94 : FnOk Try.prog 94 := ⟨⟨_, _, Try.func94, by decide, rfl⟩⟩
theorem fo95 : FnOk Try.prog 95 := ⟨⟨_, _, Try.func95, by decide, rfl⟩⟩
theorem fo96 : FnOk Try.prog 96 := ⟨⟨_, _, Try.func96, by decide, rfl⟩⟩
theorem fo97 : FnOk Try.prog 97 := ⟨⟨_, _, Try.func97, by decide, rfl⟩⟩
theorem fo98 : FnOk Try.prog 98 := ⟨⟨_, _, Try.func98, by decide, rfl⟩⟩
theorem fo99 : FnOk Try.prog 99 := ⟨⟨_, _, Try.func99, by decide, rfl⟩⟩
theorem fo100 : FnOk Try.prog 100 := ⟨⟨_, _, Try.func100, by decide, rfl⟩⟩
theorem fo101 : FnOk Try.prog 101 := ⟨⟨_, _, Try.func101, by decide, rfl⟩⟩
theorem fo102 : FnOk Try.prog 102 := ⟨⟨_, _, Try.func102, by decide, rfl⟩⟩
theorem fo103 : FnOk Try.prog 103 := ⟨⟨_, _, Try.func103, by decide, rfl⟩⟩
theorem fo104 : FnOk Try.prog 104 := ⟨⟨_, _, Try.func104, by decide, rfl⟩⟩
theorem fo105 : FnOk Try.prog 105 := ⟨⟨_, _, Try.func105, by decide, rfl⟩⟩
theorem fo106 : FnOk Try.prog 106 := ⟨⟨_, _, Try.func106, by decide, rfl⟩⟩
theorem fo107 : FnOk Try.prog 107 := ⟨⟨_, _, Try.func107, by decide, rfl⟩⟩
theorem fo108 : FnOk Try.prog 108 := ⟨⟨_, _, Try.func108, by decide, rfl⟩⟩
theorem fo109 : FnOk Try.prog 109 := ⟨⟨_, _, Try.func109, by decide, rfl⟩⟩
theorem fo110 : FnOk Try.prog 110 := ⟨⟨_, _, Try.func110, by decide, rfl⟩⟩
theorem fo111 : FnOk Try.prog 111 := ⟨⟨_, _, Try.func111, by decide, rfl⟩⟩
theorem fo112 : FnOk Try.prog 112 := ⟨⟨_, _, Try.func112, by decide, rfl⟩⟩
theorem fo113 : FnOk Try.prog 113 := ⟨⟨_, _, Try.func113, by decide, rfl⟩⟩
theorem fo114 : FnOk Try.prog 114 := ⟨⟨_, _, Try.func114, by decide, rfl⟩⟩
theorem fo115 : FnOk Try.prog 115 := ⟨⟨_, _, Try.func115, by decide, rfl⟩⟩
theorem fo116 : FnOk Try.prog 116 := ⟨⟨_, _, Try.func116, by decide, rfl⟩⟩
theorem fo117 : FnOk Try.prog 117 := ⟨⟨_, _, Try.func117, by decide, rfl⟩⟩
theorem fo118 : FnOk Try.prog 118 := ⟨⟨_, _, Try.func118, by decide, rfl⟩⟩
theorem fo119 : FnOk Try.prog 119 := ⟨⟨_, _, Try.func119, by decide, rfl⟩⟩
theorem fo120 : FnOk Try.prog 120 := ⟨⟨_, _, Try.func120, by decide, rfl⟩⟩
theorem fo121 : FnOk Try.prog 121 := ⟨⟨_, _, Try.func121, by decide, rfl⟩⟩
theorem fo122 : FnOk Try.prog 122 := ⟨⟨_, _, Try.func122, by decide, rfl⟩⟩
theorem fo123 : FnOk Try.prog 123 := ⟨⟨_, _, Try.func123, by decide, rfl⟩⟩
theorem fo124 : FnOk Try.prog 124 := ⟨⟨_, _, Try.func124, by decide, rfl⟩⟩
theorem fo125 : FnOk Try.prog 125 := ⟨⟨_, _, Try.func125, by decide, rfl⟩⟩
theorem fo126 : FnOk Try.prog 126 := ⟨⟨_, _, Try.func126, by decide, rfl⟩⟩
theorem fo127 : FnOk Try.prog 127 := ⟨⟨_, _, Try.func127, by decide, rfl⟩⟩
theorem fo128 : FnOk Try.prog 128 := ⟨⟨_, _, Try.func128, by decide, rfl⟩⟩
theorem fo129 : FnOk Try.prog 129 := ⟨⟨_, _, Try.func129, by decide, rfl⟩⟩
theorem fo130 : FnOk Try.prog 130 := ⟨⟨_, _, Try.func130, by decide, rfl⟩⟩
theorem fo131 : FnOk Try.prog 131 := ⟨⟨_, _, Try.func131, by decide, rfl⟩⟩
theorem fo132 : FnOk Try.prog 132 := ⟨⟨_, _, Try.func132, by decide, rfl⟩⟩
theorem fo133 : FnOk Try.prog 133 := ⟨⟨_, _, Try.func133, by decide, rfl⟩⟩
theorem fo134 : FnOk Try.prog 134 := ⟨⟨_, _, Try.func134, by decide, rfl⟩⟩
theorem fo135 : FnOk Try.prog 135 := ⟨⟨_, _, Try.func135, by decide, rfl⟩⟩
theorem fo137 : FnOk Try.prog 137 := ⟨⟨_, _, Try.func137, by decide, rfl⟩⟩
theorem fo138 : FnOk Try.prog 138 := ⟨⟨_, _, Try.func138, by decide, rfl⟩⟩
theorem fo139 : FnOk Try.prog 139 := ⟨⟨_, _, Try.func139, by decide, rfl⟩⟩
theorem bd25 : BuildOk Try.prog 25 [.int .u8 0, .string ⟨#[]⟩, .int .i64 0, .slice none 0 0] [(0, 1), (1, 1), (2, 1), (3, 1)] := by
  intro parts cells w h
  unfold Instr.build
  simp only [Sem.run_bind, run_zeroValue' tbOk (show tb.get 25 = _ from rfl), Result.andThen_ok, run_underlying Try.underlying25]
  simp [Rw.run_sizeOf tbOk (show tb.get 3 = _ from rfl), Rw.run_sizeOf tbOk (show tb.get 9 = _ from rfl), Rw.run_sizeOf tbOk (show tb.get 22 = _ from rfl), Rw.run_sizeOf tbOk (show tb.get 23 = _ from rfl), h]
theorem bd32 : BuildOk Try.prog 32 [.string ⟨#[]⟩, .int .u8 0, .string ⟨#[]⟩, .int .i64 0, .slice none 0 0] [(0, 1), (1, 4)] := by
  intro parts cells w h
  unfold Instr.build
  simp only [Sem.run_bind, run_zeroValue' tbOk (show tb.get 32 = _ from rfl), Result.andThen_ok, run_underlying Try.underlying32]
  simp [Rw.run_sizeOf tbOk (show tb.get 9 = _ from rfl), Rw.run_sizeOf tbOk (show tb.get 25 = _ from rfl), h]
theorem bd59 : BuildOk Try.prog 59 [.int .u8 0, .string ⟨#[]⟩, .string ⟨#[]⟩, .int .i64 0, .bool false, .int .u8 0, .string ⟨#[]⟩, .int .i64 0, .slice none 0 0, .slice none 0 0] [(0, 1), (1, 1), (2, 1), (3, 1), (4, 1), (5, 4), (9, 1)] := by
  intro parts cells w h
  unfold Instr.build
  simp only [Sem.run_bind, run_zeroValue' tbOk (show tb.get 59 = _ from rfl), Result.andThen_ok, run_underlying Try.underlying59]
  simp [Rw.run_sizeOf tbOk (show tb.get 2 = _ from rfl), Rw.run_sizeOf tbOk (show tb.get 4 = _ from rfl), Rw.run_sizeOf tbOk (show tb.get 9 = _ from rfl), Rw.run_sizeOf tbOk (show tb.get 22 = _ from rfl), Rw.run_sizeOf tbOk (show tb.get 25 = _ from rfl), Rw.run_sizeOf tbOk (show tb.get 57 = _ from rfl), h]
theorem bd77 : BuildOk Try.prog 77 [.int .i64 0, .bool false] [(0, 1), (1, 1)] := by
  intro parts cells w h
  unfold Instr.build
  simp only [Sem.run_bind, run_zeroValue' tbOk (show tb.get 77 = _ from rfl), Result.andThen_ok, run_underlying Try.underlying77]
  simp [Rw.run_sizeOf tbOk (show tb.get 3 = _ from rfl), Rw.run_sizeOf tbOk (show tb.get 4 = _ from rfl), h]
theorem bd79 : BuildOk Try.prog 79 [.nilFunc, .nilFunc] [(0, 1), (1, 1)] := by
  intro parts cells w h
  unfold Instr.build
  simp only [Sem.run_bind, run_zeroValue' tbOk (show tb.get 79 = _ from rfl), Result.andThen_ok, run_underlying Try.underlying79]
  simp [Rw.run_sizeOf tbOk (show tb.get 33 = _ from rfl), h]
theorem bd87 : BuildOk Try.prog 87 [.slice none 0 0] [(0, 1)] := by
  intro parts cells w h
  unfold Instr.build
  simp only [Sem.run_bind, run_zeroValue' tbOk (show tb.get 87 = _ from rfl), Result.andThen_ok, run_underlying Try.underlying87]
  simp [Rw.run_sizeOf tbOk (show tb.get 50 = _ from rfl), h]
theorem bd115 : BuildOk Try.prog 115 [.bool false, .bool false, .int .i64 0, .int .i64 0] [(0, 1), (1, 1), (2, 1), (3, 1)] := by
  intro parts cells w h
  unfold Instr.build
  simp only [Sem.run_bind, run_zeroValue' tbOk (show tb.get 115 = _ from rfl), Result.andThen_ok, run_underlying Try.underlying115]
  simp [Rw.run_sizeOf tbOk (show tb.get 3 = _ from rfl), Rw.run_sizeOf tbOk (show tb.get 4 = _ from rfl), h]
end Go.Proofs.Ytpoahmeacjggfaa
