/- The types of this seat's translation, as a short table, and that its functions have bodies. Written by wip/tools/tab.py. -/
import Derived.Test.YtohfnpmehgpphaaBuild
import Derived.Test.YtohfnpmehgpphaaProg
namespace Go.Proofs.Ytohfnpmehgpphaa
open Go Rw
set_option maxRecDepth 100000

theorem ti2 : TIOk Try.prog 2 ⟨.int .i64, 1, 8, .int .i64 0⟩ := ⟨⟨_, rfl, rfl, rfl, rfl⟩, Try.underlying2⟩
theorem ti3 : TIOk Try.prog 3 ⟨.int .i64, 1, 8, .int .i64 0⟩ := ⟨⟨_, rfl, rfl, rfl, rfl⟩, Try.underlying3⟩
theorem ti4 : TIOk Try.prog 4 ⟨.bool, 1, 1, .bool false⟩ := ⟨⟨_, rfl, rfl, rfl, rfl⟩, Try.underlying4⟩
theorem ti5 : TIOk Try.prog 5 ⟨.int .u8, 1, 1, .int .u8 0⟩ := ⟨⟨_, rfl, rfl, rfl, rfl⟩, Try.underlying5⟩
theorem ti9 : TIOk Try.prog 9 ⟨.str, 1, 16, .string ⟨#[]⟩⟩ := ⟨⟨_, rfl, rfl, rfl, rfl⟩, Try.underlying9⟩
theorem ti23 : TIOk Try.prog 23 ⟨.st [(0, 3), (1, 3), (2, 9)], 3, 32, .agg #[.int .i64 0, .int .i64 0, .string ⟨#[]⟩]⟩ := ⟨⟨_, rfl, rfl, rfl, rfl⟩, ⟨_, Try.underlying23, rfl, ⟨⟨_, _, rfl, rfl, rfl, rfl, rfl⟩, ⟨⟨_, _, rfl, rfl, rfl, rfl, rfl⟩, ⟨⟨_, _, rfl, rfl, rfl, rfl, rfl⟩, trivial⟩⟩⟩⟩⟩
theorem ti24 : TIOk Try.prog 24 ⟨.sl 28, 1, 24, .slice none 0 0⟩ := ⟨⟨_, rfl, rfl, rfl, rfl⟩, Try.underlying24⟩
theorem ti26 : TIOk Try.prog 26 ⟨.sl 29, 1, 24, .slice none 0 0⟩ := ⟨⟨_, rfl, rfl, rfl, rfl⟩, Try.underlying26⟩
theorem ti28 : TIOk Try.prog 28 ⟨.st [(0, 3), (1, 9), (2, 3)], 3, 32, .agg #[.int .i64 0, .string ⟨#[]⟩, .int .i64 0]⟩ := ⟨⟨_, rfl, rfl, rfl, rfl⟩, ⟨_, Try.underlying28, rfl, ⟨⟨_, _, rfl, rfl, rfl, rfl, rfl⟩, ⟨⟨_, _, rfl, rfl, rfl, rfl, rfl⟩, ⟨⟨_, _, rfl, rfl, rfl, rfl, rfl⟩, trivial⟩⟩⟩⟩⟩
theorem ti29 : TIOk Try.prog 29 ⟨.st [(0, 3), (1, 9), (2, 3)], 3, 32, .agg #[.int .i64 0, .string ⟨#[]⟩, .int .i64 0]⟩ := ⟨⟨_, rfl, rfl, rfl, rfl⟩, ⟨_, Try.underlying29, rfl, ⟨⟨_, _, rfl, rfl, rfl, rfl, rfl⟩, ⟨⟨_, _, rfl, rfl, rfl, rfl, rfl⟩, ⟨⟨_, _, rfl, rfl, rfl, rfl, rfl⟩, trivial⟩⟩⟩⟩⟩
theorem ti30 : TIOk Try.prog 30 ⟨.int .u8, 1, 1, .int .u8 0⟩ := ⟨⟨_, rfl, rfl, rfl, rfl⟩, Try.underlying30⟩
theorem ti35 : TIOk Try.prog 35 ⟨.st [(0, 3), (1, 3), (2, 9)], 3, 32, .agg #[.int .i64 0, .int .i64 0, .string ⟨#[]⟩]⟩ := ⟨⟨_, rfl, rfl, rfl, rfl⟩, ⟨_, Try.underlying35, rfl, ⟨⟨_, _, rfl, rfl, rfl, rfl, rfl⟩, ⟨⟨_, _, rfl, rfl, rfl, rfl, rfl⟩, ⟨⟨_, _, rfl, rfl, rfl, rfl, rfl⟩, trivial⟩⟩⟩⟩⟩
theorem ti37 : TIOk Try.prog 37 ⟨.int .u8, 1, 1, .int .u8 0⟩ := ⟨⟨_, rfl, rfl, rfl, rfl⟩, Try.underlying37⟩
theorem ti38 : TIOk Try.prog 38 ⟨.sl 40, 1, 24, .slice none 0 0⟩ := ⟨⟨_, rfl, rfl, rfl, rfl⟩, Try.underlying38⟩
theorem ti40 : TIOk Try.prog 40 ⟨.st [(0, 37), (1, 9), (2, 3), (3, 38)], 4, 56, .agg #[.int .u8 0, .string ⟨#[]⟩, .int .i64 0, .slice none 0 0]⟩ := ⟨⟨_, rfl, rfl, rfl, rfl⟩, ⟨_, Try.underlying40, rfl, ⟨⟨_, _, rfl, rfl, rfl, rfl, rfl⟩, ⟨⟨_, _, rfl, rfl, rfl, rfl, rfl⟩, ⟨⟨_, _, rfl, rfl, rfl, rfl, rfl⟩, ⟨⟨_, _, rfl, rfl, rfl, rfl, rfl⟩, trivial⟩⟩⟩⟩⟩⟩
theorem ti42 : TIOk Try.prog 42 ⟨.sl 54, 1, 24, .slice none 0 0⟩ := ⟨⟨_, rfl, rfl, rfl, rfl⟩, Try.underlying42⟩
theorem ti50 : TIOk Try.prog 50 ⟨.sl 56, 1, 24, .slice none 0 0⟩ := ⟨⟨_, rfl, rfl, rfl, rfl⟩, Try.underlying50⟩
theorem ti54 : TIOk Try.prog 54 ⟨.st [(0, 9), (1, 3)], 2, 24, .agg #[.string ⟨#[]⟩, .int .i64 0]⟩ := ⟨⟨_, rfl, rfl, rfl, rfl⟩, ⟨_, Try.underlying54, rfl, ⟨⟨_, _, rfl, rfl, rfl, rfl, rfl⟩, ⟨⟨_, _, rfl, rfl, rfl, rfl, rfl⟩, trivial⟩⟩⟩⟩
theorem ti56 : TIOk Try.prog 56 ⟨.st [(0, 9), (1, 40)], 5, 72, .agg #[.string ⟨#[]⟩, .int .u8 0, .string ⟨#[]⟩, .int .i64 0, .slice none 0 0]⟩ := ⟨⟨_, rfl, rfl, rfl, rfl⟩, ⟨_, Try.underlying56, rfl, ⟨⟨_, _, rfl, rfl, rfl, rfl, rfl⟩, ⟨⟨_, _, rfl, rfl, rfl, rfl, rfl⟩, trivial⟩⟩⟩⟩
theorem ti61 : TIOk Try.prog 61 ⟨.sl 23, 1, 24, .slice none 0 0⟩ := ⟨⟨_, rfl, rfl, rfl, rfl⟩, Try.underlying61⟩
theorem ti62 : TIOk Try.prog 62 ⟨.sl 64, 1, 24, .slice none 0 0⟩ := ⟨⟨_, rfl, rfl, rfl, rfl⟩, Try.underlying62⟩
theorem ti64 : TIOk Try.prog 64 ⟨.st [(0, 3), (1, 40)], 5, 64, .agg #[.int .i64 0, .int .u8 0, .string ⟨#[]⟩, .int .i64 0, .slice none 0 0]⟩ := ⟨⟨_, rfl, rfl, rfl, rfl⟩, ⟨_, Try.underlying64, rfl, ⟨⟨_, _, rfl, rfl, rfl, rfl, rfl⟩, ⟨⟨_, _, rfl, rfl, rfl, rfl, rfl⟩, trivial⟩⟩⟩⟩
theorem ti67 : TIOk Try.prog 67 ⟨.sl 35, 1, 24, .slice none 0 0⟩ := ⟨⟨_, rfl, rfl, rfl, rfl⟩, Try.underlying67⟩
theorem ti70 : TIOk Try.prog 70 ⟨.st [(0, 3), (1, 40)], 5, 64, .agg #[.int .i64 0, .int .u8 0, .string ⟨#[]⟩, .int .i64 0, .slice none 0 0]⟩ := ⟨⟨_, rfl, rfl, rfl, rfl⟩, ⟨_, Try.underlying70, rfl, ⟨⟨_, _, rfl, rfl, rfl, rfl, rfl⟩, ⟨⟨_, _, rfl, rfl, rfl, rfl, rfl⟩, trivial⟩⟩⟩⟩
theorem ti71 : TIOk Try.prog 71 ⟨.sl 70, 1, 24, .slice none 0 0⟩ := ⟨⟨_, rfl, rfl, rfl, rfl⟩, Try.underlying71⟩
theorem ti73 : TIOk Try.prog 73 ⟨.sl 5, 1, 24, .slice none 0 0⟩ := ⟨⟨_, rfl, rfl, rfl, rfl⟩, Try.underlying73⟩
theorem ti82 : TIOk Try.prog 82 ⟨.sl 84, 1, 24, .slice none 0 0⟩ := ⟨⟨_, rfl, rfl, rfl, rfl⟩, Try.underlying82⟩
theorem ti84 : TIOk Try.prog 84 ⟨.st [(0, 37), (1, 9), (2, 9), (3, 2), (4, 4), (5, 40), (9, 82)], 10, 136, .agg #[.int .u8 0, .string ⟨#[]⟩, .string ⟨#[]⟩, .int .i64 0, .bool false, .int .u8 0, .string ⟨#[]⟩, .int .i64 0, .slice none 0 0, .slice none 0 0]⟩ := ⟨⟨_, rfl, rfl, rfl, rfl⟩, ⟨_, Try.underlying84, rfl, ⟨⟨_, _, rfl, rfl, rfl, rfl, rfl⟩, ⟨⟨_, _, rfl, rfl, rfl, rfl, rfl⟩, ⟨⟨_, _, rfl, rfl, rfl, rfl, rfl⟩, ⟨⟨_, _, rfl, rfl, rfl, rfl, rfl⟩, ⟨⟨_, _, rfl, rfl, rfl, rfl, rfl⟩, ⟨⟨_, _, rfl, rfl, rfl, rfl, rfl⟩, ⟨⟨_, _, rfl, rfl, rfl, rfl, rfl⟩, trivial⟩⟩⟩⟩⟩⟩⟩⟩⟩
theorem ti111 : TIOk Try.prog 111 ⟨.fn, 1, 8, .nilFunc⟩ := ⟨⟨_, rfl, rfl, rfl, rfl⟩, ⟨_, _, _, Try.underlying111⟩⟩
theorem ti113 : TIOk Try.prog 113 ⟨.fn, 1, 8, .nilFunc⟩ := ⟨⟨_, rfl, rfl, rfl, rfl⟩, ⟨_, _, _, Try.underlying113⟩⟩
theorem ti115 : TIOk Try.prog 115 ⟨.sl 9, 1, 24, .slice none 0 0⟩ := ⟨⟨_, rfl, rfl, rfl, rfl⟩, Try.underlying115⟩
theorem ti121 : TIOk Try.prog 121 ⟨.fn, 1, 8, .nilFunc⟩ := ⟨⟨_, rfl, rfl, rfl, rfl⟩, ⟨_, _, _, Try.underlying121⟩⟩
theorem ti125 : TIOk Try.prog 125 ⟨.st [(0, 73)], 1, 24, .agg #[.slice none 0 0]⟩ := ⟨⟨_, rfl, rfl, rfl, rfl⟩, ⟨_, Try.underlying125, rfl, ⟨⟨_, _, rfl, rfl, rfl, rfl, rfl⟩, trivial⟩⟩⟩
theorem ti128 : TIOk Try.prog 128 ⟨.int .u64, 1, 8, .int .u64 0⟩ := ⟨⟨_, rfl, rfl, rfl, rfl⟩, Try.underlying128⟩
theorem ti130 : TIOk Try.prog 130 ⟨.st [(0, 73), (1, 4)], 2, 32, .agg #[.slice none 0 0, .bool false]⟩ := ⟨⟨_, rfl, rfl, rfl, rfl⟩, ⟨_, Try.underlying130, rfl, ⟨⟨_, _, rfl, rfl, rfl, rfl, rfl⟩, ⟨⟨_, _, rfl, rfl, rfl, rfl, rfl⟩, trivial⟩⟩⟩⟩
theorem ti140 : TIOk Try.prog 140 ⟨.sl 142, 1, 24, .slice none 0 0⟩ := ⟨⟨_, rfl, rfl, rfl, rfl⟩, Try.underlying140⟩
theorem ti142 : TIOk Try.prog 142 ⟨.st [(0, 9), (1, 40)], 5, 72, .agg #[.string ⟨#[]⟩, .int .u8 0, .string ⟨#[]⟩, .int .i64 0, .slice none 0 0]⟩ := ⟨⟨_, rfl, rfl, rfl, rfl⟩, ⟨_, Try.underlying142, rfl, ⟨⟨_, _, rfl, rfl, rfl, rfl, rfl⟩, ⟨⟨_, _, rfl, rfl, rfl, rfl, rfl⟩, trivial⟩⟩⟩⟩
theorem ti143 : TIOk Try.prog 143 ⟨.fn, 1, 8, .nilFunc⟩ := ⟨⟨_, rfl, rfl, rfl, rfl⟩, ⟨_, _, _, Try.underlying143⟩⟩
theorem ti150 : TIOk Try.prog 150 ⟨.ptr 3, 1, 8, .pointer none⟩ := ⟨⟨_, rfl, rfl, rfl, rfl⟩, Try.underlying150⟩
theorem ti151 : TIOk Try.prog 151 ⟨.mp 3 4, 1, 8, .map none⟩ := ⟨⟨_, rfl, rfl, rfl, rfl⟩, Try.underlying151⟩
theorem ti152 : TIOk Try.prog 152 ⟨.mp 3 4, 1, 8, .map none⟩ := ⟨⟨_, rfl, rfl, rfl, rfl⟩, Try.underlying152⟩
theorem ti154 : TIOk Try.prog 154 ⟨.int .u64, 1, 8, .int .u64 0⟩ := ⟨⟨_, rfl, rfl, rfl, rfl⟩, Try.underlying154⟩
theorem ti160 : TIOk Try.prog 160 ⟨.ptr 125, 1, 8, .pointer none⟩ := ⟨⟨_, rfl, rfl, rfl, rfl⟩, Try.underlying160⟩
theorem ti162 : TIOk Try.prog 162 ⟨.ptr 130, 1, 8, .pointer none⟩ := ⟨⟨_, rfl, rfl, rfl, rfl⟩, Try.underlying162⟩
theorem ti168 : TIOk Try.prog 168 ⟨.sl 3, 1, 24, .slice none 0 0⟩ := ⟨⟨_, rfl, rfl, rfl, rfl⟩, Try.underlying168⟩
theorem ti170 : TIOk Try.prog 170 ⟨.mp 9 3, 1, 8, .map none⟩ := ⟨⟨_, rfl, rfl, rfl, rfl⟩, Try.underlying170⟩
theorem ti171 : TIOk Try.prog 171 ⟨.mp 9 4, 1, 8, .map none⟩ := ⟨⟨_, rfl, rfl, rfl, rfl⟩, Try.underlying171⟩
theorem ti173 : TIOk Try.prog 173 ⟨.st [(0, 170), (1, 171)], 2, 16, .agg #[.map none, .map none]⟩ := ⟨⟨_, rfl, rfl, rfl, rfl⟩, ⟨_, Try.underlying173, rfl, ⟨⟨_, _, rfl, rfl, rfl, rfl, rfl⟩, ⟨⟨_, _, rfl, rfl, rfl, rfl, rfl⟩, trivial⟩⟩⟩⟩
theorem ti176 : TIOk Try.prog 176 ⟨.fn, 1, 8, .nilFunc⟩ := ⟨⟨_, rfl, rfl, rfl, rfl⟩, ⟨_, _, _, Try.underlying176⟩⟩
theorem ti181 : TIOk Try.prog 181 ⟨.fn, 1, 8, .nilFunc⟩ := ⟨⟨_, rfl, rfl, rfl, rfl⟩, ⟨_, _, _, Try.underlying181⟩⟩
theorem ti184 : TIOk Try.prog 184 ⟨.st [(0, 4), (1, 4), (2, 3), (3, 3)], 4, 24, .agg #[.bool false, .bool false, .int .i64 0, .int .i64 0]⟩ := ⟨⟨_, rfl, rfl, rfl, rfl⟩, ⟨_, Try.underlying184, rfl, ⟨⟨_, _, rfl, rfl, rfl, rfl, rfl⟩, ⟨⟨_, _, rfl, rfl, rfl, rfl, rfl⟩, ⟨⟨_, _, rfl, rfl, rfl, rfl, rfl⟩, ⟨⟨_, _, rfl, rfl, rfl, rfl, rfl⟩, trivial⟩⟩⟩⟩⟩⟩
theorem ti191 : TIOk Try.prog 191 ⟨.ptr 173, 1, 8, .pointer none⟩ := ⟨⟨_, rfl, rfl, rfl, rfl⟩, Try.underlying191⟩
theorem ti203 : TIOk Try.prog 203 ⟨.int .i64, 1, 8, .int .i64 0⟩ := ⟨⟨_, rfl, rfl, rfl, rfl⟩, Try.underlying203⟩
theorem ti212 : TIOk Try.prog 212 ⟨.int .u32, 1, 4, .int .u32 0⟩ := ⟨⟨_, rfl, rfl, rfl, rfl⟩, Try.underlying212⟩
theorem ti215 : TIOk Try.prog 215 ⟨.int .u64, 1, 8, .int .u64 0⟩ := ⟨⟨_, rfl, rfl, rfl, rfl⟩, Try.underlying215⟩
def tb : Tab := [(2, ⟨.int .i64, 1, 8, .int .i64 0⟩), (3, ⟨.int .i64, 1, 8, .int .i64 0⟩), (4, ⟨.bool, 1, 1, .bool false⟩), (5, ⟨.int .u8, 1, 1, .int .u8 0⟩), (9, ⟨.str, 1, 16, .string ⟨#[]⟩⟩), (23, ⟨.st [(0, 3), (1, 3), (2, 9)], 3, 32, .agg #[.int .i64 0, .int .i64 0, .string ⟨#[]⟩]⟩), (24, ⟨.sl 28, 1, 24, .slice none 0 0⟩), (26, ⟨.sl 29, 1, 24, .slice none 0 0⟩), (28, ⟨.st [(0, 3), (1, 9), (2, 3)], 3, 32, .agg #[.int .i64 0, .string ⟨#[]⟩, .int .i64 0]⟩), (29, ⟨.st [(0, 3), (1, 9), (2, 3)], 3, 32, .agg #[.int .i64 0, .string ⟨#[]⟩, .int .i64 0]⟩), (30, ⟨.int .u8, 1, 1, .int .u8 0⟩), (35, ⟨.st [(0, 3), (1, 3), (2, 9)], 3, 32, .agg #[.int .i64 0, .int .i64 0, .string ⟨#[]⟩]⟩), (37, ⟨.int .u8, 1, 1, .int .u8 0⟩), (38, ⟨.sl 40, 1, 24, .slice none 0 0⟩), (40, ⟨.st [(0, 37), (1, 9), (2, 3), (3, 38)], 4, 56, .agg #[.int .u8 0, .string ⟨#[]⟩, .int .i64 0, .slice none 0 0]⟩), (42, ⟨.sl 54, 1, 24, .slice none 0 0⟩), (50, ⟨.sl 56, 1, 24, .slice none 0 0⟩), (54, ⟨.st [(0, 9), (1, 3)], 2, 24, .agg #[.string ⟨#[]⟩, .int .i64 0]⟩), (56, ⟨.st [(0, 9), (1, 40)], 5, 72, .agg #[.string ⟨#[]⟩, .int .u8 0, .string ⟨#[]⟩, .int .i64 0, .slice none 0 0]⟩), (61, ⟨.sl 23, 1, 24, .slice none 0 0⟩), (62, ⟨.sl 64, 1, 24, .slice none 0 0⟩), (64, ⟨.st [(0, 3), (1, 40)], 5, 64, .agg #[.int .i64 0, .int .u8 0, .string ⟨#[]⟩, .int .i64 0, .slice none 0 0]⟩), (67, ⟨.sl 35, 1, 24, .slice none 0 0⟩), (70, ⟨.st [(0, 3), (1, 40)], 5, 64, .agg #[.int .i64 0, .int .u8 0, .string ⟨#[]⟩, .int .i64 0, .slice none 0 0]⟩), (71, ⟨.sl 70, 1, 24, .slice none 0 0⟩), (73, ⟨.sl 5, 1, 24, .slice none 0 0⟩), (82, ⟨.sl 84, 1, 24, .slice none 0 0⟩), (84, ⟨.st [(0, 37), (1, 9), (2, 9), (3, 2), (4, 4), (5, 40), (9, 82)], 10, 136, .agg #[.int .u8 0, .string ⟨#[]⟩, .string ⟨#[]⟩, .int .i64 0, .bool false, .int .u8 0, .string ⟨#[]⟩, .int .i64 0, .slice none 0 0, .slice none 0 0]⟩), (111, ⟨.fn, 1, 8, .nilFunc⟩), (113, ⟨.fn, 1, 8, .nilFunc⟩), (115, ⟨.sl 9, 1, 24, .slice none 0 0⟩), (121, ⟨.fn, 1, 8, .nilFunc⟩), (125, ⟨.st [(0, 73)], 1, 24, .agg #[.slice none 0 0]⟩), (128, ⟨.int .u64, 1, 8, .int .u64 0⟩), (130, ⟨.st [(0, 73), (1, 4)], 2, 32, .agg #[.slice none 0 0, .bool false]⟩), (140, ⟨.sl 142, 1, 24, .slice none 0 0⟩), (142, ⟨.st [(0, 9), (1, 40)], 5, 72, .agg #[.string ⟨#[]⟩, .int .u8 0, .string ⟨#[]⟩, .int .i64 0, .slice none 0 0]⟩), (143, ⟨.fn, 1, 8, .nilFunc⟩), (150, ⟨.ptr 3, 1, 8, .pointer none⟩), (151, ⟨.mp 3 4, 1, 8, .map none⟩), (152, ⟨.mp 3 4, 1, 8, .map none⟩), (154, ⟨.int .u64, 1, 8, .int .u64 0⟩), (160, ⟨.ptr 125, 1, 8, .pointer none⟩), (162, ⟨.ptr 130, 1, 8, .pointer none⟩), (168, ⟨.sl 3, 1, 24, .slice none 0 0⟩), (170, ⟨.mp 9 3, 1, 8, .map none⟩), (171, ⟨.mp 9 4, 1, 8, .map none⟩), (173, ⟨.st [(0, 170), (1, 171)], 2, 16, .agg #[.map none, .map none]⟩), (176, ⟨.fn, 1, 8, .nilFunc⟩), (181, ⟨.fn, 1, 8, .nilFunc⟩), (184, ⟨.st [(0, 4), (1, 4), (2, 3), (3, 3)], 4, 24, .agg #[.bool false, .bool false, .int .i64 0, .int .i64 0]⟩), (191, ⟨.ptr 173, 1, 8, .pointer none⟩), (203, ⟨.int .i64, 1, 8, .int .i64 0⟩), (212, ⟨.int .u32, 1, 4, .int .u32 0⟩), (215, ⟨.int .u64, 1, 8, .int .u64 0⟩)]
theorem tbOk : TabOk Try.prog tb := tab_cons ti2 (tab_cons ti3 (tab_cons ti4 (tab_cons ti5 (tab_cons ti9 (tab_cons ti23 (tab_cons ti24 (tab_cons ti26 (tab_cons ti28 (tab_cons ti29 (tab_cons ti30 (tab_cons ti35 (tab_cons ti37 (tab_cons ti38 (tab_cons ti40 (tab_cons ti42 (tab_cons ti50 (tab_cons ti54 (tab_cons ti56 (tab_cons ti61 (tab_cons ti62 (tab_cons ti64 (tab_cons ti67 (tab_cons ti70 (tab_cons ti71 (tab_cons ti73 (tab_cons ti82 (tab_cons ti84 (tab_cons ti111 (tab_cons ti113 (tab_cons ti115 (tab_cons ti121 (tab_cons ti125 (tab_cons ti128 (tab_cons ti130 (tab_cons ti140 (tab_cons ti142 (tab_cons ti143 (tab_cons ti150 (tab_cons ti151 (tab_cons ti152 (tab_cons ti154 (tab_cons ti160 (tab_cons ti162 (tab_cons ti168 (tab_cons ti170 (tab_cons ti171 (tab_cons ti173 (tab_cons ti176 (tab_cons ti181 (tab_cons ti184 (tab_cons ti191 (tab_cons ti203 (tab_cons ti212 (tab_cons ti215 (tab_nil)))))))))))))))))))))))))))))))))))))))))))))))))))))))
theorem fo3 : FnOk Try.prog 3 := ⟨⟨_, _, Try.func3, by decide, rfl⟩⟩
theorem fo4 : FnOk Try.prog 4 := ⟨⟨_, _, Try.func4, by decide, rfl⟩⟩
theorem fo5 : FnOk Try.prog 5 := ⟨⟨_, _, Try.func5, by decide, rfl⟩⟩
theorem fo6 : FnOk Try.prog 6 := ⟨⟨_, _, Try.func6, by decide, rfl⟩⟩
theorem fo7 : FnOk Try.prog 7 := ⟨⟨_, _, Try.func7, by decide, rfl⟩⟩
theorem fo8 : FnOk Try.prog 8 := ⟨⟨_, _, Try.func8, by decide, rfl⟩⟩
theorem fo9 : FnOk Try.prog 9 := ⟨⟨_, _, Try.func9, by decide, rfl⟩⟩
theorem fo10 : FnOk Try.prog 10 := ⟨⟨_, _, Try.func10, by decide, rfl⟩⟩
theorem fo11 : FnOk Try.prog 11 := ⟨⟨_, _, Try.func11, by decide, rfl⟩⟩
theorem fo12 : FnOk Try.prog 12 := ⟨⟨_, _, Try.func12, by decide, rfl⟩⟩
theorem fo13 : FnOk Try.prog 13 := ⟨⟨_, _, Try.func13, by decide, rfl⟩⟩
theorem fo14 : FnOk Try.prog 14 := ⟨⟨_, _, Try.func14, by decide, rfl⟩⟩
theorem fo15 : FnOk Try.prog 15 := ⟨⟨_, _, Try.func15, by decide, rfl⟩⟩
theorem fo16 : FnOk Try.prog 16 := ⟨⟨_, _, Try.func16, by decide, rfl⟩⟩
theorem fo17 : FnOk Try.prog 17 := ⟨⟨_, _, Try.func17, by decide, rfl⟩⟩
theorem fo18 : FnOk Try.prog 18 := ⟨⟨_, _, Try.func18, by decide, rfl⟩⟩
theorem fo19 : FnOk Try.prog 19 := ⟨⟨_, _, Try.func19, by decide, rfl⟩⟩
theorem fo20 : FnOk Try.prog 20 := ⟨⟨_, _, Try.func20, by decide, rfl⟩⟩
theorem fo21 : FnOk Try.prog 21 := ⟨⟨_, _, Try.func21, by decide, rfl⟩⟩
theorem fo22 : FnOk Try.prog 22 := ⟨⟨_, _, Try.func22, by decide, rfl⟩⟩
theorem fo23 : FnOk Try.prog 23 := ⟨⟨_, _, Try.func23, by decide, rfl⟩⟩
theorem fo24 : FnOk Try.prog 24 := ⟨⟨_, _, Try.func24, by decide, rfl⟩⟩
theorem fo25 : FnOk Try.prog 25 := ⟨⟨_, _, Try.func25, by decide, rfl⟩⟩
theorem fo26 : FnOk Try.prog 26 := ⟨⟨_, _, Try.func26, by decide, rfl⟩⟩
theorem fo27 : FnOk Try.prog 27 := ⟨⟨_, _, Try.func27, by decide, rfl⟩⟩
theorem fo28 : FnOk Try.prog 28 := ⟨⟨_, _, Try.func28, by decide, rfl⟩⟩
theorem fo29 : FnOk Try.prog 29 := ⟨⟨_, _, Try.func29, by decide, rfl⟩⟩
theorem fo30 : FnOk Try.prog 30 := ⟨⟨_, _, Try.func30, by decide, rfl⟩⟩
theorem fo31 : FnOk Try.prog 31 := ⟨⟨_, _, Try.func31, by decide, rfl⟩⟩
theorem fo32 : FnOk Try.prog 32 := ⟨⟨_, _, Try.func32, by decide, rfl⟩⟩
theorem fo33 : FnOk Try.prog 33 := ⟨⟨_, _, Try.func33, by decide, rfl⟩⟩
theorem fo34 : FnOk Try.prog 34 := ⟨⟨_, _, Try.func34, by decide, rfl⟩⟩
theorem fo35 : FnOk Try.prog 35 := ⟨⟨_, _, Try.func35, by decide, rfl⟩⟩
theorem fo36 : FnOk Try.prog 36 := ⟨⟨_, _, Try.func36, by decide, rfl⟩⟩
theorem fo37 : FnOk Try.prog 37 := ⟨⟨_, _, Try.func37, by decide, rfl⟩⟩
theorem fo38 : FnOk Try.prog 38 := ⟨⟨_, _, Try.func38, by decide, rfl⟩⟩
theorem fo39 : FnOk Try.prog 39 := ⟨⟨_, _, Try.func39, by decide, rfl⟩⟩
theorem fo40 : FnOk Try.prog 40 := ⟨⟨_, _, Try.func40, by decide, rfl⟩⟩
theorem fo41 : FnOk Try.prog 41 := ⟨⟨_, _, Try.func41, by decide, rfl⟩⟩
theorem fo42 : FnOk Try.prog 42 := ⟨⟨_, _, Try.func42, by decide, rfl⟩⟩
theorem fo43 : FnOk Try.prog 43 := ⟨⟨_, _, Try.func43, by decide, rfl⟩⟩
theorem fo44 : FnOk Try.prog 44 := ⟨⟨_, _, Try.func44, by decide, rfl⟩⟩
theorem fo45 : FnOk Try.prog 45 := ⟨⟨_, _, Try.func45, by decide, rfl⟩⟩
theorem fo46 : FnOk Try.prog 46 := ⟨⟨_, _, Try.func46, by decide, rfl⟩⟩
theorem fo47 : FnOk Try.prog 47 := ⟨⟨_, _, Try.func47, by decide, rfl⟩⟩
theorem fo48 : FnOk Try.prog 48 := ⟨⟨_, _, Try.func48, by decide, rfl⟩⟩
theorem fo49 : FnOk Try.prog 49 := ⟨⟨_, _, Try.func49, by decide, rfl⟩⟩
theorem fo50 : FnOk Try.prog 50 := ⟨⟨_, _, Try.func50, by decide, rfl⟩⟩
theorem fo51 : FnOk Try.prog 51 := ⟨⟨_, _, Try.func51, by decide, rfl⟩⟩
theorem fo52 : FnOk Try.prog 52 := ⟨⟨_, _, Try.func52, by decide, rfl⟩⟩
theorem fo53 : FnOk Try.prog 53 := ⟨⟨_, _, Try.func53, by decide, rfl⟩⟩
theorem fo54 : FnOk Try.prog 54 := ⟨⟨_, _, Try.func54, by decide, rfl⟩⟩
theorem fo55 : FnOk Try.prog 55 := ⟨⟨_, _, Try.func55, by decide, rfl⟩⟩
theorem fo56 : FnOk Try.prog 56 := ⟨⟨_, _, Try.func56, by decide, rfl⟩⟩
theorem fo57 : FnOk Try.prog 57 := ⟨⟨_, _, Try.func57, by decide, rfl⟩⟩
theorem fo58 : FnOk Try.prog 58 := ⟨⟨_, _, Try.func58, by decide, rfl⟩⟩
theorem fo59 : FnOk Try.prog 59 := ⟨⟨_, _, Try.func59, by decide, rfl⟩⟩
theorem fo60 : FnOk Try.prog 60 := ⟨⟨_, _, Try.func60, by decide, rfl⟩⟩
theorem fo61 : FnOk Try.prog 61 := ⟨⟨_, _, Try.func61, by decide, rfl⟩⟩
theorem fo62 : FnOk Try.prog 62 := ⟨⟨_, _, Try.func62, by decide, rfl⟩⟩
theorem fo63 : FnOk Try.prog 63 := ⟨⟨_, _, Try.func63, by decide, rfl⟩⟩
theorem fo64 : FnOk Try.prog 64 := ⟨⟨_, _, Try.func64, by decide, rfl⟩⟩
theorem fo65 : FnOk Try.prog 65 := ⟨⟨_, _, Try.func65, by decide, rfl⟩⟩
theorem fo66 : FnOk Try.prog 66 := ⟨⟨_, _, Try.func66, by decide, rfl⟩⟩
theorem fo67 : FnOk Try.prog 67 := ⟨⟨_, _, Try.func67, by decide, rfl⟩⟩
theorem fo68 : FnOk Try.prog 68 := ⟨⟨_, _, Try.func68, by decide, rfl⟩⟩
theorem fo69 : FnOk Try.prog 69 := ⟨⟨_, _, Try.func69, by decide, rfl⟩⟩
theorem fo70 : FnOk Try.prog 70 := ⟨⟨_, _, Try.func70, by decide, rfl⟩⟩
theorem fo71 : FnOk Try.prog 71 := ⟨⟨_, _, Try.func71, by decide, rfl⟩⟩
theorem fo72 : FnOk Try.prog 72 := ⟨⟨_, _, Try.func72, by decide, rfl⟩⟩
theorem fo73 : FnOk Try.prog 73 := ⟨⟨_, _, Try.func73, by decide, rfl⟩⟩
theorem fo74 : FnOk Try.prog 74 := ⟨⟨_, _, Try.func74, by decide, rfl⟩⟩
theorem fo75 : FnOk Try.prog 75 := ⟨⟨_, _, Try.func75, by decide, rfl⟩⟩
theorem fo76 : FnOk Try.prog 76 := ⟨⟨_, _, Try.func76, by decide, rfl⟩⟩
theorem fo77 : FnOk Try.prog 77 := ⟨⟨_, _, Try.func77, by decide, rfl⟩⟩
theorem fo78 : FnOk Try.prog 78 := ⟨⟨_, _, Try.func78, by decide, rfl⟩⟩
theorem fo79 : FnOk Try.prog 79 := ⟨⟨_, _, Try.func79, by decide, rfl⟩⟩
theorem fo80 : FnOk Try.prog 80 := ⟨⟨_, _, Try.func80, by decide, rfl⟩⟩
theorem fo81 : FnOk Try.prog 81 := ⟨⟨_, _, Try.func81, by decide, rfl⟩⟩
theorem fo82 : FnOk Try.prog 82 := ⟨⟨_, _, Try.func82, by decide, rfl⟩⟩
theorem fo83 : FnOk Try.prog 83 := ⟨⟨_, _, Try.func83, by decide, rfl⟩⟩
theorem fo84 : FnOk Try.prog 84 := ⟨⟨_, _, Try.func84, by decide, rfl⟩⟩
theorem fo85 : FnOk Try.prog 85 := ⟨⟨_, _, Try.func85, by decide, rfl⟩⟩
theorem fo86 : FnOk Try.prog 86 := ⟨⟨_, _, Try.func86, by decide, rfl⟩⟩
theorem fo87 : FnOk Try.prog 87 := ⟨⟨_, _, Try.func87, by decide, rfl⟩⟩
theorem fo88 : FnOk Try.prog 88 := ⟨⟨_, _, Try.func88, by decide, rfl⟩⟩
theorem fo89 : FnOk Try.prog 89 := ⟨⟨_, _, Try.func89, by decide, rfl⟩⟩
theorem fo90 : FnOk Try.prog 90 := ⟨⟨_, _, Try.func90, by decide, rfl⟩⟩
theorem fo91 : FnOk Try.prog 91 := ⟨⟨_, _, Try.func91, by decide, rfl⟩⟩
theorem fo92 : FnOk Try.prog 92 := ⟨⟨_, _, Try.func92, by decide, rfl⟩⟩
theorem fo93 : FnOk Try.prog 93 := ⟨⟨_, _, Try.func93, by decide, rfl⟩⟩
theorem fo94 : FnOk Try.prog 94 := ⟨⟨_, _, Try.func94, by decide, rfl⟩⟩
theorem fo95 : FnOk Try.prog 95 := ⟨⟨_, _, Try.func95, by decide, rfl⟩⟩
theorem fo96 : FnOk Try.prog 96 := ⟨⟨_, _, Try.func96, by decide, rfl⟩⟩
theorem fo97 : FnOk Try.prog 97 := ⟨⟨_, _, Try.func97, by decide, rfl⟩⟩
theorem fo98 : FnOk Try.prog 98 := ⟨⟨_, _, Try.func98, by decide, rfl⟩⟩
theorem fo99 : FnOk Try.prog 99 := ⟨⟨_, _, Try.func99, by decide, rfl⟩⟩
theorem fo100 : FnOk Try.prog 100 := ⟨⟨_, _, Try.func100, by decide, rfl⟩⟩
theorem fo101 : FnOk Try.prog 101 := ⟨⟨_, _, Try.func101, by decide, rfl⟩⟩
theorem fo102 : FnOk Try.prog 102 := ⟨⟨_, _, Try.func102, by decide, rfl⟩⟩
theorem fo103 : FnOk Try.prog 103 := ⟨⟨_, _, Try.func103, by decide, rfl⟩⟩
theorem fo104 : FnOk Try.prog 104 := ⟨⟨_, _, Try.func104, by decide, rfl⟩⟩
theorem fo105 : FnOk Try.prog 105 := ⟨⟨_, _, Try.func105, by decide, rfl⟩⟩
theorem fo106 : FnOk Try.prog 106 := ⟨⟨_, _, Try.func106, by decide, rfl⟩⟩
theorem fo107 : FnOk Try.prog 107 := ⟨⟨_, _, Try.func107, by decide, rfl⟩⟩
theorem fo108 : FnOk Try.prog 108 := ⟨⟨_, _, Try.func108, by decide, rfl⟩⟩
theorem fo109 : FnOk Try.prog 109 := ⟨⟨_, _, Try.func109, by decide, rfl⟩⟩
theorem fo110 : FnOk Try.prog 110 := ⟨⟨_, _, Try.func110, by decide, rfl⟩⟩
theorem fo111 : FnOk Try.prog 111 := ⟨⟨_, _, Try.func111, by decide, rfl⟩⟩
theorem fo112 : FnOk Try.prog 112 := ⟨⟨_, _, Try.func112, by decide, rfl⟩⟩
theorem fo113 : FnOk Try.prog 113 := ⟨⟨_, _, Try.func113, by decide, rfl⟩⟩
theorem fo114 : FnOk Try.prog 114 := ⟨⟨_, _, Try.func114, by decide, rfl⟩⟩
theorem fo115 : FnOk Try.prog 115 := ⟨⟨_, _, Try.func115, by decide, rfl⟩⟩
theorem fo116 : FnOk Try.prog 116 := ⟨⟨_, _, Try.func116, by decide, rfl⟩⟩
theorem fo117 : FnOk Try.prog 117 := ⟨⟨_, _, Try.func117, by decide, rfl⟩⟩
theorem fo118 : FnOk Try.prog 118 := ⟨⟨_, _, Try.func118, by decide, rfl⟩⟩
theorem fo119 : FnOk Try.prog 119 := ⟨⟨_, _, Try.func119, by decide, rfl⟩⟩
theorem fo120 : FnOk Try.prog 120 := ⟨⟨_, _, Try.func120, by decide, rfl⟩⟩
theorem fo121 : FnOk Try.prog 121 := ⟨⟨_, _, Try.func121, by decide, rfl⟩⟩
theorem fo122 : FnOk Try.prog 122 := ⟨⟨_, _, Try.func122, by decide, rfl⟩⟩
theorem fo123 : FnOk Try.prog 123 := ⟨⟨_, _, Try.func123, by decide, rfl⟩⟩
theorem fo124 : FnOk Try.prog 124 := ⟨⟨_, _, Try.func124, by decide, rfl⟩⟩
theorem fo125 : FnOk Try.prog 125 := ⟨⟨_, _, Try.func125, by decide, rfl⟩⟩
theorem fo126 : FnOk Try.prog 126 := ⟨⟨_, _, Try.func126, by decide, rfl⟩⟩
theorem fo127 : FnOk Try.prog 127 := ⟨⟨_, _, Try.func127, by decide, rfl⟩⟩
theorem fo128 : FnOk Try.prog 128 := ⟨⟨_, _, Try.func128, by decide, rfl⟩⟩
theorem fo129 : FnOk Try.prog 129 := ⟨⟨_, _, Try.func129, by decide, rfl⟩⟩
theorem fo130 : FnOk Try.prog 130 := ⟨⟨_, _, Try.func130, by decide, rfl⟩⟩
theorem fo131 : FnOk Try.prog 131 := ⟨⟨_, _, Try.func131, by decide, rfl⟩⟩
theorem fo132 : FnOk Try.prog 132 := ⟨⟨_, _, Try.func132, by decide, rfl⟩⟩
theorem fo133 : FnOk Try.prog 133 := ⟨⟨_, _, Try.func133, by decide, rfl⟩⟩
theorem fo134 : FnOk Try.prog 134 := ⟨⟨_, _, Try.func134, by decide, rfl⟩⟩
theorem fo135 : FnOk Try.prog 135 := ⟨⟨_, _, Try.func135, by decide, rfl⟩⟩
theorem fo136 : FnOk Try.prog 136 := ⟨⟨_, _, Try.func136, by decide, rfl⟩⟩
theorem fo137 : FnOk Try.prog 137 := ⟨⟨_, _, Try.func137, by decide, rfl⟩⟩
theorem fo138 : FnOk Try.prog 138 := ⟨⟨_, _, Try.func138, by decide, rfl⟩⟩
theorem fo139 : FnOk Try.prog 139 := ⟨⟨_, _, Try.func139, by decide, rfl⟩⟩
theorem fo141 : FnOk Try.prog 141 := ⟨⟨_, _, Try.func141, by decide, rfl⟩⟩
theorem fo142 : FnOk Try.prog 142 := ⟨⟨_, _, Try.func142, by decide, rfl⟩⟩
theorem fo143 : FnOk Try.prog 143 := ⟨⟨_, _, Try.func143, by decide, rfl⟩⟩
theorem fo144 : FnOk Try.prog 144 := ⟨⟨_, _, Try.func144, by decide, rfl⟩⟩
theorem fo145 : FnOk Try.prog 145 := ⟨⟨_, _, Try.func145, by decide, rfl⟩⟩
theorem fo146 : FnOk Try.prog 146 := ⟨⟨_, _, Try.func146, by decide, rfl⟩⟩
theorem fo147 : FnOk Try.prog 147 := ⟨⟨_, _, Try.func147, by decide, rfl⟩⟩
theorem fo148 : FnOk Try.prog 148 := ⟨⟨_, _, Try.func148, by decide, rfl⟩⟩
theorem fo149 : FnOk Try.prog 149 := ⟨⟨_, _, Try.func149, by decide, rfl⟩⟩
theorem fo150 : FnOk Try.prog 150 := ⟨⟨_, _, Try.func150, by decide, rfl⟩⟩
theorem fo151 : FnOk Try.prog 151 := ⟨⟨_, _, Try.func151, by decide, rfl⟩⟩
theorem fo152 : FnOk Try.prog 152 := ⟨⟨_, _, Try.func152, by decide, rfl⟩⟩
theorem fo153 : FnOk Try.prog 153 := ⟨⟨_, _, Try.func153, by decide, rfl⟩⟩
theorem fo154 : FnOk Try.prog 154 := ⟨⟨_, _, Try.func154, by decide, rfl⟩⟩
theorem fo155 : FnOk Try.prog 155 := ⟨⟨_, _, Try.func155, by decide, rfl⟩⟩
theorem fo156 : FnOk Try.prog 156 := ⟨⟨_, _, Try.func156, by decide, rfl⟩⟩
theorem fo157 : FnOk Try.prog 157 := ⟨⟨_, _, Try.func157, by decide, rfl⟩⟩
theorem fo158 : FnOk Try.prog 158 := ⟨⟨_, _, Try.func158, by decide, rfl⟩⟩
theorem fo159 : FnOk Try.prog 159 := ⟨⟨_, _, Try.func159, by decide, rfl⟩⟩
theorem fo160 : FnOk Try.prog 160 := ⟨⟨_, _, Try.func160, by decide, rfl⟩⟩
theorem fo161 : FnOk Try.prog 161 := ⟨⟨_, _, Try.func161, by decide, rfl⟩⟩
theorem fo162 : FnOk Try.prog 162 := ⟨⟨_, _, Try.func162, by decide, rfl⟩⟩
theorem fo163 : FnOk Try.prog 163 := ⟨⟨_, _, Try.func163, by decide, rfl⟩⟩
theorem fo164 : FnOk Try.prog 164 := ⟨⟨_, _, Try.func164, by decide, rfl⟩⟩
theorem fo165 : FnOk Try.prog 165 := ⟨⟨_, _, Try.func165, by decide, rfl⟩⟩
theorem fo166 : FnOk Try.prog 166 := ⟨⟨_, _, Try.func166, by decide, rfl⟩⟩
theorem fo167 : FnOk Try.prog 167 := ⟨⟨_, _, Try.func167, by decide, rfl⟩⟩
theorem fo168 : FnOk Try.prog 168 := ⟨⟨_, _, Try.func168, by decide, rfl⟩⟩
theorem bd23 : BuildOk Try.prog 23 [.int .i64 0, .int .i64 0, .string ⟨#[]⟩] [(0, 1), (1, 1), (2, 1)] := by
  intro parts cells w h
  unfold Instr.build
  simp only [Sem.run_bind, run_zeroValue' tbOk (show tb.get 23 = _ from rfl), Result.andThen_ok, run_underlying Try.underlying23]
  simp [Rw.run_sizeOf tbOk (show tb.get 3 = _ from rfl), Rw.run_sizeOf tbOk (show tb.get 9 = _ from rfl), h]
theorem bd28 : BuildOk Try.prog 28 [.int .i64 0, .string ⟨#[]⟩, .int .i64 0] [(0, 1), (1, 1), (2, 1)] := by
  intro parts cells w h
  unfold Instr.build
  simp only [Sem.run_bind, run_zeroValue' tbOk (show tb.get 28 = _ from rfl), Result.andThen_ok, run_underlying Try.underlying28]
  simp [Rw.run_sizeOf tbOk (show tb.get 3 = _ from rfl), Rw.run_sizeOf tbOk (show tb.get 9 = _ from rfl), h]
theorem bd29 : BuildOk Try.prog 29 [.int .i64 0, .string ⟨#[]⟩, .int .i64 0] [(0, 1), (1, 1), (2, 1)] := by
  intro parts cells w h
  unfold Instr.build
  simp only [Sem.run_bind, run_zeroValue' tbOk (show tb.get 29 = _ from rfl), Result.andThen_ok, run_underlying Try.underlying29]
  simp [Rw.run_sizeOf tbOk (show tb.get 3 = _ from rfl), Rw.run_sizeOf tbOk (show tb.get 9 = _ from rfl), h]
theorem bd35 : BuildOk Try.prog 35 [.int .i64 0, .int .i64 0, .string ⟨#[]⟩] [(0, 1), (1, 1), (2, 1)] := by
  intro parts cells w h
  unfold Instr.build
  simp only [Sem.run_bind, run_zeroValue' tbOk (show tb.get 35 = _ from rfl), Result.andThen_ok, run_underlying Try.underlying35]
  simp [Rw.run_sizeOf tbOk (show tb.get 3 = _ from rfl), Rw.run_sizeOf tbOk (show tb.get 9 = _ from rfl), h]
theorem bd40 : BuildOk Try.prog 40 [.int .u8 0, .string ⟨#[]⟩, .int .i64 0, .slice none 0 0] [(0, 1), (1, 1), (2, 1), (3, 1)] := by
  intro parts cells w h
  unfold Instr.build
  simp only [Sem.run_bind, run_zeroValue' tbOk (show tb.get 40 = _ from rfl), Result.andThen_ok, run_underlying Try.underlying40]
  simp [Rw.run_sizeOf tbOk (show tb.get 3 = _ from rfl), Rw.run_sizeOf tbOk (show tb.get 9 = _ from rfl), Rw.run_sizeOf tbOk (show tb.get 37 = _ from rfl), Rw.run_sizeOf tbOk (show tb.get 38 = _ from rfl), h]
theorem bd54 : BuildOk Try.prog 54 [.string ⟨#[]⟩, .int .i64 0] [(0, 1), (1, 1)] := by
  intro parts cells w h
  unfold Instr.build
  simp only [Sem.run_bind, run_zeroValue' tbOk (show tb.get 54 = _ from rfl), Result.andThen_ok, run_underlying Try.underlying54]
  simp [Rw.run_sizeOf tbOk (show tb.get 3 = _ from rfl), Rw.run_sizeOf tbOk (show tb.get 9 = _ from rfl), h]
theorem bd56 : BuildOk Try.prog 56 [.string ⟨#[]⟩, .int .u8 0, .string ⟨#[]⟩, .int .i64 0, .slice none 0 0] [(0, 1), (1, 4)] := by
  intro parts cells w h
  unfold Instr.build
  simp only [Sem.run_bind, run_zeroValue' tbOk (show tb.get 56 = _ from rfl), Result.andThen_ok, run_underlying Try.underlying56]
  simp [Rw.run_sizeOf tbOk (show tb.get 9 = _ from rfl), Rw.run_sizeOf tbOk (show tb.get 40 = _ from rfl), h]
theorem bd64 : BuildOk Try.prog 64 [.int .i64 0, .int .u8 0, .string ⟨#[]⟩, .int .i64 0, .slice none 0 0] [(0, 1), (1, 4)] := by
  intro parts cells w h
  unfold Instr.build
  simp only [Sem.run_bind, run_zeroValue' tbOk (show tb.get 64 = _ from rfl), Result.andThen_ok, run_underlying Try.underlying64]
  simp [Rw.run_sizeOf tbOk (show tb.get 3 = _ from rfl), Rw.run_sizeOf tbOk (show tb.get 40 = _ from rfl), h]
theorem bd70 : BuildOk Try.prog 70 [.int .i64 0, .int .u8 0, .string ⟨#[]⟩, .int .i64 0, .slice none 0 0] [(0, 1), (1, 4)] := by
  intro parts cells w h
  unfold Instr.build
  simp only [Sem.run_bind, run_zeroValue' tbOk (show tb.get 70 = _ from rfl), Result.andThen_ok, run_underlying Try.underlying70]
  simp [Rw.run_sizeOf tbOk (show tb.get 3 = _ from rfl), Rw.run_sizeOf tbOk (show tb.get 40 = _ from rfl), h]
theorem bd84 : BuildOk Try.prog 84 [.int .u8 0, .string ⟨#[]⟩, .string ⟨#[]⟩, .int .i64 0, .bool false, .int .u8 0, .string ⟨#[]⟩, .int .i64 0, .slice none 0 0, .slice none 0 0] [(0, 1), (1, 1), (2, 1), (3, 1), (4, 1), (5, 4), (9, 1)] := by
  intro parts cells w h
  unfold Instr.build
  simp only [Sem.run_bind, run_zeroValue' tbOk (show tb.get 84 = _ from rfl), Result.andThen_ok, run_underlying Try.underlying84]
  simp [Rw.run_sizeOf tbOk (show tb.get 2 = _ from rfl), Rw.run_sizeOf tbOk (show tb.get 4 = _ from rfl), Rw.run_sizeOf tbOk (show tb.get 9 = _ from rfl), Rw.run_sizeOf tbOk (show tb.get 37 = _ from rfl), Rw.run_sizeOf tbOk (show tb.get 40 = _ from rfl), Rw.run_sizeOf tbOk (show tb.get 82 = _ from rfl), h]
theorem bd125 : BuildOk Try.prog 125 [.slice none 0 0] [(0, 1)] := by
  intro parts cells w h
  unfold Instr.build
  simp only [Sem.run_bind, run_zeroValue' tbOk (show tb.get 125 = _ from rfl), Result.andThen_ok, run_underlying Try.underlying125]
  simp [Rw.run_sizeOf tbOk (show tb.get 73 = _ from rfl), h]
theorem bd130 : BuildOk Try.prog 130 [.slice none 0 0, .bool false] [(0, 1), (1, 1)] := by
  intro parts cells w h
  unfold Instr.build
  simp only [Sem.run_bind, run_zeroValue' tbOk (show tb.get 130 = _ from rfl), Result.andThen_ok, run_underlying Try.underlying130]
  simp [Rw.run_sizeOf tbOk (show tb.get 4 = _ from rfl), Rw.run_sizeOf tbOk (show tb.get 73 = _ from rfl), h]
theorem bd142 : BuildOk Try.prog 142 [.string ⟨#[]⟩, .int .u8 0, .string ⟨#[]⟩, .int .i64 0, .slice none 0 0] [(0, 1), (1, 4)] := by
  intro parts cells w h
  unfold Instr.build
  simp only [Sem.run_bind, run_zeroValue' tbOk (show tb.get 142 = _ from rfl), Result.andThen_ok, run_underlying Try.underlying142]
  simp [Rw.run_sizeOf tbOk (show tb.get 9 = _ from rfl), Rw.run_sizeOf tbOk (show tb.get 40 = _ from rfl), h]
theorem bd173 : BuildOk Try.prog 173 [.map none, .map none] [(0, 1), (1, 1)] := by
  intro parts cells w h
  unfold Instr.build
  simp only [Sem.run_bind, run_zeroValue' tbOk (show tb.get 173 = _ from rfl), Result.andThen_ok, run_underlying Try.underlying173]
  simp [Rw.run_sizeOf tbOk (show tb.get 170 = _ from rfl), Rw.run_sizeOf tbOk (show tb.get 171 = _ from rfl), h]
theorem bd184 : BuildOk Try.prog 184 [.bool false, .bool false, .int .i64 0, .int .i64 0] [(0, 1), (1, 1), (2, 1), (3, 1)] := by
  intro parts cells w h
  unfold Instr.build
  simp only [Sem.run_bind, run_zeroValue' tbOk (show tb.get 184 = _ from rfl), Result.andThen_ok, run_underlying Try.underlying184]
  simp [Rw.run_sizeOf tbOk (show tb.get 3 = _ from rfl), Rw.run_sizeOf tbOk (show tb.get 4 = _ from rfl), h]
end Go.Proofs.Ytohfnpmehgpphaa
