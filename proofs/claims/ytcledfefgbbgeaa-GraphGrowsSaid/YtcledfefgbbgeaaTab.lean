/- The types of this seat's translation, as a short table, and that its functions have bodies. Written by wip/tools/tab.py. -/
import Derived.Test.YtcledfefgbbgeaaMem
import Derived.Test.YtcledfefgbbgeaaProg
namespace Go.Proofs.Ytcledfefgbbgeaa
open Go Rw

theorem ti3 : TIOk Try.prog 3 ⟨.int .i64, 1, 8, .int .i64 0⟩ := ⟨⟨_, rfl, rfl, rfl, rfl⟩, Try.underlying3⟩
theorem ti4 : TIOk Try.prog 4 ⟨.bool, 1, 1, .bool false⟩ := ⟨⟨_, rfl, rfl, rfl, rfl⟩, Try.underlying4⟩
theorem ti22 : TIOk Try.prog 22 ⟨.sl 26, 1, 24, .slice none 0 0⟩ := ⟨⟨_, rfl, rfl, rfl, rfl⟩, Try.underlying22⟩
theorem ti26 : TIOk Try.prog 26 ⟨.sl 3, 1, 24, .slice none 0 0⟩ := ⟨⟨_, rfl, rfl, rfl, rfl⟩, Try.underlying26⟩
theorem ti33 : TIOk Try.prog 33 ⟨.sl 4, 1, 24, .slice none 0 0⟩ := ⟨⟨_, rfl, rfl, rfl, rfl⟩, Try.underlying33⟩
theorem ti35 : TIOk Try.prog 35 ⟨.fn, 1, 8, .nilFunc⟩ := ⟨⟨_, rfl, rfl, rfl, rfl⟩, ⟨_, _, _, Try.underlying35⟩⟩
def tb : Tab := [(3, ⟨.int .i64, 1, 8, .int .i64 0⟩), (4, ⟨.bool, 1, 1, .bool false⟩), (22, ⟨.sl 26, 1, 24, .slice none 0 0⟩), (26, ⟨.sl 3, 1, 24, .slice none 0 0⟩), (33, ⟨.sl 4, 1, 24, .slice none 0 0⟩), (35, ⟨.fn, 1, 8, .nilFunc⟩)]
theorem tbOk : TabOk Try.prog tb := tab_cons ti3 (tab_cons ti4 (tab_cons ti22 (tab_cons ti26 (tab_cons ti33 (tab_cons ti35 (tab_nil))))))
theorem fo3 : FnOk Try.prog 3 := ⟨⟨_, _, Try.func3, by decide, rfl⟩⟩
theorem fo4 : FnOk Try.prog 4 := ⟨⟨_, _, Try.func4, by decide, rfl⟩⟩
theorem fo5 : FnOk Try.prog 5 := ⟨⟨_, _, Try.func5, by decide, rfl⟩⟩
theorem fo6 : FnOk Try.prog 6 := ⟨⟨_, _, Try.func6, by decide, rfl⟩⟩
theorem fo7 : FnOk Try.prog 7 := ⟨⟨_, _, Try.func7, by decide, rfl⟩⟩
theorem fo8 : FnOk Try.prog 8 := ⟨⟨_, _, Try.func8, by decide, rfl⟩⟩
theorem fo9 : FnOk Try.prog 9 := ⟨⟨_, _, Try.func9, by decide, rfl⟩⟩
theorem fo10 : FnOk Try.prog 10 := ⟨⟨_, _, Try.func10, by decide, rfl⟩⟩
theorem fo11 : FnOk Try.prog 11 := ⟨⟨_, _, Try.func11, by decide, rfl⟩⟩
theorem fo12 : FnOk Try.prog 12 := ⟨⟨_, _, Try.func12, by decide, rfl⟩⟩
theorem fo13 : FnOk Try.prog 13 := ⟨⟨_, _, Try.func13, by decide, rfl⟩⟩
theorem fo14 : FnOk Try.prog 14 := ⟨⟨_, _, Try.func14, by decide, rfl⟩⟩
theorem fo15 : FnOk Try.prog 15 := ⟨⟨_, _, Try.func15, by decide, rfl⟩⟩
theorem fo16 : FnOk Try.prog 16 := ⟨⟨_, _, Try.func16, by decide, rfl⟩⟩
theorem fo17 : FnOk Try.prog 17 := ⟨⟨_, _, Try.func17, by decide, rfl⟩⟩
theorem fo18 : FnOk Try.prog 18 := ⟨⟨_, _, Try.func18, by decide, rfl⟩⟩
theorem fo19 : FnOk Try.prog 19 := ⟨⟨_, _, Try.func19, by decide, rfl⟩⟩
theorem fo20 : FnOk Try.prog 20 := ⟨⟨_, _, Try.func20, by decide, rfl⟩⟩
theorem fo21 : FnOk Try.prog 21 := ⟨⟨_, _, Try.func21, by decide, rfl⟩⟩
theorem fo22 : FnOk Try.prog 22 := ⟨⟨_, _, Try.func22, by decide, rfl⟩⟩
theorem fo23 : FnOk Try.prog 23 := ⟨⟨_, _, Try.func23, by decide, rfl⟩⟩
theorem fo24 : FnOk Try.prog 24 := ⟨⟨_, _, Try.func24, by decide, rfl⟩⟩
theorem fo25 : FnOk Try.prog 25 := ⟨⟨_, _, Try.func25, by decide, rfl⟩⟩
theorem fo26 : FnOk Try.prog 26 := ⟨⟨_, _, Try.func26, by decide, rfl⟩⟩
end Go.Proofs.Ytcledfefgbbgeaa
