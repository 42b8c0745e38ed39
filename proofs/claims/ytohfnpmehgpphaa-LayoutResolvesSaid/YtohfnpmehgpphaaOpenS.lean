/- Places and evidence that came in read as data, their size paid by the form's reach. No program in sight. -/
import Derived.Test.YtohfnpmehgpphaaPl
namespace Rw
open Go Go.RowKit

section
variable {H : Type} {P : Program}
theorem wq_struct {t : TypeId} {fs : Array Field} (ht : P.underlying t = some (.struct fs)) {parts : List (DataW H)} (h : Wq P t (.agg parts)) {j : Nat} {f : Field} {d : DataW H} (hf : fs[j]? = some f) (hd : parts[j]? = some d) : Wq P f.type d := by
  intro n hn
  refine h n ?_
  have e : (DataW.agg parts).weights P t = DataW.weightsEach P (fs.toList.map (·.type)) parts := by simp [DataW.weights, ht]
  rw [e]
  refine DataW.weights_mem_each ?_ hd n hn
  rw [List.getElem?_map, Array.getElem?_toList, hf]; rfl
theorem opens_pl {t tInt tStr : TypeId} {f0 f1 f2 : Field} (ht : P.underlying t = some (.struct #[f0, f1, f2])) (h0 : f0.offset = 0 ∧ f0.type = tInt) (h1 : f1.offset = 1 ∧ f1.type = tInt) (h2 : f2.offset = 2 ∧ f2.type = tStr)
    (uInt : P.underlying tInt = some (.int .i64)) (cInt : P.cellsOf tInt = 1) (uStr : P.underlying tStr = some .string) (cStr : P.cellsOf tStr = 1) (cT : P.cellsOf t = 3) : Opens (H := H) (α := Pl) P (Wq P) t (fun _ => True) := by
  refine ⟨cT, fun enc w fuel cs d ps h hQ => ?_⟩
  obtain ⟨xs, n, _, hx, hl, hxl, hf⟩ := DataW.trod_struct ht h
  cases hx
  rw [cT] at hl
  obtain ⟨c0, c1, c2, rfl⟩ : ∃ c0 c1 c2, cs = [c0, c1, c2] := by
    rcases cs with _ | ⟨c0, _ | ⟨c1, _ | ⟨c2, _ | ⟨c3, r⟩⟩⟩⟩ <;> simp at hl
    exact ⟨c0, c1, c2, rfl⟩
  obtain ⟨x0, x1, x2, rfl⟩ : ∃ x0 x1 x2, xs = [x0, x1, x2] := by
    rcases xs with _ | ⟨c0, _ | ⟨c1, _ | ⟨c2, _ | ⟨c3, r⟩⟩⟩⟩ <;> simp at hxl
    exact ⟨c0, c1, c2, rfl⟩
  have q2 := wq_struct ht hQ (j := 2) (f := f2) (d := x2.1) rfl rfl
  have g0 := hf 0 f0 rfl
  have g1 := hf 1 f1 rfl
  have g2 := hf 2 f2 rfl
  rw [h2.2] at q2
  rw [h0.1, h0.2, cInt] at g0
  rw [h1.1, h1.2, cInt] at g1
  rw [h2.1, h2.2, cStr] at g2
  simp only [List.drop_zero, List.drop_succ_cons, List.take_succ_cons, List.take_zero, List.getElem?_cons_zero, List.getElem?_cons_succ] at g0 g1 g2
  obtain ⟨v0, a, e0, ⟨rfl, ha⟩, _⟩ := (opens_int (H := H) (P := P) (Q := fun _ _ => True) uInt cInt).read enc w n _ _ _ g0 trivial
  obtain ⟨v1, b, e1, ⟨rfl, hb⟩, _⟩ := (opens_int (H := H) (P := P) (Q := fun _ _ => True) uInt cInt).read enc w n _ _ _ g1 trivial
  obtain ⟨v2, s, e2, ⟨rfl, hs⟩, _⟩ := (opens_string (H := H) (P := P) (Q := Wq P) uStr cStr wq_string).read enc w n _ _ _ g2 q2
  refine ⟨.agg #[.int .i64 a, .int .i64 b, .string s], ⟨a, b, s⟩, ?_, ⟨rfl, ha, hb, hs⟩, trivial⟩
  simp [Value.cells] at e0 e1 e2 ⊢
  simp [*]
theorem opens_ev {t tInt tStr : TypeId} {f0 f1 f2 : Field} (ht : P.underlying t = some (.struct #[f0, f1, f2])) (h0 : f0.offset = 0 ∧ f0.type = tInt) (h1 : f1.offset = 1 ∧ f1.type = tStr) (h2 : f2.offset = 2 ∧ f2.type = tInt)
    (uInt : P.underlying tInt = some (.int .i64)) (cInt : P.cellsOf tInt = 1) (uStr : P.underlying tStr = some .string) (cStr : P.cellsOf tStr = 1) (cT : P.cellsOf t = 3) : Opens (H := H) (α := Ev) P (Wq P) t (fun _ => True) := by
  refine ⟨cT, fun enc w fuel cs d ps h hQ => ?_⟩
  obtain ⟨xs, n, _, hx, hl, hxl, hf⟩ := DataW.trod_struct ht h
  cases hx
  rw [cT] at hl
  obtain ⟨c0, c1, c2, rfl⟩ : ∃ c0 c1 c2, cs = [c0, c1, c2] := by
    rcases cs with _ | ⟨c0, _ | ⟨c1, _ | ⟨c2, _ | ⟨c3, r⟩⟩⟩⟩ <;> simp at hl
    exact ⟨c0, c1, c2, rfl⟩
  obtain ⟨x0, x1, x2, rfl⟩ : ∃ x0 x1 x2, xs = [x0, x1, x2] := by
    rcases xs with _ | ⟨c0, _ | ⟨c1, _ | ⟨c2, _ | ⟨c3, r⟩⟩⟩⟩ <;> simp at hxl
    exact ⟨c0, c1, c2, rfl⟩
  have q1 := wq_struct ht hQ (j := 1) (f := f1) (d := x1.1) rfl rfl
  have g0 := hf 0 f0 rfl
  have g1 := hf 1 f1 rfl
  have g2 := hf 2 f2 rfl
  rw [h1.2] at q1
  rw [h0.1, h0.2, cInt] at g0
  rw [h1.1, h1.2, cStr] at g1
  rw [h2.1, h2.2, cInt] at g2
  simp only [List.drop_zero, List.drop_succ_cons, List.take_succ_cons, List.take_zero, List.getElem?_cons_zero, List.getElem?_cons_succ] at g0 g1 g2
  obtain ⟨v0, a, e0, ⟨rfl, ha⟩, _⟩ := (opens_int (H := H) (P := P) (Q := fun _ _ => True) uInt cInt).read enc w n _ _ _ g0 trivial
  obtain ⟨v1, s, e1, ⟨rfl, hs⟩, _⟩ := (opens_string (H := H) (P := P) (Q := Wq P) uStr cStr wq_string).read enc w n _ _ _ g1 q1
  obtain ⟨v2, b, e2, ⟨rfl, hb⟩, _⟩ := (opens_int (H := H) (P := P) (Q := fun _ _ => True) uInt cInt).read enc w n _ _ _ g2 trivial
  refine ⟨.agg #[.int .i64 a, .string s, .int .i64 b], ⟨a, s, b⟩, ?_, ⟨rfl, ha, hs, hb⟩, trivial⟩
  simp [Value.cells] at e0 e1 e2 ⊢
  simp [*]
/-- A struct that came in. -/
theorem opens_argS {α : Type} [Rep α] {Q : TypeId → DataW H → Prop} {t : TypeId} {p : α → Prop} (ho : Opens P Q t p) {enc : TypeId × Value → H} {w : World} {v : Value} {d : DataW H} {ps : List MemPlace}
    (h : DataW.Trod enc P w 0 (fun _ => true) true t v d ps) (hQ : Q t d) : ∃ (u : Value) (x : α), u.cells = v.cells ∧ Rep.R NoM w u x ∧ p x := by
  obtain ⟨fuel, hf⟩ := h
  obtain ⟨u, x, hv, hR, hp⟩ := ho.read enc w fuel _ _ _ hf hQ
  exact ⟨u, x, Array.toList_inj.1 hv, hR, hp⟩
end
end Rw
