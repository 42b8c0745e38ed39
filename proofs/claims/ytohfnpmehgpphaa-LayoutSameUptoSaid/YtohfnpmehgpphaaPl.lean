/- The layout's places as data; structs compared; slices cut short. No program in sight. -/
import Derived.Test.YtohfnpmehgpphaaOpenT
import Derived.Test.YtohfnpmehgpphaaRange
import Derived.Test.YtohfnpmehgpphaaPlainF
import Derived.Test.YtohfnpmehgpphaaSlh
import Derived.DeepKeys
namespace Rw
open Go Go.RowKit
open Go.Proofs.Ytohfnpmehgpphaa.Rows (uptoBulk uptoBulkAll uptoSmall)

/-- A place. -/
structure Pl where
  base : Int
  var : Int
  name : ByteArray
  deriving DecidableEq
/-- Evidence. -/
structure Ev where
  var : Int
  name : ByteArray
  n : Int
/-- A slot. -/
structure Slo where
  name : ByteArray
  nth : Int
def plC (p : Pl) : List Value := [.int .i64 p.base, .int .i64 p.var, .string p.name]
def evC (e : Ev) : List Value := [.int .i64 e.var, .string e.name, .int .i64 e.n]
def sloC (s : Slo) : List Value := [.string s.name, .int .i64 s.nth]
instance : Rep Pl where
  sz := 3
  R := fun _ _ v p => v = .agg #[.int .i64 p.base, .int .i64 p.var, .string p.name] ∧ I64 p.base ∧ I64 p.var ∧ p.name.size < 140737488355328
  pos := by decide
  size := by rintro M w v x ⟨rfl, _⟩; rfl
  one := by
    rintro M w v x ⟨rfl, _⟩ u hu
    simp [Value.cells] at hu
    rcases hu with rfl | rfl | rfl <;> rfl
  upd := fun h _ => h
  wk := fun h _ => h
instance : Rep Ev where
  sz := 3
  R := fun _ _ v e => v = .agg #[.int .i64 e.var, .string e.name, .int .i64 e.n] ∧ I64 e.var ∧ e.name.size < 140737488355328 ∧ I64 e.n
  pos := by decide
  size := by rintro M w v x ⟨rfl, _⟩; rfl
  one := by
    rintro M w v x ⟨rfl, _⟩ u hu
    simp [Value.cells] at hu
    rcases hu with rfl | rfl | rfl <;> rfl
  upd := fun h _ => h
  wk := fun h _ => h
instance : Rep Slo where
  sz := 2
  R := fun _ _ v s => v = .agg #[.string s.name, .int .i64 s.nth] ∧ s.name.size < 140737488355328 ∧ I64 s.nth
  pos := by decide
  size := by rintro M w v x ⟨rfl, _⟩; rfl
  one := by
    rintro M w v x ⟨rfl, _⟩ u hu
    simp [Value.cells] at hu
    rcases hu with rfl | rfl <;> rfl
  upd := fun h _ => h
  wk := fun h _ => h

section
variable {H : Type} {P : Program}
theorem opensD_pl {t tInt tStr : TypeId} {f0 f1 f2 : Field} (N : Nat) (hN : N < 140737488355328) (ht : P.underlying t = some (.struct #[f0, f1, f2])) (h0 : f0.offset = 0 ∧ f0.type = tInt) (h1 : f1.offset = 1 ∧ f1.type = tInt) (h2 : f2.offset = 2 ∧ f2.type = tStr)
    (uInt : P.underlying tInt = some (.int .i64)) (cInt : P.cellsOf tInt = 1) (uStr : P.underlying tStr = some .string) (cStr : P.cellsOf tStr = 1) (cT : P.cellsOf t = 3) : OpensD H (α := Pl) P t N (fun p => 1 + p.name.size) := by
  refine ⟨cT, fun enc w fuel cs d ps h hQ => ?_⟩
  obtain ⟨xs, n, _, hx, hl, hxl, hf⟩ := DataW.trod_struct ht h
  cases hx
  rw [cT] at hl
  obtain ⟨c0, c1, c2, rfl⟩ : ∃ c0 c1 c2, cs = [c0, c1, c2] := by
    rcases cs with _ | ⟨c0, _ | ⟨c1, _ | ⟨c2, _ | ⟨c3, r⟩⟩⟩⟩ <;> simp at hl
    exact ⟨c0, c1, c2, rfl⟩
  obtain ⟨x0, x1, x2, rfl⟩ : ∃ x0 x1 x2, xs = [x0, x1, x2] := by
    rcases xs with _ | ⟨c0, _ | ⟨c1, _ | ⟨c2, _ | ⟨c3, r⟩⟩⟩⟩ <;> simp at hxl
    exact ⟨c0, c1, c2, rfl⟩
  have g0 := hf 0 f0 rfl
  have g1 := hf 1 f1 rfl
  have g2 := hf 2 f2 rfl
  rw [h0.1, h0.2, cInt] at g0
  rw [h1.1, h1.2, cInt] at g1
  rw [h2.1, h2.2, cStr] at g2
  simp only [List.drop_zero, List.drop_succ_cons, List.take_succ_cons, List.take_zero, List.getElem?_cons_zero, List.getElem?_cons_succ] at g0 g1 g2
  rw [bulk_agg] at hQ ⊢
  simp only [List.map_cons, List.map_nil, uptoBulkAll] at hQ ⊢
  obtain ⟨v0, a, e0, ⟨rfl, ha⟩, _⟩ := (opensD_int (H := H) (P := P) N uInt cInt).read enc w n _ _ _ g0 (by omega)
  obtain ⟨v1, b, e1, ⟨rfl, hb⟩, _⟩ := (opensD_int (H := H) (P := P) N uInt cInt).read enc w n _ _ _ g1 (by omega)
  obtain ⟨v2, s, e2, ⟨rfl, hs⟩, z2⟩ := (opensD_string (H := H) (P := P) N hN uStr cStr).read enc w n _ _ _ g2 (by omega)
  refine ⟨.agg #[.int .i64 a, .int .i64 b, .string s], ⟨a, b, s⟩, ?_, ⟨rfl, ha, hb, hs⟩, ?_⟩
  · simp [Value.cells] at e0 e1 e2 ⊢
    simp [*]
  · show 1 + s.size ≤ _
    omega
theorem opensD_ev {t tInt tStr : TypeId} {f0 f1 f2 : Field} (N : Nat) (hN : N < 140737488355328) (ht : P.underlying t = some (.struct #[f0, f1, f2])) (h0 : f0.offset = 0 ∧ f0.type = tInt) (h1 : f1.offset = 1 ∧ f1.type = tStr) (h2 : f2.offset = 2 ∧ f2.type = tInt)
    (uInt : P.underlying tInt = some (.int .i64)) (cInt : P.cellsOf tInt = 1) (uStr : P.underlying tStr = some .string) (cStr : P.cellsOf tStr = 1) (cT : P.cellsOf t = 3) : OpensD H (α := Ev) P t N (fun e => 1 + e.name.size) := by
  refine ⟨cT, fun enc w fuel cs d ps h hQ => ?_⟩
  obtain ⟨xs, n, _, hx, hl, hxl, hf⟩ := DataW.trod_struct ht h
  cases hx
  rw [cT] at hl
  obtain ⟨c0, c1, c2, rfl⟩ : ∃ c0 c1 c2, cs = [c0, c1, c2] := by
    rcases cs with _ | ⟨c0, _ | ⟨c1, _ | ⟨c2, _ | ⟨c3, r⟩⟩⟩⟩ <;> simp at hl
    exact ⟨c0, c1, c2, rfl⟩
  obtain ⟨x0, x1, x2, rfl⟩ : ∃ x0 x1 x2, xs = [x0, x1, x2] := by
    rcases xs with _ | ⟨c0, _ | ⟨c1, _ | ⟨c2, _ | ⟨c3, r⟩⟩⟩⟩ <;> simp at hxl
    exact ⟨c0, c1, c2, rfl⟩
  have g0 := hf 0 f0 rfl
  have g1 := hf 1 f1 rfl
  have g2 := hf 2 f2 rfl
  rw [h0.1, h0.2, cInt] at g0
  rw [h1.1, h1.2, cStr] at g1
  rw [h2.1, h2.2, cInt] at g2
  simp only [List.drop_zero, List.drop_succ_cons, List.take_succ_cons, List.take_zero, List.getElem?_cons_zero, List.getElem?_cons_succ] at g0 g1 g2
  rw [bulk_agg] at hQ ⊢
  simp only [List.map_cons, List.map_nil, uptoBulkAll] at hQ ⊢
  obtain ⟨v0, a, e0, ⟨rfl, ha⟩, _⟩ := (opensD_int (H := H) (P := P) N uInt cInt).read enc w n _ _ _ g0 (by omega)
  obtain ⟨v1, s, e1, ⟨rfl, hs⟩, z1⟩ := (opensD_string (H := H) (P := P) N hN uStr cStr).read enc w n _ _ _ g1 (by omega)
  obtain ⟨v2, b, e2, ⟨rfl, hb⟩, _⟩ := (opensD_int (H := H) (P := P) N uInt cInt).read enc w n _ _ _ g2 (by omega)
  refine ⟨.agg #[.int .i64 a, .string s, .int .i64 b], ⟨a, s, b⟩, ?_, ⟨rfl, ha, hs, hb⟩, ?_⟩
  · simp [Value.cells] at e0 e1 e2 ⊢
    simp [*]
  · show 1 + s.size ≤ _
    omega
theorem pl_agg {M : Nat → Prop} {w : World} {v : Value} {p : Pl} (h : Rep.R M w v p) : ∃ b, v = .agg b := ⟨_, h.1⟩
theorem ev_agg {M : Nat → Prop} {w : World} {v : Value} {p : Ev} (h : Rep.R M w v p) : ∃ b, v = .agg b := ⟨_, h.1⟩
end

/-! ## Structs compared -/

theorem pl_lits {P : Program} {t tInt tStr : TypeId} {f0 f1 f2 : Field} (ht : P.underlying t = some (.struct #[f0, f1, f2])) (h0 : f0.offset = 0 ∧ f0.type = tInt ∧ f0.name ≠ "_") (h1 : f1.offset = 1 ∧ f1.type = tInt ∧ f1.name ≠ "_") (h2 : f2.offset = 2 ∧ f2.type = tStr ∧ f2.name ≠ "_")
    (uInt : P.underlying tInt = some (.int .i64)) (cInt : P.cellsOf tInt = 1) (uStr : P.underlying tStr = some .string) (cStr : P.cellsOf tStr = 1) (cT : P.cellsOf t = 3) {a b : Int} {s : ByteArray} (ha : I64 a) (hb : I64 b) (hs : s.size < 140737488355328) :
    P.keyLits 2 t [.int .i64 a, .int .i64 b, .string s] = some [.int .i64 a, .int .i64 b, .string s.data.toList] := by
  have wf : ∀ n : Int, I64 n → (Lit.int .i64 n).wf = true := fun n hn => by
    have : -9223372036854775808 ≤ n ∧ n ≤ 9223372036854775807 := hn
    simpa [Lit.wf, IntKind.min, IntKind.max, IntKind.signed, IntKind.bits] using this
  have hm : s.size ≤ maxLen := by unfold maxLen; omega
  unfold Program.keyLits
  rw [ht]
  simp only [List.length_cons, List.length_nil, cT]
  rw [if_pos (by simp [h0.2.2, h1.2.2, h2.2.2])]
  simp [h0.1, h0.2.1, h1.1, h1.2.1, h2.1, h2.2.1, cInt, cStr, Program.keyLits, uInt, uStr, wf a ha, wf b hb, hm]
section
variable {P : Program} {T : Tab} {n : Nat} {ops : Array Oper} {Q : Exit → Act → World → Prop} {G : Env} {w : World} {K : Env → World → Prop}
  {d ty : Nat} {pos : String} {af : Array Edge} {g : Option (Nat × Bool)}
theorem run_eqs {t : TypeId} {xs ys : Array Value} {la lb : List Lit} (hk : P.keyTypeAt 4 t = true) (hfx : (Value.agg xs).formed P t = true) (hfy : (Value.agg ys).formed P t = true) (hla : P.keyLits 2 t xs.toList = some la) (hlb : P.keyLits 2 t ys.toList = some lb) {p : Prop} [Decidable p] (hp : la = lb ↔ p) (w : World) :
    (Op.equal t (.agg xs) (.agg ys)).run P w = .ok (decide p) w := by
  obtain ⟨r, hr, hi⟩ := run_equalIn_deep (P := P) 9996 4 t hk w 2 2 (.agg xs) (.agg ys) la lb hfx hfy hla hlb
  have e : r = decide p := by
    cases r with
    | true => rw [decide_eq_true (hp.1 (hi.1 rfl))]
    | false => rw [decide_eq_false (fun h => by have := hi.2 (hp.2 h); cases this)]
  rw [← e]; exact hr
theorem run_eqguard {t : TypeId} {bop : BinOp} {x y : Operand} {xs ys : Array Value} (hng : P.eqGuardType P.depth t = false) (w : World) : (eqGuard bop t x y (.agg xs) (.agg ys)).run P w = .ok () w := by
  unfold eqGuard
  cases bop <;> simp [run_program, hng]
theorem o_eqs {t t' : TypeId} {x y : Operand} {xs ys : Array Value} {la lb : List Lit} (hx : Env.ev G x = some (.agg xs)) (hy : Env.ev G y = some (.agg ys)) (hk : P.keyTypeAt 4 t = true) (hng : P.eqGuardType P.depth t = false) (hfx : (Value.agg xs).formed P t = true) (hfy : (Value.agg ys).formed P t = true)
    (hla : P.keyLits 2 t xs.toList = some la) (hlb : P.keyLits 2 t ys.toList = some lb) {p : Prop} [Decidable p] (hp : la = lb ↔ p)
    (hg : gd ops G ⟨some d, .binOp .eql t x y t', ty, pos, af, g⟩ = some true) (hdn : Nat.blt d n = true) (h : K ((d, .bool (decide p)) :: G) w) : OW P n ops Q G w ⟨some d, .binOp .eql t x y t', ty, pos, af, g⟩ K :=
  o_val hg rfl hdn (fun ac ha => by simp [execOp, ha.ev hx, ha.ev hy, run_eqguard hng, binOp, run_eqs hk hfx hfy hla hlb hp]) h
theorem o_nes {t t' : TypeId} {x y : Operand} {xs ys : Array Value} {la lb : List Lit} (hx : Env.ev G x = some (.agg xs)) (hy : Env.ev G y = some (.agg ys)) (hk : P.keyTypeAt 4 t = true) (hng : P.eqGuardType P.depth t = false) (hfx : (Value.agg xs).formed P t = true) (hfy : (Value.agg ys).formed P t = true)
    (hla : P.keyLits 2 t xs.toList = some la) (hlb : P.keyLits 2 t ys.toList = some lb) {p : Prop} [Decidable p] (hp : la = lb ↔ p)
    (hg : gd ops G ⟨some d, .binOp .neq t x y t', ty, pos, af, g⟩ = some true) (hdn : Nat.blt d n = true) (h : K ((d, .bool (!decide p)) :: G) w) : OW P n ops Q G w ⟨some d, .binOp .neq t x y t', ty, pos, af, g⟩ K :=
  o_val hg rfl hdn (fun ac ha => by simp [execOp, ha.ev hx, ha.ev hy, run_eqguard hng, binOp, run_eqs hk hfx hfy hla hlb hp]) h

end
end Rw
