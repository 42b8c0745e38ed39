/- Bindings as data; slices held against nil. No program in sight. -/
import Derived.Test.YtohfnpmehgpphaaPl
import Derived.WalkSpells
namespace Rw
open Go Go.RowKit
open Go.Proofs.Ytohfnpmehgpphaa.Rows (uptoBulk uptoBulkAll uptoSmall)

/-- A binding. -/
structure Bnd where
  n : Int
  to : Ty
instance : Rep Bnd where
  sz := 5
  R := fun M w v f => I64 f.n ∧ ∃ kv, v = .agg #[.int .i64 f.n, .int .u8 f.to.op, .string f.to.name, .int .i64 f.to.n, kv] ∧ Rep.R M w (.agg #[.int .u8 f.to.op, .string f.to.name, .int .i64 f.to.n, kv]) f.to
  pos := by decide
  size := by rintro M w v x ⟨_, kv, rfl, _⟩; rfl
  one := by
    rintro M w v x ⟨_, kv, rfl, h⟩ u hu
    have := Rep.one h
    simp [Value.cells] at hu this
    rcases hu with rfl | rfl | rfl | rfl | rfl
    · rfl
    · rfl
    · rfl
    · rfl
    · exact this.2.2.2
  upd := fun ⟨h0, kv, h1, h2⟩ e => ⟨h0, kv, h1, Rep.upd h2 e⟩
  wk := fun ⟨h0, kv, h1, h2⟩ e => ⟨h0, kv, h1, Rep.wk h2 e⟩
theorem bnd_open {M : Nat → Prop} {w : World} {v : Value} {f : Bnd} (h : Rep.R M w v f) :
    I64 f.n ∧ ∃ kv, v = .agg #[.int .i64 f.n, .int .u8 f.to.op, .string f.to.name, .int .i64 f.to.n, kv] ∧ Rep.R M w (.agg #[.int .u8 f.to.op, .string f.to.name, .int .i64 f.to.n, kv]) f.to := h
theorem bnd_mk {M : Nat → Prop} {w : World} {kv : Value} {n : Int} {t : Ty} (h0 : I64 n) (h : Rep.R M w (.agg #[.int .u8 t.op, .string t.name, .int .i64 t.n, kv]) t) :
    Rep.R M w (.agg #[.int .i64 n, .int .u8 t.op, .string t.name, .int .i64 t.n, kv]) (⟨n, t⟩ : Bnd) := ⟨h0, kv, rfl, h⟩
theorem bnd_agg {M : Nat → Prop} {w : World} {v : Value} {t : Bnd} (h : Rep.R M w v t) : ∃ b, v = .agg b := let ⟨_, _, h1, _⟩ := bnd_open h; ⟨_, h1⟩
def bsz (f : Bnd) : Nat := 2 + tsz f.to
theorem opensD_bnd {H : Type} {P : Program} {t tI tT : TypeId} {f0 f1 : Field} (N : Nat) (ht : P.underlying t = some (.struct #[f0, f1])) (h0 : f0.offset = 0 ∧ f0.type = tI) (h1 : f1.offset = 1 ∧ f1.type = tT)
    (uI : P.underlying tI = some (.int .i64)) (cI : P.cellsOf tI = 1) (oT : OpensD H (α := Ty) P tT N tsz) (cF : P.cellsOf t = 5) : OpensD H (α := Bnd) P t N bsz := by
  refine ⟨cF, fun enc w fuel cs d ps h hQ => ?_⟩
  obtain ⟨xs, n, _, hx, hl, hxl, hf⟩ := DataW.trod_struct ht h
  cases hx
  rw [cF] at hl
  obtain ⟨c0, r, rfl⟩ : ∃ c0 r, cs = c0 :: r := by
    rcases cs with _ | ⟨c0, r⟩
    · simp at hl
    · exact ⟨c0, r, rfl⟩
  obtain ⟨x0, x1, rfl⟩ : ∃ x0 x1, xs = [x0, x1] := by
    rcases xs with _ | ⟨c0, _ | ⟨c1, _ | ⟨c2, r⟩⟩⟩ <;> simp at hxl
    exact ⟨c0, c1, rfl⟩
  have g0 := hf 0 f0 rfl
  have g1 := hf 1 f1 rfl
  rw [h0.1, h0.2, cI] at g0
  rw [h1.1, h1.2, oT.cells] at g1
  have hr : r.length = 4 := by simpa using hl
  simp only [List.drop_zero, List.drop_succ_cons, List.take_succ_cons, List.take_zero, List.getElem?_cons_zero, List.getElem?_cons_succ, List.take_of_length_le (show r.length ≤ Rep.sz Ty from Nat.le_of_eq hr)] at g0 g1
  rw [bulk_agg] at hQ ⊢
  simp only [List.map_cons, List.map_nil, uptoBulkAll] at hQ ⊢
  obtain ⟨v0, a, e0, r0, z0⟩ := (opensD_int (H := H) (P := P) N uI cI).read enc w n _ _ _ g0 (by omega)
  obtain ⟨v1, x, e1, r1, z1⟩ := oT.read enc w n _ _ _ g1 (by omega)
  obtain ⟨rfl, ha⟩ := r0
  obtain ⟨kv, rfl, _⟩ := ty_open r1
  refine ⟨.agg #[.int .i64 a, .int .u8 x.op, .string x.name, .int .i64 x.n, kv], ⟨a, x⟩, ?_, bnd_mk ha r1, ?_⟩
  · simp [Value.cells] at e0 e1 ⊢
    rw [e0, ← e1]
    simp
  · show 2 + tsz x ≤ _
    omega

section
variable {P : Program} {T : Tab} {n : Nat} {ops : Array Oper} {Q : Exit → Act → World → Prop} {G : Env} {w : World} {K : Env → World → Prop}
  {d ty : Nat} {pos : String} {af : Array Edge} {g : Option (Nat × Bool)}
/-- A slice held against nil. -/
theorem o_snil {t t' : TypeId} {x y : Operand} {a : Option Addr} {len c len' c' : Nat} {ti : TI} {e : Nat} (hT : TabOk P T) (hx : Env.ev G x = some (.slice a len c)) (hy : Env.ev G y = some (.slice none len' c')) (ht : T.get t = some ti) (htd : ti.d = .sl e)
    (hg : gd ops G ⟨some d, .binOp .eql t x y t', ty, pos, af, g⟩ = some true) (hdn : Nat.blt d n = true) (h : K ((d, .bool a.isNone) :: G) w) : OW P n ops Q G w ⟨some d, .binOp .eql t x y t', ty, pos, af, g⟩ K := by
  have hd := (hT t _ ht).d
  rw [htd] at hd
  simp only [TD.Ok] at hd
  exact o_val hg rfl hdn (fun ac ha => by simp [execOp, ha.ev hx, ha.ev hy, eqGuard, Lib.run_eql_slice_nil w t e a len c len' c' hd]) h
theorem sl_isNone {α : Type} [Rep α] {M : Nat → Prop} {w : World} {a : Option Addr} {len c : Nat} {l : List α} (h : Sl M w (.slice a len c) l) (hn : a.isNone = true) : l = [] := by
  obtain ⟨a', c', e, _, _, h3⟩ := h
  cases e
  rcases h3 with h3 | ⟨b, off, rfl, _⟩
  · exact h3
  · cases hn
end
end Rw
