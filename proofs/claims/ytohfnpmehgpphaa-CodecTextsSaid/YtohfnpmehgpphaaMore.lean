/- Rules for walking a Go function's code, part seven: truth values compared. No program in sight. -/
import Derived.Test.YtohfnpmehgpphaaMem
namespace Rw
open Go Go.RowKit

theorem beq_run {P : Program} {t : TypeId} (hd : P.underlying t = some .bool) (a b : Bool) (w : World) : (Op.equal t (.bool a) (.bool b)).run P w = .ok (a == b) w := by
  show (Op.equalIn (9999 + 1) t (.bool a) (.bool b)).run P w = _
  unfold Op.equalIn
  simp only [Sem.run_bind, run_underlying hd, Result.andThen_ok, Sem.run_pure]

section
variable {P : Program} {T : Tab} {n : Nat} {ops : Array Oper} {Q : Exit → Act → World → Prop} {G : Env} {w : World} {K : Env → World → Prop}
  {d ty : Nat} {pos : String} {af : Array Edge} {g : Option (Nat × Bool)}
theorem o_beq {t t' : TypeId} {x y : Operand} {a b : Bool} {ti : TI} (hT : TabOk P T) (hx : Env.ev G x = some (.bool a)) (hy : Env.ev G y = some (.bool b)) (ht : T.get t = some ti) (htd : ti.d = .bool)
    (hg : gd ops G ⟨some d, .binOp .eql t x y t', ty, pos, af, g⟩ = some true) (hdn : Nat.blt d n = true) (h : K ((d, .bool (a == b)) :: G) w) : OW P n ops Q G w ⟨some d, .binOp .eql t x y t', ty, pos, af, g⟩ K := by
  have hd := (hT t ti ht).d
  rw [htd] at hd
  exact o_val hg rfl hdn (fun ac ha => by simp [execOp, ha.ev hx, ha.ev hy, eqGuard, binOp, beq_run hd]) h
theorem o_bne {t t' : TypeId} {x y : Operand} {a b : Bool} {ti : TI} (hT : TabOk P T) (hx : Env.ev G x = some (.bool a)) (hy : Env.ev G y = some (.bool b)) (ht : T.get t = some ti) (htd : ti.d = .bool)
    (hg : gd ops G ⟨some d, .binOp .neq t x y t', ty, pos, af, g⟩ = some true) (hdn : Nat.blt d n = true) (h : K ((d, .bool (!(a == b))) :: G) w) : OW P n ops Q G w ⟨some d, .binOp .neq t x y t', ty, pos, af, g⟩ K := by
  have hd := (hT t ti ht).d
  rw [htd] at hd
  exact o_val hg rfl hdn (fun ac ha => by simp [execOp, ha.ev hx, ha.ev hy, eqGuard, binOp, beq_run hd]) h
/-- A whole number as one of another kind. -/
theorem o_conv {src dst : TypeId} {x : Operand} {k k0 k1 : IntKind} {z y : Int} {ti ts : TI} (hT : TabOk P T) (hx : Env.ev G x = some (.int k0 z)) (hs : T.get src = some ts) (hsd : ts.d = .int k1) (ht : T.get dst = some ti) (htd : ti.d = .int k) (hw : k.wrap z = y)
    (hg : gd ops G ⟨some d, .convert src dst x, ty, pos, af, g⟩ = some true) (hdn : Nat.blt d n = true) (h : K ((d, .int k y) :: G) w) : OW P n ops Q G w ⟨some d, .convert src dst x, ty, pos, af, g⟩ K := by
  have hd := (hT dst ti ht).d
  rw [htd] at hd
  have hd2 := (hT src ts hs).d
  rw [hsd] at hd2
  simp only [TD.Ok] at hd hd2
  exact o_val hg rfl hdn (fun ac ha => by simp [execOp, ha.ev hx, convert, run_underlying hd, run_underlying hd2, Conv.intToInt, hw]) h
/-- Halved. -/
theorem o_half {t t' : TypeId} {x : Operand} {k k2 : IntKind} {z y : Int} (hx : Env.ev G x = some (.int k z)) (hk : k.bits = 64) (hz : 0 ≤ z) (hy : z / 2 = y)
    (hg : gd ops G ⟨some d, .binOp .shr t x (.const (.int k2 1)) t', ty, pos, af, g⟩ = some true) (hdn : Nat.blt d n = true) (h : K ((d, .int k y) :: G) w) : OW P n ops Q G w ⟨some d, .binOp .shr t x (.const (.int k2 1)) t', ty, pos, af, g⟩ K := by
  refine o_val hg rfl hdn (fun ac ha => ?_) h
  have e : z.fdiv 2 = y := by rw [Int.fdiv_eq_ediv_of_nonneg _ (by omega)]; exact hy
  have hy2 : Env.ev G (.const (.int k2 1)) = some (.int k2 1) := rfl
  simp [execOp, ha.ev hx, ha.ev hy2, eqGuard, binOp, Op.shift, hk, e]
end
end Rw
