/- Rules for walking a Go function's code, part seven: truth values compared. No program in sight. -/
import Derived.Test.YtcledfefgbbgeaaMem
namespace Rw
open Go Go.RowKit

theorem beq_run {P : Program} {t : TypeId} (hd : P.underlying t = some .bool) (a b : Bool) (w : World) : (Op.equal t (.bool a) (.bool b)).run P w = .ok (a == b) w := by
  show (Op.equalIn (9999 + 1) t (.bool a) (.bool b)).run P w = _
  unfold Op.equalIn
  simp only [Sem.run_bind, run_underlying hd, Result.andThen_ok, Sem.run_pure]

section
variable {P : Program} {T : Tab} {n : Nat} {ops : Array Oper} {Q : Exit → Act → World → Prop} {G : Env} {w : World} {K : Env → World → Prop}
  {d ty : Nat} {pos : String} {af : Array Edge} {g : Option (Nat × Bool)}
theorem o_beq {t t' : TypeId} {x y : Operand} {a b : Bool} {ti : TI} (hT : TabOk P T) (hx : Env.ev G x = some (.bool a)) (hy : Env.ev G y = some (.bool b)) (ht : T.get t = some ti) (htd : ti.d = .bool)
    (hg : gd ops G ⟨some d, .binOp .eql t x y t', ty, pos, af, g⟩ = some true) (hdn : Nat.blt d n = true) (h : K ((d, .bool (a == b)) :: G) w) : OW P n ops Q G w ⟨some d, .binOp .eql t x y t', ty, pos, af, g⟩ K := by
  have hd := (hT t ti ht).d
  rw [htd] at hd
  exact o_val hg rfl hdn (fun ac ha => by simp [execOp, ha.ev hx, ha.ev hy, eqGuard, binOp, beq_run hd]) h
theorem o_bne {t t' : TypeId} {x y : Operand} {a b : Bool} {ti : TI} (hT : TabOk P T) (hx : Env.ev G x = some (.bool a)) (hy : Env.ev G y = some (.bool b)) (ht : T.get t = some ti) (htd : ti.d = .bool)
    (hg : gd ops G ⟨some d, .binOp .neq t x y t', ty, pos, af, g⟩ = some true) (hdn : Nat.blt d n = true) (h : K ((d, .bool (!(a == b))) :: G) w) : OW P n ops Q G w ⟨some d, .binOp .neq t x y t', ty, pos, af, g⟩ K := by
  have hd := (hT t ti ht).d
  rw [htd] at hd
  exact o_val hg rfl hdn (fun ac ha => by simp [execOp, ha.ev hx, ha.ev hy, eqGuard, binOp, beq_run hd]) h
end
end Rw
