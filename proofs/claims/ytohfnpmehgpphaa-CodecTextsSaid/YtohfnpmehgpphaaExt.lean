/- Rules for walking a Go function's code, part eleven: calls of functions without a body. No program in sight. -/
import Derived.Test.YtohfnpmehgpphaaMem
import Derived.Lib.Bytealg
namespace Rw
open Go Go.RowKit
section
variable {P : Program} {T : Tab} {n : Nat} {ops : Array Oper} {Q : Exit → Act → World → Prop} {G : Env} {w : World} {K : Env → World → Prop}
  {d ty : Nat} {pos : String} {af : Array Edge} {g : Option (Nat × Bool)}
/-- A call of a function without a body, which yields a value. -/
theorem o_ext {f : FuncId} {args : Array Operand} {tys : Array TypeId} {vs : List Value} {v : Value} (hv : Env.evs G args.toList = some vs) (hc : (callFunc f vs.toArray).run P w = .ok (.value v) w)
    (hg : gd ops G ⟨some d, .call ⟨.value (.func f), args, tys⟩, ty, pos, af, g⟩ = some true) (hdn : Nat.blt d n = true) (h : K ((d, v) :: G) w) : OW P n ops Q G w ⟨some d, .call ⟨.value (.func f), args, tys⟩, ty, pos, af, g⟩ K := by
  refine o_val hg rfl hdn (fun a ha => ?_) h
  have e : args.map a.eval = vs.toArray := array_of_toList (by simp [ha.evs hv])
  simp [execOp, resolve, e, Deferred.ofValue, Act.eval, invoke, hc]
end
end Rw
