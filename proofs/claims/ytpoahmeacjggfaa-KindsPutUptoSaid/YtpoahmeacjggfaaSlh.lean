/- Rules for walking a Go function's code: a slice's beginning. No program in sight. -/
import Derived.Test.YtpoahmeacjggfaaMem
namespace Rw
open Go Go.RowKit

theorem sl_take {α : Type} [Rep α] {M : Nat → Prop} {w : World} {a : Option Addr} {c : Nat} {l : List α} (h : Sl M w (.slice a l.length c) l) {j : Nat} (hj : j ≤ l.length) : Sl M w (.slice a j c) (l.take j) := by
  obtain ⟨a', c', e, h1, h2, h3⟩ := h
  cases e
  have hl : (l.take j).length = j := by rw [List.length_take]; omega
  refine ⟨a, c, by rw [hl], by omega, by omega, ?_⟩
  rcases h3 with h3 | ⟨b, off, ha, hx⟩
  · left; rw [h3]; simp
  · refine .inr ⟨b, off, ha, fun i x hi => hx i x ?_⟩
    rw [List.getElem?_take] at hi
    split at hi
    · exact hi
    · cases hi
section
variable {P : Program} {T : Tab} {n : Nat} {ops : Array Oper} {Q : Exit → Act → World → Prop} {G : Env} {w : World} {K : Env → World → Prop}
  {d ty : Nat} {pos : String} {af : Array Edge} {g : Option (Nat × Bool)}
theorem o_slh {α : Type} [Rep α] {M : Nat → Prop} {v : Value} {l : List α} {t : TypeId} {x hi : Operand} {k : IntKind} {z : Int} {j : Nat} {ti te : TI} {e : Nat} (hT : TabOk P T) (hs : Sl M w v l) (hx : Env.ev G x = some v) (hhi : Env.ev G hi = some (.int k z)) (hz : z = (j : Int)) (hj : j ≤ l.length) (ht : T.get t = some ti) (htd : ti.d = .sl e) (hte : T.get e = some te)
    (hg : gd ops G ⟨some d, .slice t x none (some hi) none, ty, pos, af, g⟩ = some true) (hdn : Nat.blt d n = true) (h : ∀ v', Sl M w v' (l.take j) → K ((d, v') :: G) w) : OW P n ops Q G w ⟨some d, .slice t x none (some hi) none, ty, pos, af, g⟩ K := by
  obtain ⟨a, c, rfl, h1, h2, h3⟩ := id hs
  subst hz
  have hd := (hT t _ ht).d
  rw [htd] at hd
  simp only [TD.Ok] at hd
  have hel : P.elem t = e := by simp [Program.elem, hd]
  refine o_val (v := .slice a j c) hg rfl hdn (fun ac ha => ?_) (h _ (sl_take hs hj))
  have hd' : P.underlying t = some (.slice (P.elem t)) := by rw [hel]; exact hd
  have hsz : (Go.sizeOf (P.elem t)).run P w = .ok te.size w := by rw [hel]; exact run_sizeOf hT hte w
  simp [execOp, ha.ev hx, ha.ev hhi, run_sliceAt_slice w t _ _ _ _ hd', run_slice_h w t a l.length c hd' k (j : Int) (by omega) (by omega), hsz, sliced]
  intro _
  cases a with
  | none => rfl
  | some p => simp [Addr.add]
end
end Rw
