/- Rules for walking a Go function's code: a slice's beginning. No program in sight. -/
import Derived.Test.YtohfnpmehgpphaaMem
namespace Rw
open Go Go.RowKit

theorem sl_take {α : Type} [Rep α] {M : Nat → Prop} {w : World} {a : Option Addr} {c : Nat} {l : List α} (h : Sl M w (.slice a l.length c) l) {j : Nat} (hj : j ≤ l.length) : Sl M w (.slice a j c) (l.take j) := by
  obtain ⟨a', c', e, h1, h2, h3⟩ := h
  cases e
  have hl : (l.take j).length = j := by rw [List.length_take]; omega
  refine ⟨a, c, by rw [hl], by omega, by omega, ?_⟩
  rcases h3 with h3 | ⟨b, off, ha, hx⟩
  · left; rw [h3]; simp
  · refine .inr ⟨b, off, ha, fun i x hi => hx i x ?_⟩
    rw [List.getElem?_take] at hi
    split at hi
    · exact hi
    · cases hi
theorem sl_drop {α : Type} [Rep α] {M : Nat → Prop} {w : World} {a : Option Addr} {c : Nat} {l : List α} (h : Sl M w (.slice a l.length c) l) {j : Nat} (hj : j ≤ l.length) : Sl M w (sliced a j l.length c (Rep.sz α)) (l.drop j) := by
  obtain ⟨a', c', e, h1, h2, h3⟩ := h
  cases e
  have hl : (l.drop j).length = l.length - j := List.length_drop
  refine ⟨_, c - j, by rw [hl]; rfl, by omega, by omega, ?_⟩
  rcases h3 with h3 | ⟨b, off, ha, hx⟩
  · left; rw [h3]; simp
  · by_cases hc : c = j
    · left; exact List.eq_nil_of_length_eq_zero (by omega)
    · refine .inr ⟨b, off + j * Rep.sz α, by rw [if_neg hc, ha]; simp [addr_add], fun i x hi => ?_⟩
      rw [List.getElem?_drop] at hi
      obtain ⟨u, hu, hat⟩ := hx (j + i) x hi
      refine ⟨u, hu, ?_⟩
      rw [show off + j * Rep.sz α + i * Rep.sz α = off + (j + i) * Rep.sz α by rw [Nat.add_mul]; omega]
      exact hat
section
variable {P : Program} {T : Tab} {n : Nat} {ops : Array Oper} {Q : Exit → Act → World → Prop} {G : Env} {w : World} {K : Env → World → Prop}
  {d ty : Nat} {pos : String} {af : Array Edge} {g : Option (Nat × Bool)}
theorem o_slh {α : Type} [Rep α] {M : Nat → Prop} {v : Value} {l : List α} {t : TypeId} {x hi : Operand} {k : IntKind} {z : Int} {j : Nat} {ti te : TI} {e : Nat} (hT : TabOk P T) (hs : Sl M w v l) (hx : Env.ev G x = some v) (hhi : Env.ev G hi = some (.int k z)) (hz : z = (j : Int)) (hj : j ≤ l.length) (ht : T.get t = some ti) (htd : ti.d = .sl e) (hte : T.get e = some te)
    (hg : gd ops G ⟨some d, .slice t x none (some hi) none, ty, pos, af, g⟩ = some true) (hdn : Nat.blt d n = true) (h : ∀ v', Sl M w v' (l.take j) → K ((d, v') :: G) w) : OW P n ops Q G w ⟨some d, .slice t x none (some hi) none, ty, pos, af, g⟩ K := by
  obtain ⟨a, c, rfl, h1, h2, h3⟩ := id hs
  subst hz
  have hd := (hT t _ ht).d
  rw [htd] at hd
  simp only [TD.Ok] at hd
  have hel : P.elem t = e := by simp [Program.elem, hd]
  refine o_val (v := .slice a j c) hg rfl hdn (fun ac ha => ?_) (h _ (sl_take hs hj))
  have hd' : P.underlying t = some (.slice (P.elem t)) := by rw [hel]; exact hd
  have hsz : (Go.sizeOf (P.elem t)).run P w = .ok te.size w := by rw [hel]; exact run_sizeOf hT hte w
  simp [execOp, ha.ev hx, ha.ev hhi, run_sliceAt_slice w t _ _ _ _ hd', run_slice_h w t a l.length c hd' k (j : Int) (by omega) (by omega), hsz, sliced]
  intro _
  cases a with
  | none => rfl
  | some p => simp [Addr.add]
theorem o_slt {α : Type} [Rep α] {M : Nat → Prop} {v : Value} {l : List α} {t : TypeId} {x lo : Operand} {k : IntKind} {z : Int} {j : Nat} {ti te : TI} {e : Nat} (hT : TabOk P T) (hs : Sl M w v l) (hx : Env.ev G x = some v) (hlo : Env.ev G lo = some (.int k z)) (hz : z = (j : Int)) (hj : j ≤ l.length) (ht : T.get t = some ti) (htd : ti.d = .sl e) (hte : T.get e = some te) (hsz : te.size = Rep.sz α)
    (hg : gd ops G ⟨some d, .slice t x (some lo) none none, ty, pos, af, g⟩ = some true) (hdn : Nat.blt d n = true) (h : ∀ v', Sl M w v' (l.drop j) → K ((d, v') :: G) w) : OW P n ops Q G w ⟨some d, .slice t x (some lo) none none, ty, pos, af, g⟩ K := by
  obtain ⟨a, c, rfl, h1, h2, h3⟩ := id hs
  subst hz
  have hd := (hT t _ ht).d
  rw [htd] at hd
  simp only [TD.Ok] at hd
  have hel : P.elem t = e := by simp [Program.elem, hd]
  have hd' : P.underlying t = some (.slice (P.elem t)) := by rw [hel]; exact hd
  have hsize : (Go.sizeOf (P.elem t)).run P w = .ok te.size w := by rw [hel]; exact run_sizeOf hT hte w
  refine o_val (v := sliced a j l.length c te.size) hg rfl hdn (fun ac ha => ?_) (h _ (by rw [hsz]; exact sl_drop hs hj))
  simp [execOp, ha.ev hx, ha.ev hlo, run_sliceAt_slice w t _ _ _ _ hd', run_slice_l w t a l.length c hd' k (j : Int) (by omega) (by omega), hsize]
theorem o_slw {α : Type} [Rep α] {M : Nat → Prop} {v : Value} {l : List α} {t : TypeId} {x lo hi : Operand} {k k' : IntKind} {z y : Int} {j i : Nat} {ti te : TI} {e : Nat} (hT : TabOk P T) (hs : Sl M w v l) (hx : Env.ev G x = some v) (hlo : Env.ev G lo = some (.int k z)) (hz : z = (j : Int)) (hhi : Env.ev G hi = some (.int k' y)) (hy : y = (i : Int)) (hj : j ≤ i) (hi' : i ≤ l.length) (ht : T.get t = some ti) (htd : ti.d = .sl e) (hte : T.get e = some te) (hsz : te.size = Rep.sz α)
    (hg : gd ops G ⟨some d, .slice t x (some lo) (some hi) none, ty, pos, af, g⟩ = some true) (hdn : Nat.blt d n = true) (h : ∀ v', Sl M w v' ((l.take i).drop j) → K ((d, v') :: G) w) : OW P n ops Q G w ⟨some d, .slice t x (some lo) (some hi) none, ty, pos, af, g⟩ K := by
  obtain ⟨a, c, rfl, h1, h2, h3⟩ := id hs
  subst hz
  subst hy
  have hd := (hT t _ ht).d
  rw [htd] at hd
  simp only [TD.Ok] at hd
  have hel : P.elem t = e := by simp [Program.elem, hd]
  have hd' : P.underlying t = some (.slice (P.elem t)) := by rw [hel]; exact hd
  have hsize : (Go.sizeOf (P.elem t)).run P w = .ok te.size w := by rw [hel]; exact run_sizeOf hT hte w
  have htl : (l.take i).length = i := by rw [List.length_take]; omega
  have hs2 := sl_take hs hi'
  have hs3 := sl_drop (l := l.take i) (j := j) (by rw [htl]; exact hs2) (by omega)
  rw [htl] at hs3
  refine o_val (v := sliced a j i c te.size) hg rfl hdn (fun ac ha => ?_) (h _ (by rw [hsz]; exact hs3))
  simp [execOp, ha.ev hx, ha.ev hlo, ha.ev hhi, run_sliceAt_slice w t _ _ _ _ hd', run_slice_lh w t a l.length c hd' k k' (j : Int) (i : Int) (by omega) (by omega) (by omega), hsize]
end
section
variable {P : Program} {n : Nat} {ops : Array Oper} {Q : Exit → Act → World → Prop} {G : Env} {w : World} {K : Env → World → Prop}
  {d ty : Nat} {pos : String} {af : Array Edge} {g : Option (Nat × Bool)}
/-- A byte's remainder by 2. -/
theorem o_odd {t t' : TypeId} {x y : Operand} {c : UInt8} (hx : Env.ev G x = some (.int .u8 c.toNat)) (hy : Env.ev G y = some (.int .u8 2))
    (hg : gd ops G ⟨some d, .binOp .rem t x y t', ty, pos, af, g⟩ = some true) (hdn : Nat.blt d n = true) (h : K ((d, .int .u8 ((c.toNat % 2 : Nat) : Int)) :: G) w) : OW P n ops Q G w ⟨some d, .binOp .rem t x y t', ty, pos, af, g⟩ K := by
  refine o_val hg rfl hdn (fun a ha => ?_) h
  have h2 : (c.toNat : Int).tmod 2 = ((c.toNat % 2 : Nat) : Int) := by rw [Int.tmod_eq_emod_of_nonneg (by omega)]; omega
  simp [execOp, ha.ev hx, ha.ev hy, eqGuard, binOp, Op.intDiv, h2]
end
end Rw
