/- Rules for walking a Go function's code, part twelve: own slices in regions of open order. No program in sight. -/
import Derived.Test.YtohfnpmehgpphaaDraw
import Derived.Test.YtohfnpmehgpphaaMem
import Derived.Test.YtohfnpmehgpphaaBuild
namespace Rw
open Go Go.RowKit

/-- From one world to another by steps that write M alone. -/
def Sof (B : Nat) (M : Nat → Prop) (w w' : World) : Prop := ∃ M', Stp B M M' w w'
theorem At.so {B : Nat} {M : Nat → Prop} {w w' : World} {b off : Nat} {cs : List Value} (h : At M w b off cs) (s : Sof B M w w') : OAt w' b off cs := let ⟨_, s⟩ := s; ⟨(h.stp s).cell⟩
/-- .. and leave one block as it is. -/
def Sof2 (B : Nat) (M : Nat → Prop) (b : Nat) (w w' : World) : Prop := Sof B M w w' ∧ w'.heap[b]? = w.heap[b]?
theorem At.so2 {B k : Nat} {M : Nat → Prop} {w w' : World} {b off : Nat} {cs : List Value} (h : At M w b off cs) (s : Sof2 B M k w w') : OAt w' b off cs := h.so s.1
theorem Box.so2 {B : Nat} {M : Nat → Prop} {w w' : World} {b T : Nat} {cs : List Value} (h : Box w b T cs) (s : Sof2 B M b w w') : Box w' b T cs := ⟨s.2.trans h.heap⟩
theorem OAt.ext' {w w' : World} {b off : Nat} {cs : List Value} (h : OAt w b off cs) (hb : b < w.heap.size) (e : Ext w w') : OAt w' b off cs := ⟨fun j v hv => (e.cell (p := ⟨b, off + j, none⟩) hb).trans (h.cell j v hv)⟩

section
variable {P : Program} {T : Tab} {n : Nat} {ops : Array Oper} {Q : Exit → Act → World → Prop} {S : World → Prop} {G : Env} {w : World} {l : List Nat} {fuel : Nat}
/-- An element's address in an own slice, first. -/
theorem a_ixO {α : Type} [Rep α] {M : Nat → Prop} {w0 : World} {v : Value} {k : List α} {B : Nat} {t : TypeId} {x ix : Operand} {kd : IntKind} {z : Int} {j : Nat} {y : α} {ti te : TI} {e : Nat} {d ty : Nat} {pos : String} {af : Array Edge} {g : Option (Nat × Bool)} (i : Nat) (hT : TabOk P T) (hs : OwnSl e B M w0 v k) (hy : k[j]? = some y) (hi : ops[i]? = some ⟨some d, .indexAddr t x ix, ty, pos, af, g⟩)
    (hx : Env.ev G x = some v) (hix : Env.ev G ix = some (.int kd z)) (hj : z = (j : Int)) (ht : T.get t = some ti) (htd : ti.d = .sl e) (hte : T.get e = some te) (hsz : te.size = Rep.sz α)
    (hg : gd ops G ⟨some d, .indexAddr t x ix, ty, pos, af, g⟩ = some true) (hdn : Nat.blt d n = true) (hr : okTake ops l i = true) (hQ : ∀ v c a w, Q (.panic c) (a.put (some d) v) w → Q (.panic c) a w) (hS : S w)
    (h : ∀ b u, v.ownBlock = some b → Rep.R M w0 u y → OAt w0 b (j * te.size) u.cells.toList → WA P n ops Q S ((d, .pointer (some ⟨b, j * te.size, none⟩)) :: G) w fuel (l ++ [i])) : WA P n ops Q S G w (fuel + 1) l := by
  obtain ⟨us, hrow, hrs⟩ := hs.row
  have hlt : j < k.length := (List.getElem?_eq_some_iff.1 hy).1
  obtain ⟨u, hu, hR⟩ := hrs.get hy
  rcases hrow.2 with ⟨rfl, hn⟩ | ⟨b, cap, cur, rfl, _, _, _⟩
  · omega
  · have hd := (hT t _ ht).d
    rw [htd] at hd
    simp only [TD.Ok] at hd
    subst hj
    have hb : (0 : Int) ≤ (j : Int) ∧ (j : Int) < (k.length : Int) := by omega
    refine a_q (v := .pointer (some ⟨b, j * te.size, none⟩)) i hi rfl hg hdn hr (hQ _) (fun a' ha' w' _ => ?_) hS (h b u rfl hR ⟨fun c q hc => ?_⟩)
    · simp [execOp, ha'.ev hx, ha'.ev hix, Instr.indexAt, asIntOf, run_underlying hd, hb, run_sizeOf hT hte, addr_add]
      intro hge
      omega
    · have := hrow.cells (g := b) rfl (j * Rep.sz α + c) q (hrs.flat_get hu c q hc)
      rw [addr_add, Nat.zero_add] at this
      rw [hsz]; exact this
/-- A struct literal, first. -/
theorem a_build {t : Nat} {ps : Array (Nat × Operand)} {vs : List Value} {css : List (List Value)} {zero cells : List Value} {pl : List (Nat × Nat)} {d ty : Nat} {pos : String} {af : Array Edge} {g : Option (Nat × Bool)} (i : Nat) (hb : BuildOk P t zero pl) (hi : ops[i]? = some ⟨some d, .build t ps, ty, pos, af, g⟩) (hv : Env.evs G (ps.toList.map (·.2)) = some vs) (hcs : vs.map (·.cells.toList) = css)
    (hf : fillL pl zero ((ps.toList.map (·.1)).zip css) = some cells)
    (hg : gd ops G ⟨some d, .build t ps, ty, pos, af, g⟩ = some true) (hdn : Nat.blt d n = true) (hr : okTake ops l i = true) (hQ : ∀ c a w, Q (.panic c) (a.put (some d) (.agg cells.toArray)) w → Q (.panic c) a w) (hS : S w)
    (h : WA P n ops Q S ((d, .agg cells.toArray) :: G) w fuel (l ++ [i])) : WA P n ops Q S G w (fuel + 1) l :=
  a_q i hi rfl hg hdn hr hQ (fun _ ha w' _ => run_build hb hv hcs hf ha w') hS h
/-- Arithmetic, first. -/
theorem a_ar {bop : BinOp} {t t' : TypeId} {x y : Operand} {k : IntKind} {p q r z : Int} {d ty : Nat} {pos : String} {af : Array Edge} {g : Option (Nat × Bool)} (i : Nat) (hi : ops[i]? = some ⟨some d, .binOp bop t x y t', ty, pos, af, g⟩) (hx : Env.ev G x = some (.int k p)) (hy : Env.ev G y = some (.int k q)) (hr : arI bop p q = some r) (hz : k.wrap r = z)
    (hg : gd ops G ⟨some d, .binOp bop t x y t', ty, pos, af, g⟩ = some true) (hdn : Nat.blt d n = true) (hk : okTake ops l i = true) (hQ : ∀ c a w, Q (.panic c) (a.put (some d) (.int k z)) w → Q (.panic c) a w) (hS : S w)
    (h : WA P n ops Q S ((d, .int k z) :: G) w fuel (l ++ [i])) : WA P n ops Q S G w (fuel + 1) l := by
  refine a_q (v := .int k z) i hi rfl hg hdn hk hQ (fun a ha w' _ => ?_) hS h
  cases bop <;> simp [arI] at hr <;> subst hr <;> subst hz <;> simp [execOp, ha.ev hx, ha.ev hy, eqGuard, binOp, Op.intArith]
end
end Rw
