/- Rules for walking a Go function's code, part ten: struct literals. No program in sight. -/
import Derived.Test.YtohfnpmehgpphaaMem
namespace Rw
open Go Go.RowKit

/-- A struct's cells with some fields put in; a field: its place, its size. -/
def fillL (pl : List (Nat × Nat)) : List Value → List (Nat × List Value) → Option (List Value)
  | cells, [] => some cells
  | cells, (i, cs) :: r => match pl[i]? with
    | none => none
    | some (off, size) => bif Nat.beq cs.length size && Nat.ble (off + cs.length) cells.length then fillL pl (cells.take off ++ cs ++ cells.drop (off + cs.length)) r else none

theorem splice_fold (off : Nat) (l : List Value) (cs : Array Value) (h : off + l.length ≤ cs.size) :
    ((l.zipIdx 0).foldl (fun cs (x : Value × Nat) => cs.setIfInBounds (off + x.2) x.1) cs) = (cs.toList.take off ++ l ++ cs.toList.drop (off + l.length)).toArray := by
  obtain ⟨h1, h2⟩ := Great.foldl_set off l 0 cs
  apply Array.ext_getElem?
  intro k
  rw [h2 k]
  simp only [Nat.add_zero, List.getElem?_toArray]
  by_cases hk : k < off
  · rw [if_neg (by omega), List.append_assoc, List.getElem?_append_left (by simp; omega), List.getElem?_take]
    simp [hk]
  · by_cases hk2 : k < off + l.length
    · rw [if_pos ⟨by omega, hk2, by omega⟩, List.append_assoc, List.getElem?_append_right (by simp; omega)]
      have e : (cs.toList.take off).length = off := by simp; omega
      rw [e, List.getElem?_append_left (by omega)]
    · rw [if_neg (by omega), List.getElem?_append_right (by simp; omega)]
      have e : (cs.toList.take off ++ l).length = off + l.length := by simp; omega
      rw [e, List.getElem?_drop]
      simp only [Array.getElem?_toList]
      congr 1
      omega

theorem fill_L {place : Nat → Option (Nat × Nat)} {pl : List (Nat × Nat)} (hpl : ∀ i, place i = pl[i]?) : ∀ (ps : List (Nat × Value)) (cells : Array Value) (r : List Value),
    fillL pl cells.toList (ps.map fun p => (p.1, p.2.cells.toList)) = some r → Instr.fill place cells ps = some r.toArray
  | [], cells, r, h => by
    simp [fillL] at h
    subst h
    simp [Instr.fill]
  | (i, v) :: ps, cells, r, h => by
    simp only [List.map_cons, fillL] at h
    unfold Instr.fill
    rw [hpl]
    cases hi : pl[i]? with
    | none => rw [hi] at h; simp at h
    | some p =>
      obtain ⟨off, size⟩ := p
      rw [hi] at h
      simp only at h ⊢
      cases hc : (Nat.beq v.cells.toList.length size && Nat.ble (off + v.cells.toList.length) cells.toList.length) with
      | false => rw [hc] at h; simp at h
      | true =>
        rw [hc] at h
        simp only [cond_true] at h
        rw [Bool.and_eq_true] at hc
        have h1 : v.cells.size = size := by have := Nat.eq_of_beq_eq_true hc.1; simpa using this
        have h2 : off + v.cells.size ≤ cells.size := by have := Nat.le_of_ble_eq_true hc.2; simpa using this
        rw [if_neg (by simp [h1]; omega)]
        have e := splice_fold off v.cells.toList cells (by simpa using h2)
        have e2 : v.cells.zipIdx.foldl (fun cs (x : Value × Nat) => cs.setIfInBounds (off + x.2) x.1) cells = ((v.cells.toList.zipIdx 0).foldl (fun cs (x : Value × Nat) => cs.setIfInBounds (off + x.2) x.1) cells) := by
          rw [← Array.foldl_toList, Array.toList_zipIdx]
        show Instr.fill place (v.cells.zipIdx.foldl (fun cs (x : Value × Nat) => cs.setIfInBounds (off + x.2) x.1) cells) ps = _
        rw [e2, e]
        exact fill_L hpl ps _ r (by simpa using h)

/-- A struct type's fields lie so, and its zero value is so. -/
def BuildOk (P : Program) (t : TypeId) (zero : List Value) (pl : List (Nat × Nat)) : Prop :=
  ∀ (parts : Array (Nat × Value)) (cells : Array Value) (w : World), Instr.fill (fun x => pl[x]?) (Value.agg zero.toArray).cells parts.toList = some cells → (Instr.build t parts).run P w = .ok (.agg cells) w

section
variable {P : Program} {T : Tab} {n : Nat} {ops : Array Oper} {Q : Exit → Act → World → Prop} {G : Env} {w : World} {K : Env → World → Prop}
  {d ty : Nat} {pos : String} {af : Array Edge} {g : Option (Nat × Bool)}
/-- A struct literal: the cells of what is put in are given. -/
theorem run_build {t : Nat} {ps : Array (Nat × Operand)} {vs : List Value} {css : List (List Value)} {zero cells : List Value} {pl : List (Nat × Nat)} (hb : BuildOk P t zero pl) (hv : Env.evs G (ps.toList.map (·.2)) = some vs) (hcs : vs.map (·.cells.toList) = css)
    (hf : fillL pl zero ((ps.toList.map (·.1)).zip css) = some cells) {a : Act} (ha : Models n a G) (w : World) : (execOp a.eval ⟨some d, .build t ps, ty, pos, af, g⟩).run P w = .ok (.value (.agg cells.toArray)) w := by
  have he := ha.evs hv
  have hparts : (ps.map fun (i, x) => (i, a.eval x)).toList = (ps.toList.map (·.1)).zip vs := by
    rw [← he]
    simp only [Array.toList_map, List.map_map]
    rw [List.zip_map']
    rfl
  have hfill : Instr.fill (fun x => pl[x]?) (Value.agg zero.toArray).cells (ps.map fun (i, x) => (i, a.eval x)).toList = some cells.toArray := by
    refine fill_L (pl := pl) (fun i => rfl) _ _ _ ?_
    rw [hparts]
    subst hcs
    have e : ((ps.toList.map (·.1)).zip vs).map (fun p => (p.1, p.2.cells.toList)) = (ps.toList.map (·.1)).zip (vs.map (·.cells.toList)) := by
      rw [List.zip_map_right]
      rfl
    rw [e]
    exact hf
  have := hb _ _ w hfill
  simp [execOp, this]
theorem o_build {t : Nat} {ps : Array (Nat × Operand)} {vs : List Value} {css : List (List Value)} {zero cells : List Value} {pl : List (Nat × Nat)} (hb : BuildOk P t zero pl) (hv : Env.evs G (ps.toList.map (·.2)) = some vs) (hcs : vs.map (·.cells.toList) = css)
    (hf : fillL pl zero ((ps.toList.map (·.1)).zip css) = some cells)
    (hg : gd ops G ⟨some d, .build t ps, ty, pos, af, g⟩ = some true) (hdn : Nat.blt d n = true) (h : K ((d, .agg cells.toArray) :: G) w) : OW P n ops Q G w ⟨some d, .build t ps, ty, pos, af, g⟩ K :=
  o_val hg rfl hdn (fun _ ha => run_build hb hv hcs hf ha w) h
end
end Rw
