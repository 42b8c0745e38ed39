/- Plain laws on what is put in the place of variables. No program in sight. -/
import Derived.Test.YtohfnpmehgpphaaPlainX
namespace Rw

/-- With s in the place of the variables of one op and number. -/
def putF (op n : Int) (s : Ty) : Ty → Ty
  | .mk o nm m l => bif decide (m = n) && decide (o = op) then s else .mk o nm m (l.map (putF op n s))
theorem putF_eq (op n : Int) (s t : Ty) : putF op n s t = bif decide (t.n = n) && decide (t.op = op) then s else .mk t.op t.name t.n (t.kids.map (putF op n s)) := by
  cases t; rw [putF]; rfl
theorem put_hit {op n : Int} {s t : Ty} (h1 : t.n = n) (h2 : t.op = op) : putF op n s t = s := by rw [putF_eq, h1, h2]; simp
theorem put_no {op n : Int} {s t : Ty} (h : ¬ (t.n = n ∧ t.op = op)) : putF op n s t = .mk t.op t.name t.n (t.kids.map (putF op n s)) := by
  rw [putF_eq]
  have : (decide (t.n = n) && decide (t.op = op)) = false := by
    cases e : (decide (t.n = n) && decide (t.op = op)) with
    | false => rfl
    | true => rw [Bool.and_eq_true, decide_eq_true_eq, decide_eq_true_eq] at e; exact absurd e h
  rw [this]; rfl
/-- The op of a variable of a sort. -/
def varOp (row : Bool) : Int := if row then 10 else 7
/-- Put: of what is right. -/
def PutF (t : Ty) (n : Int) (s : Ty) : Ty := bif (rightB t || rowB t) && (rightB s || rowB s) then putF (varOp (rowB s)) n s t else t
end Rw
