/- Plain laws on types: which are right, by the program. No program in sight. -/
import Derived.Test.YtohfnpmehgpphaaPlainV
import Derived.Test.YtohfnpmehgpphaaMap
namespace Rw

abbrev St := List (Int × Bool)
def meetS (s : St) (n : Int) (row : Bool) : Bool × St := ((match getK s n with | none => true | some b => b == row), putK s n row)
def preR (op : Int) (row : Bool) (len : Nat) (name : ByteArray) (n : Int) : Bool := match kidsOf op with
  | none => false
  | some ks => (row == decide (8 ≤ op)) && (decide (len = ks.size) && headOk op name n)
def numB (op : Int) : Bool := decide (op = 7) || decide (op = 10)
def kidRow (op : Int) (i : Nat) : Bool := decide (op = 5) || (decide (op = 6) || (decide (op = 11) && decide ((i : Int) = 1)))
def runR : List (Bool → St → Bool × St) → (Nat → Bool) → Nat → St → Bool × St
  | [], _, _, s => (true, s)
  | f :: fs, g, i, s => bif (f (g i) s).1 then runR fs g (i + 1) (f (g i) s).2 else (false, (f (g i) s).2)
def rightF : Ty → Bool → St → Bool × St
  | .mk op name n l => fun row s => bif preR op row l.length name n then
      (bif (bif numB op then meetS s n row else (true, s)).1 then runR (l.map rightF) (kidRow op) 0 (bif numB op then meetS s n row else (true, s)).2 else (false, (bif numB op then meetS s n row else (true, s)).2)) else (false, s)
theorem rightF_eq (t : Ty) (row : Bool) (s : St) : rightF t row s = bif preR t.op row t.kids.length t.name t.n then
      (bif (bif numB t.op then meetS s t.n row else (true, s)).1 then runR (t.kids.map rightF) (kidRow t.op) 0 (bif numB t.op then meetS s t.n row else (true, s)).2 else (false, (bif numB t.op then meetS s t.n row else (true, s)).2)) else (false, s) := by
  cases t; rw [rightF]; rfl
theorem right_pre_no {t : Ty} {row : Bool} {s : St} (h : preR t.op row t.kids.length t.name t.n = false) : rightF t row s = (false, s) := by rw [rightF_eq, h]; rfl
theorem right_meet_no {t : Ty} {row : Bool} {s : St} (h : preR t.op row t.kids.length t.name t.n = true) (hn : numB t.op = true) (hm : (meetS s t.n row).1 = false) : rightF t row s = (false, (meetS s t.n row).2) := by
  rw [rightF_eq, h, hn]; simp [hm]
theorem right_meet_yes {t : Ty} {row : Bool} {s : St} (h : preR t.op row t.kids.length t.name t.n = true) (hn : numB t.op = true) (hm : (meetS s t.n row).1 = true) : rightF t row s = runR (t.kids.map rightF) (kidRow t.op) 0 (meetS s t.n row).2 := by
  rw [rightF_eq, h, hn]; simp [hm]
theorem right_plain {t : Ty} {row : Bool} {s : St} (h : preR t.op row t.kids.length t.name t.n = true) (hn : numB t.op = false) : rightF t row s = runR (t.kids.map rightF) (kidRow t.op) 0 s := by
  rw [rightF_eq, h, hn]; simp
theorem run_step {l : List Ty} {g : Nat → Bool} {i : Nat} {s : St} (hi : i < l.length) : runR ((l.drop i).map rightF) g i s = bif (rightF l[i] (g i) s).1 then runR ((l.drop (i + 1)).map rightF) g (i + 1) (rightF l[i] (g i) s).2 else (false, (rightF l[i] (g i) s).2) := by
  rw [List.drop_eq_getElem_cons hi, List.map_cons, runR]
theorem run_end {l : List Ty} {g : Nat → Bool} {i : Nat} {s : St} (hi : l.length ≤ i) : runR ((l.drop i).map rightF) g i s = (true, s) := by
  rw [List.drop_eq_nil_of_le hi]; rfl
end Rw
