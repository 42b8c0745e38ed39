/- Plain laws on expressions: which are right, how many nodes they have. No program in sight. -/
import Derived.Test.YtohfnpmehgpphaaTm
import Derived.Test.YtohfnpmehgpphaaPlainE
namespace Rw

/-! ## Nodes -/

def nodesL : Tm → List Tm
  | .mk o s g n b a l => .mk o s g n b a l :: l.flatMap nodesL
theorem nodesL_eq (t : Tm) : nodesL t = t :: t.kids.flatMap nodesL := by
  cases t; rw [nodesL]; rfl
def nsz (t : Tm) : Nat := (nodesL t).length
def nszs (l : List Tm) : Nat := (l.flatMap nodesL).length
theorem nsz_eq (t : Tm) : nsz t = nszs t.kids + 1 := by unfold nsz nszs; rw [nodesL_eq]; simp
theorem nszs_cons (t : Tm) (l : List Tm) : nszs (t :: l) = nsz t + nszs l := by simp [nszs, nsz]
theorem nszs_nil : nszs [] = 0 := rfl
theorem nszs_append (l r : List Tm) : nszs (l ++ r) = nszs l + nszs r := by simp [nszs]
theorem nsz_mem {t : Tm} : ∀ {l : List Tm}, t ∈ l → nsz t ≤ nszs l
  | x :: l, h => by
    rw [nszs_cons]
    rcases List.mem_cons.1 h with rfl | h
    · omega
    · have := nsz_mem h; omega
theorem nsz_get {l : List Tm} {i : Nat} (h : i < l.length) : nsz l[i] ≤ nszs l := nsz_mem (List.getElem_mem h)
theorem nsz_pos (t : Tm) : 0 < nsz t := by rw [nsz_eq]; omega
theorem len_nsz : ∀ l : List Tm, l.length ≤ nszs l
  | [] => Nat.zero_le _
  | t :: l => by have := len_nsz l; have := nsz_pos t; rw [nszs_cons, List.length_cons]; omega
theorem ntake_step {l : List Tm} {i : Nat} (h : i < l.length) : (l.take (i + 1)).flatMap nodesL = (l.take i).flatMap nodesL ++ nodesL l[i] := by
  rw [List.take_succ_eq_append_getElem h, List.flatMap_append]; simp
theorem take_nsz (l : List Tm) (i : Nat) : nszs (l.take i) ≤ nszs l := by
  have h := nszs_append (l.take i) (l.drop i)
  rw [List.take_append_drop] at h
  omega
theorem nszs_take {l : List Tm} {i : Nat} (hi : i < l.length) : nszs (l.take (i + 1)) = nszs (l.take i) + nsz l[i] := by
  rw [List.take_succ_eq_append_getElem hi, nszs_append, nszs_cons]; rfl
theorem kid_nsz {t k : Tm} (h : k ∈ t.kids) : nsz k < nsz t := by have := nsz_mem h; rw [nsz_eq t]; omega
/-- Parts of annotations. -/
def asz (t : Tm) : Nat := ((nodesL t).map fun x => psz x.ann).sum
/-- Its annotations are small. -/
def AnnS (t : Tm) : Prop := ∀ x ∈ nodesL t, psz x.ann ≤ 2000000
theorem AnnS.self {t : Tm} (h : AnnS t) : psz t.ann ≤ 2000000 := h t (by rw [nodesL_eq]; exact List.mem_cons_self)
theorem AnnS.kid {t k : Tm} (h : AnnS t) (hk : k ∈ t.kids) : AnnS k := fun x hx => h x (by rw [nodesL_eq]; exact List.mem_cons_of_mem _ (List.mem_flatMap.2 ⟨k, hk, hx⟩))

/-! ## Right, as the program has it -/

/-- Of an op: is there a name, an argument's name; how many kids (-1: a case's); an annotation (1 perhaps, 2 always); and whether there is such an op. -/
def shp (op : Int) : Bool × Bool × Int × Int × Bool :=
  if op = 32 then (true, false, 0, 0, true) else if op = 33 ∨ op = 34 ∨ op = 41 then (false, false, 0, 0, true) else if op = 35 then (false, true, 1, 1, true) else if op = 36 then (true, true, 1, 1, true)
  else if op = 37 then (false, false, 2, 0, true) else if op = 38 ∨ op = 42 ∨ op = 45 then (true, false, 2, 0, true) else if op = 39 then (false, false, 3, 0, true) else if op = 40 then (true, false, 2, 0, true)
  else if op = 43 ∨ op = 44 ∨ op = 46 ∨ op = 47 then (true, false, 1, 0, true) else if op = 48 then (false, false, -1, 0, true) else if op = 49 then (true, true, 1, 0, true) else if op = 50 then (false, true, 1, 0, true)
  else if op = 51 then (false, false, 1, 2, true) else (false, false, 0, 0, false)
def namedB (s : ByteArray) (should : Bool) : Bool := (decide (s = ⟨#[]⟩) && !should) || (should && isWordB s)
def blankB (t : Ty) : Bool := decide (t.op = 0) && (decide (t.name = ⟨#[]⟩) && (decide (t.n = 0) && decide (t.kids = [])))
def signB (s : ByteArray) : Bool := decide (s = ⟨#[43]⟩) || (decide (s = ⟨#[45]⟩) || (decide (s = ⟨#[42]⟩) || (decide (s = ⟨#[47]⟩) || (decide (s = ⟨#[37]⟩) || (decide (s = ⟨#[60]⟩) || decide (s = ⟨#[61, 61]⟩))))))
def numberB (op n : Int) : Bool := if op = 33 then decide (0 ≤ n) else if op = 34 then decide (n = 0) || decide (n = 1) else decide (n = 0)
def notedB (has : Bool) (a : Ty) (an : Int) : Bool := bif has then decide (0 < an) && (rightB a && decide (varsF a = [])) else decide (an < 2) && blankB a
def armB (op : Int) (last : Bool) : Bool := decide (op = 49) || (decide (op = 50) && last)
def armsB (op : Int) : Bool := decide (op = 49) || decide (op = 50)
def headT (t : Tm) (arms : Bool) : Bool := (shp t.op).2.2.2.2 && ((arms == armsB t.op) && (numberB t.op t.n && (notedB t.has t.ann (shp t.op).2.2.2.1 && (namedB t.arg (shp t.op).2.1 &&
  ((bif decide (t.op = 40) then signB t.name else namedB t.name (shp t.op).1) && (bif decide (0 ≤ (shp t.op).2.2.1) then decide ((t.kids.length : Int) = (shp t.op).2.2.1) else !decide (t.kids = [])))))))
def innerB (op : Int) (i : Nat) : Bool := decide (op = 48) && decide (0 < (i : Int))
def kidsT (op : Int) : Nat → List (Int × (Bool → Bool)) → Bool
  | _, [] => true
  | i, (o, g) :: r => (!innerB op i || armB o r.isEmpty) && (g (innerB op i) && kidsT op (i + 1) r)
/-- Is it an expression (or, where it may be, an arm)? -/
def rightT : Tm → Bool → Bool
  | .mk op name arg n has ann kids => fun arms => headT (.mk op name arg n has ann kids) arms && kidsT op 0 (kids.map fun k => (k.op, rightT k))
def kidL (l : List Tm) : List (Int × (Bool → Bool)) := l.map fun k => (k.op, rightT k)
theorem rightT_eq (t : Tm) (arms : Bool) : rightT t arms = (headT t arms && kidsT t.op 0 (kidL t.kids)) := by cases t; rw [rightT]; rfl
theorem kidsT_step {op : Int} {l : List Tm} {i : Nat} (hi : i < l.length) : kidsT op i (kidL (l.drop i)) = ((!innerB op i || armB l[i].op (decide (i + 1 = l.length))) && (rightT l[i] (innerB op i) && kidsT op (i + 1) (kidL (l.drop (i + 1))))) := by
  rw [List.drop_eq_getElem_cons hi]
  show kidsT op i ((l[i].op, rightT l[i]) :: kidL (l.drop (i + 1))) = _
  rw [kidsT]
  have e : (kidL (l.drop (i + 1))).isEmpty = decide (i + 1 = l.length) := by
    rw [Bool.eq_iff_iff, List.isEmpty_iff, decide_eq_true_eq]
    unfold kidL
    rw [List.map_eq_nil_iff, List.drop_eq_nil_iff]
    omega
  rw [e]
theorem kidsT_end {op : Int} {l : List Tm} {i : Nat} (hi : l.length ≤ i) : kidsT op i (kidL (l.drop i)) = true := by
  rw [List.drop_eq_nil_of_le hi]; rfl

/-! ## .. and as the document has it -/

def partsT : List ByteArray := [⟨#[110]⟩, ⟨#[105]⟩, ⟨#[98]⟩, ⟨#[97, 116, 101]⟩, ⟨#[110, 97, 116, 101]⟩, ⟨#[101, 101]⟩, ⟨#[110, 101, 101]⟩, ⟨#[101, 101, 101]⟩, ⟨#[111, 101, 101]⟩, ⟨#[46]⟩, ⟨#[110, 101, 101]⟩, ⟨#[110, 101]⟩, ⟨#[110, 101]⟩, ⟨#[110, 101, 101]⟩, ⟨#[110, 101]⟩, ⟨#[110, 101]⟩, ⟨#[99]⟩, ⟨#[110, 97, 101]⟩, ⟨#[97, 101]⟩, ⟨#[84, 101]⟩]
def partsS (op : Int) : ByteArray := if op < 32 ∨ 52 ≤ op then ⟨#[]⟩ else (partsT[(op - 32).toNat]?).getD ⟨#[]⟩
def hasB (s : ByteArray) (c : UInt8) : Bool := s.data.toList.any fun x => decide (x = c)
def countE (s : ByteArray) : Nat := (s.data.toList.filter fun x => decide (x = 101)).length
def partsB (t : Tm) (p : ByteArray) : Bool := (hasB p 111 == signB t.name) && ((hasB p 111 || ((hasB p 110 == isWordB t.name) && (hasB p 110 || decide (t.name = ⟨#[]⟩)))) && (((hasB p 97 == isWordB t.arg) && (hasB p 97 || decide (t.arg = ⟨#[]⟩))) &&
  ((decide (0 ≤ t.n) && (!decide (0 < t.n) || (hasB p 105 || (hasB p 98 && decide (t.n = 1))))) && (bif t.has then (hasB p 84 || hasB p 116) && (rightB t.ann && decide (varsF t.ann = [])) else !hasB p 84 && blankB t.ann))))
def armsL : List (Int × (Bool → Bool)) → Bool
  | [] => true
  | (o, g) :: r => g true && (!(decide (o = 50) && !r.isEmpty) && armsL r)
def caseL : List (Int × (Bool → Bool)) → Bool
  | [] => false
  | (_, g) :: r => g false && armsL r
def allL (l : List (Int × (Bool → Bool))) : Bool := l.all fun x => x.2 false
def refT : Tm → Bool → Bool
  | .mk op name arg n has ann kids => fun arm => !decide (partsS op = ⟨#[]⟩) && ((arm == armsB op) && (partsB (.mk op name arg n has ann kids) (partsS op) &&
    (bif decide (partsS op = ⟨#[99]⟩) then caseL (kids.map fun k => (k.op, refT k)) else decide (kids.length = countE (partsS op)) && allL (kids.map fun k => (k.op, refT k)))))
def refL (l : List Tm) : List (Int × (Bool → Bool)) := l.map fun k => (k.op, refT k)
theorem refT_eq (t : Tm) (arm : Bool) : refT t arm = (!decide (partsS t.op = ⟨#[]⟩) && ((arm == armsB t.op) && (partsB t (partsS t.op) &&
    (bif decide (partsS t.op = ⟨#[99]⟩) then caseL (refL t.kids) else decide (t.kids.length = countE (partsS t.op)) && allL (refL t.kids))))) := by cases t; rw [refT]; rfl

/-! ## They are one -/

theorem op_cases {op : Int} (h : ¬ (op < 32 ∨ 52 ≤ op)) : op = 32 ∨ op = 33 ∨ op = 34 ∨ op = 35 ∨ op = 36 ∨ op = 37 ∨ op = 38 ∨ op = 39 ∨ op = 40 ∨ op = 41 ∨ op = 42 ∨ op = 43 ∨ op = 44 ∨ op = 45 ∨ op = 46 ∨ op = 47 ∨ op = 48 ∨ op = 49 ∨ op = 50 ∨ op = 51 := by omega
theorem word_not_sign {s : ByteArray} (h : isWordB s = true) : signB s = false ∧ s ≠ ⟨#[]⟩ := by
  have key : ∀ x : ByteArray, isWordB x = false → s ≠ x := fun x hx e => by subst e; rw [h] at hx; cases hx
  have k1 := key ⟨#[43]⟩ (by decide)
  have k2 := key ⟨#[45]⟩ (by decide)
  have k3 := key ⟨#[42]⟩ (by decide)
  have k4 := key ⟨#[47]⟩ (by decide)
  have k5 := key ⟨#[37]⟩ (by decide)
  have k6 := key ⟨#[60]⟩ (by decide)
  have k7 := key ⟨#[61, 61]⟩ (by decide)
  exact ⟨by unfold signB; simp [k1, k2, k3, k4, k5, k6, k7], key ⟨#[]⟩ (by decide)⟩
/-- What the two say of a node of an op, but for its kids. -/
def nodeB (t : Tm) : Bool := numberB t.op t.n && (notedB t.has t.ann (shp t.op).2.2.2.1 && (namedB t.arg (shp t.op).2.1 && (bif decide (t.op = 40) then signB t.name else namedB t.name (shp t.op).1)))
theorem name_law (s : ByteArray) (nm : Bool) : ((false == signB s) && (false || ((nm == isWordB s) && (nm || decide (s = ⟨#[]⟩))))) = namedB s nm := by
  unfold namedB
  cases hw : isWordB s with
  | true =>
    obtain ⟨h1, h2⟩ := word_not_sign hw
    rw [h1, decide_eq_false h2]
    cases nm <;> rfl
  | false =>
    by_cases he : s = ⟨#[]⟩
    · subst he; cases nm <;> decide
    · rw [decide_eq_false he]; cases nm <;> simp
theorem arg_law (s : ByteArray) (ar : Bool) : ((ar == isWordB s) && (ar || decide (s = ⟨#[]⟩))) = namedB s ar := by
  unfold namedB
  cases hw : isWordB s with
  | true =>
    obtain ⟨h1, h2⟩ := word_not_sign hw
    rw [decide_eq_false h2]
    cases ar <;> rfl
  | false =>
    by_cases he : s = ⟨#[]⟩
    · subst he; cases ar <;> rfl
    · rw [decide_eq_false he]; cases ar <;> simp
theorem sign_law (s : ByteArray) : ((true == signB s) && (true || ((false == isWordB s) && (false || decide (s = ⟨#[]⟩))))) = signB s := by cases signB s <;> rfl
theorem num_law (n : Int) : (decide (0 ≤ n) && (!decide (0 < n) || (false || (false && decide (n = 1))))) = decide (n = 0) := by
  by_cases h : n = 0
  · subst h; rfl
  · rw [decide_eq_false h]
    by_cases h0 : 0 ≤ n
    · rw [decide_eq_true (show 0 < n by omega)]; simp
    · rw [decide_eq_false h0]; rfl
theorem num_law_i (n : Int) : (decide (0 ≤ n) && (!decide (0 < n) || (true || (false && decide (n = 1))))) = decide (0 ≤ n) := by simp
theorem num_law_b (n : Int) : (decide (0 ≤ n) && (!decide (0 < n) || (false || (true && decide (n = 1))))) = (decide (n = 0) || decide (n = 1)) := by
  rw [Bool.false_or, Bool.true_and, Bool.eq_iff_iff]
  simp only [Bool.and_eq_true, Bool.or_eq_true, decide_eq_true_eq, Bool.not_eq_true', decide_eq_false_iff_not]
  omega
theorem partsB_of {t : Tm} {p : ByteArray} {o n a i b T u : Bool} (h1 : hasB p 111 = o) (h2 : hasB p 110 = n) (h3 : hasB p 97 = a) (h4 : hasB p 105 = i) (h5 : hasB p 98 = b) (h6 : hasB p 84 = T) (h7 : hasB p 116 = u) :
    partsB t p = ((o == signB t.name) && ((o || ((n == isWordB t.name) && (n || decide (t.name = ⟨#[]⟩)))) && (((a == isWordB t.arg) && (a || decide (t.arg = ⟨#[]⟩))) &&
      ((decide (0 ≤ t.n) && (!decide (0 < t.n) || (i || (b && decide (t.n = 1))))) && (bif t.has then (T || u) && (rightB t.ann && decide (varsF t.ann = [])) else !T && blankB t.ann))))) := by
  unfold partsB; rw [h1, h2, h3, h4, h5, h6, h7]
theorem node_asm {A B C D E N E' C' AB' : Bool} (h1 : (A && B) = AB') (h2 : C = C') (h3 : D = N) (h4 : E = E') : (A && (B && (C && (D && E)))) = (N && (E' && (C' && AB'))) := by
  subst h1; subst h2; subst h3; subst h4
  cases A <;> cases B <;> cases C <;> cases D <;> cases E <;> rfl
/-- A node: as the document says, and as the program says. -/
theorem parts_node {t : Tm} (h : ¬ (t.op < 32 ∨ 52 ≤ t.op)) : partsB t (partsS t.op) = nodeB t := by
  have key : ∀ (o : Int), t.op = o → partsB t (partsS o) = nodeB t → partsB t (partsS t.op) = nodeB t := fun o e h => by rw [e]; exact h
  have hann : ∀ (hT ht : Bool) (an : Int), (an = 0 ∧ hT = false ∧ ht = false) ∨ (an = 1 ∧ hT = false ∧ ht = true) ∨ (an = 2 ∧ hT = true ∧ ht = false) →
      (bif t.has then (hT || ht) && (rightB t.ann && decide (varsF t.ann = [])) else !hT && blankB t.ann) = notedB t.has t.ann an := by
    intro hT ht an h
    unfold notedB
    rcases h with ⟨rfl, rfl, rfl⟩ | ⟨rfl, rfl, rfl⟩ | ⟨rfl, rfl, rfl⟩ <;> cases t.has <;> simp
  rcases op_cases h with e | e | e | e | e | e | e | e | e | e | e | e | e | e | e | e | e | e | e | e <;> rw [e] <;> unfold nodeB <;> rw [e]
  · exact (partsB_of (p := partsS 32) (o := false) (n := true) (a := false) (i := false) (b := false) (T := false) (u := false) (by decide) (by decide) (by decide) (by decide) (by decide) (by decide) (by decide)).trans (node_asm (name_law _ true) (arg_law _ false) (num_law _) (hann false false 0 (.inl ⟨rfl, rfl, rfl⟩)))
  · exact (partsB_of (p := partsS 33) (o := false) (n := false) (a := false) (i := true) (b := false) (T := false) (u := false) (by decide) (by decide) (by decide) (by decide) (by decide) (by decide) (by decide)).trans (node_asm (name_law _ false) (arg_law _ false) (num_law_i _) (hann false false 0 (.inl ⟨rfl, rfl, rfl⟩)))
  · exact (partsB_of (p := partsS 34) (o := false) (n := false) (a := false) (i := false) (b := true) (T := false) (u := false) (by decide) (by decide) (by decide) (by decide) (by decide) (by decide) (by decide)).trans (node_asm (name_law _ false) (arg_law _ false) (num_law_b _) (hann false false 0 (.inl ⟨rfl, rfl, rfl⟩)))
  · exact (partsB_of (p := partsS 35) (o := false) (n := false) (a := true) (i := false) (b := false) (T := false) (u := true) (by decide) (by decide) (by decide) (by decide) (by decide) (by decide) (by decide)).trans (node_asm (name_law _ false) (arg_law _ true) (num_law _) (hann false true 1 (.inr (.inl ⟨rfl, rfl, rfl⟩))))
  · exact (partsB_of (p := partsS 36) (o := false) (n := true) (a := true) (i := false) (b := false) (T := false) (u := true) (by decide) (by decide) (by decide) (by decide) (by decide) (by decide) (by decide)).trans (node_asm (name_law _ true) (arg_law _ true) (num_law _) (hann false true 1 (.inr (.inl ⟨rfl, rfl, rfl⟩))))
  · exact (partsB_of (p := partsS 37) (o := false) (n := false) (a := false) (i := false) (b := false) (T := false) (u := false) (by decide) (by decide) (by decide) (by decide) (by decide) (by decide) (by decide)).trans (node_asm (name_law _ false) (arg_law _ false) (num_law _) (hann false false 0 (.inl ⟨rfl, rfl, rfl⟩)))
  · exact (partsB_of (p := partsS 38) (o := false) (n := true) (a := false) (i := false) (b := false) (T := false) (u := false) (by decide) (by decide) (by decide) (by decide) (by decide) (by decide) (by decide)).trans (node_asm (name_law _ true) (arg_law _ false) (num_law _) (hann false false 0 (.inl ⟨rfl, rfl, rfl⟩)))
  · exact (partsB_of (p := partsS 39) (o := false) (n := false) (a := false) (i := false) (b := false) (T := false) (u := false) (by decide) (by decide) (by decide) (by decide) (by decide) (by decide) (by decide)).trans (node_asm (name_law _ false) (arg_law _ false) (num_law _) (hann false false 0 (.inl ⟨rfl, rfl, rfl⟩)))
  · exact (partsB_of (p := partsS 40) (o := true) (n := false) (a := false) (i := false) (b := false) (T := false) (u := false) (by decide) (by decide) (by decide) (by decide) (by decide) (by decide) (by decide)).trans (node_asm (sign_law _) (arg_law _ false) (num_law _) (hann false false 0 (.inl ⟨rfl, rfl, rfl⟩)))
  · exact (partsB_of (p := partsS 41) (o := false) (n := false) (a := false) (i := false) (b := false) (T := false) (u := false) (by decide) (by decide) (by decide) (by decide) (by decide) (by decide) (by decide)).trans (node_asm (name_law _ false) (arg_law _ false) (num_law _) (hann false false 0 (.inl ⟨rfl, rfl, rfl⟩)))
  · exact (partsB_of (p := partsS 42) (o := false) (n := true) (a := false) (i := false) (b := false) (T := false) (u := false) (by decide) (by decide) (by decide) (by decide) (by decide) (by decide) (by decide)).trans (node_asm (name_law _ true) (arg_law _ false) (num_law _) (hann false false 0 (.inl ⟨rfl, rfl, rfl⟩)))
  · exact (partsB_of (p := partsS 43) (o := false) (n := true) (a := false) (i := false) (b := false) (T := false) (u := false) (by decide) (by decide) (by decide) (by decide) (by decide) (by decide) (by decide)).trans (node_asm (name_law _ true) (arg_law _ false) (num_law _) (hann false false 0 (.inl ⟨rfl, rfl, rfl⟩)))
  · exact (partsB_of (p := partsS 44) (o := false) (n := true) (a := false) (i := false) (b := false) (T := false) (u := false) (by decide) (by decide) (by decide) (by decide) (by decide) (by decide) (by decide)).trans (node_asm (name_law _ true) (arg_law _ false) (num_law _) (hann false false 0 (.inl ⟨rfl, rfl, rfl⟩)))
  · exact (partsB_of (p := partsS 45) (o := false) (n := true) (a := false) (i := false) (b := false) (T := false) (u := false) (by decide) (by decide) (by decide) (by decide) (by decide) (by decide) (by decide)).trans (node_asm (name_law _ true) (arg_law _ false) (num_law _) (hann false false 0 (.inl ⟨rfl, rfl, rfl⟩)))
  · exact (partsB_of (p := partsS 46) (o := false) (n := true) (a := false) (i := false) (b := false) (T := false) (u := false) (by decide) (by decide) (by decide) (by decide) (by decide) (by decide) (by decide)).trans (node_asm (name_law _ true) (arg_law _ false) (num_law _) (hann false false 0 (.inl ⟨rfl, rfl, rfl⟩)))
  · exact (partsB_of (p := partsS 47) (o := false) (n := true) (a := false) (i := false) (b := false) (T := false) (u := false) (by decide) (by decide) (by decide) (by decide) (by decide) (by decide) (by decide)).trans (node_asm (name_law _ true) (arg_law _ false) (num_law _) (hann false false 0 (.inl ⟨rfl, rfl, rfl⟩)))
  · exact (partsB_of (p := partsS 48) (o := false) (n := false) (a := false) (i := false) (b := false) (T := false) (u := false) (by decide) (by decide) (by decide) (by decide) (by decide) (by decide) (by decide)).trans (node_asm (name_law _ false) (arg_law _ false) (num_law _) (hann false false 0 (.inl ⟨rfl, rfl, rfl⟩)))
  · exact (partsB_of (p := partsS 49) (o := false) (n := true) (a := true) (i := false) (b := false) (T := false) (u := false) (by decide) (by decide) (by decide) (by decide) (by decide) (by decide) (by decide)).trans (node_asm (name_law _ true) (arg_law _ true) (num_law _) (hann false false 0 (.inl ⟨rfl, rfl, rfl⟩)))
  · exact (partsB_of (p := partsS 50) (o := false) (n := false) (a := true) (i := false) (b := false) (T := false) (u := false) (by decide) (by decide) (by decide) (by decide) (by decide) (by decide) (by decide)).trans (node_asm (name_law _ false) (arg_law _ true) (num_law _) (hann false false 0 (.inl ⟨rfl, rfl, rfl⟩)))
  · exact (partsB_of (p := partsS 51) (o := false) (n := false) (a := false) (i := false) (b := false) (T := true) (u := false) (by decide) (by decide) (by decide) (by decide) (by decide) (by decide) (by decide)).trans (node_asm (name_law _ false) (arg_law _ false) (num_law _) (hann true false 2 (.inr (.inr ⟨rfl, rfl, rfl⟩))))
end Rw
