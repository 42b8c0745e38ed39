/- Plain laws on types: which are right, by the document. No program in sight. -/
import Derived.Test.YtohfnpmehgpphaaPlainT
import Derived.Test.YtohfnpmehgpphaaPlainU
namespace Rw

def txE : ByteArray := ⟨#[]⟩
def txT : ByteArray := ⟨#[116]⟩
def txR : ByteArray := ⟨#[114]⟩
def txTT : ByteArray := ⟨#[116, 116]⟩
def txTR : ByteArray := ⟨#[116, 114]⟩
/-- Which kids an op has; none: it is none. -/
def kidsOf (op : Int) : Option ByteArray :=
  if op = 1 ∨ op = 2 ∨ op = 3 ∨ op = 7 ∨ op = 8 ∨ op = 9 ∨ op = 10 then some ⟨#[]⟩ else if op = 4 then some ⟨#[116, 116]⟩ else if op = 5 ∨ op = 6 then some ⟨#[114]⟩ else if op = 11 then some ⟨#[116, 114]⟩ else none

def all2 : List (UInt8 → Bool) → List UInt8 → Bool
  | f :: fs, c :: cs => f c && all2 fs cs
  | [], [] => true
  | _, _ => false
theorem all2_true : ∀ {fs : List (UInt8 → Bool)} {cs : List UInt8}, fs.length = cs.length → (∀ (j : Nat) f c, fs[j]? = some f → cs[j]? = some c → f c = true) → all2 fs cs = true
  | [], [], _, _ => rfl
  | f :: fs, c :: cs, h, k => by
    have h1 := k 0 f c rfl rfl
    have h2 := all2_true (fs := fs) (cs := cs) (by simpa using h) (fun j f c hf hc => k (j + 1) f c (by simpa using hf) (by simpa using hc))
    simp [all2, h1, h2]
  | [], _ :: _, h, _ => by simp at h
  | _ :: _, [], h, _ => by simp at h
theorem all2_false : ∀ {fs : List (UInt8 → Bool)} {cs : List UInt8} {j : Nat} {f : UInt8 → Bool} {c : UInt8}, fs[j]? = some f → cs[j]? = some c → f c = false → all2 fs cs = false
  | f :: fs, c :: cs, 0, _, _, hf, hc, h => by
    simp at hf hc; subst hf; subst hc
    simp [all2, h]
  | f :: fs, c :: cs, j + 1, _, _, hf, hc, h => by
    have := all2_false (fs := fs) (cs := cs) (j := j) (by simpa using hf) (by simpa using hc) h
    simp [all2, this]
  | [], _, _, _, _, hf, _, _ => by simp at hf
  | _ :: _, [], _, _, _, _, hc, _ => by simp at hc
theorem all2_len : ∀ {fs : List (UInt8 → Bool)} {cs : List UInt8}, fs.length ≠ cs.length → all2 fs cs = false
  | [], [], h => absurd rfl h
  | f :: fs, c :: cs, h => by
    have := all2_len (fs := fs) (cs := cs) (by simpa using h)
    simp [all2, this]
  | [], _ :: _, _ => rfl
  | _ :: _, [], _ => rfl

/-- A part's own: its name, its number. -/
def headOk (op : Int) (name : ByteArray) (n : Int) : Bool :=
  (if op = 11 then isWordB name else decide (name = ⟨#[]⟩)) && (decide (0 ≤ n) && (decide (op = 7) || (decide (op = 10) || decide (n = 0))))
/-- A type (t) or a row (r), its variables apart? -/
def shapeF : Ty → UInt8 → Bool
  | .mk op name n l => fun c => match kidsOf op with
    | none => false
    | some ks => (decide (8 ≤ op) == decide ((c.toNat : Int) = 114)) && (headOk op name n && all2 (l.map shapeF) ks.data.toList)
theorem shapeF_eq (t : Ty) (c : UInt8) : shapeF t c = match kidsOf t.op with
    | none => false
    | some ks => (decide (8 ≤ t.op) == decide ((c.toNat : Int) = 114)) && (headOk t.op t.name t.n && all2 (t.kids.map shapeF) ks.data.toList) := by
  cases t; rw [shapeF]; rfl
theorem shape_none {t : Ty} {c : UInt8} (h : kidsOf t.op = none) : shapeF t c = false := by rw [shapeF_eq, h]
theorem shape_some {t : Ty} {c : UInt8} {ks : ByteArray} (h : kidsOf t.op = some ks) : shapeF t c = ((decide (8 ≤ t.op) == decide ((c.toNat : Int) = 114)) && (headOk t.op t.name t.n && all2 (t.kids.map shapeF) ks.data.toList)) := by rw [shapeF_eq, h]
theorem shape_len {t : Ty} {c : UInt8} {ks : ByteArray} (h : kidsOf t.op = some ks) (hl : t.kids.length ≠ ks.size) : shapeF t c = false := by
  rw [shape_some h, all2_len (by simpa using hl)]; simp
theorem shape_sort {t : Ty} {c : UInt8} {ks : ByteArray} (h : kidsOf t.op = some ks) (hl : (decide (8 ≤ t.op) == decide ((c.toNat : Int) = 114)) = false) : shapeF t c = false := by
  rw [shape_some h, hl]; rfl
theorem shape_head {t : Ty} {c : UInt8} (hl : headOk t.op t.name t.n = false) : shapeF t c = false := by
  cases h : kidsOf t.op with
  | none => exact shape_none h
  | some ks => rw [shape_some h, hl]; simp
theorem shape_kid {t : Ty} {c d : UInt8} {ks : ByteArray} {i : Nat} (h : kidsOf t.op = some ks) (hi : i < t.kids.length) (hd : ks.data[i]? = some d) (hl : shapeF t.kids[i] d = false) : shapeF t c = false := by
  rw [shape_some h, all2_false (j := i) (f := shapeF t.kids[i]) (c := d) (by simp [hi]) (by simpa using hd) hl]; simp
theorem shape_yes {t : Ty} {c : UInt8} {ks : ByteArray} (h : kidsOf t.op = some ks) (hl : t.kids.length = ks.size) (h1 : (decide (8 ≤ t.op) == decide ((c.toNat : Int) = 114)) = true) (h2 : headOk t.op t.name t.n = true)
    (hall : ∀ (j : Nat) x d, t.kids[j]? = some x → ks.data[j]? = some d → shapeF x d = true) : shapeF t c = true := by
  rw [shape_some h, h1, h2, all2_true (by simpa using hl) (fun j f d hf hd => ?_)]
  · rfl
  · rw [List.getElem?_map] at hf
    cases hx : t.kids[j]? with
    | none => rw [hx] at hf; simp at hf
    | some x =>
      rw [hx] at hf
      simp at hf
      subst hf
      exact hall j x d hx (by simpa using hd)

/-- Is no number that of both sorts of variables? -/
def onceB (t : Ty) : Bool := (partsL t).all fun x => (partsL t).all fun y => !(decide (x.op = 7) && (decide (y.op = 10) && decide (x.n = y.n)))
theorem once_no {t : Ty} {i j : Nat} (hi : i < (partsL t).length) (hj : j < (partsL t).length) (h1 : (partsL t)[i].op = 7) (h2 : (partsL t)[j].op = 10) (h3 : (partsL t)[i].n = (partsL t)[j].n) : onceB t = false := by
  unfold onceB
  rw [List.all_eq_false]
  refine ⟨_, List.getElem_mem hi, ?_⟩
  have : (partsL t).all (fun y => !(decide ((partsL t)[i].op = 7) && (decide (y.op = 10) && decide ((partsL t)[i].n = y.n)))) = false := by
    rw [List.all_eq_false]
    exact ⟨_, List.getElem_mem hj, by simp [h1, h2, h3]⟩
  rw [this]; simp
theorem once_yes {t : Ty} (h : ∀ (a b : Nat) (x y : Ty), (partsL t)[a]? = some x → (partsL t)[b]? = some y → ¬ (x.op = 7 ∧ y.op = 10 ∧ x.n = y.n)) : onceB t = true := by
  unfold onceB
  rw [List.all_eq_true]
  intro x hx
  rw [List.all_eq_true]
  intro y hy
  obtain ⟨a, ha, rfl⟩ := List.getElem_of_mem hx
  obtain ⟨b, hb, rfl⟩ := List.getElem_of_mem hy
  have := h a b _ _ (List.getElem?_eq_getElem ha) (List.getElem?_eq_getElem hb)
  rw [Bool.not_eq_true', Bool.eq_false_iff]
  intro h0
  simp only [Bool.and_eq_true, decide_eq_true_eq] at h0
  exact absurd h0 this
theorem conf_row {l : List Ty} {i : Nat} (h : ∀ (a b : Nat) (x y : Ty), a < i → l[a]? = some x → l[b]? = some y → ¬ (x.op = 7 ∧ y.op = 10 ∧ x.n = y.n)) (hi : i < l.length)
    (hk : ∀ (b : Nat) (y : Ty), b < l.length → l[b]? = some y → ¬ (l[i].op = 7 ∧ y.op = 10 ∧ l[i].n = y.n)) : ∀ (a b : Nat) (x y : Ty), a < i + 1 → l[a]? = some x → l[b]? = some y → ¬ (x.op = 7 ∧ y.op = 10 ∧ x.n = y.n) := by
  intro a b x y ha hx hy
  by_cases e : a = i
  · subst e
    rw [List.getElem?_eq_getElem hi] at hx
    cases hx
    exact hk b y (List.getElem?_eq_some_iff.1 hy).1 hy
  · exact h a b x y (by omega) hx hy
theorem conf_step {l : List Ty} {x : Ty} {k : Nat} (h : ∀ (b : Nat) (y : Ty), b < k → l[b]? = some y → ¬ (x.op = 7 ∧ y.op = 10 ∧ x.n = y.n)) (hk : k < l.length) (e : ¬ (x.op = 7 ∧ l[k].op = 10 ∧ x.n = l[k].n)) :
    ∀ (b : Nat) (y : Ty), b < k + 1 → l[b]? = some y → ¬ (x.op = 7 ∧ y.op = 10 ∧ x.n = y.n) := by
  intro b y hb hy
  by_cases e' : b = k
  · subst e'
    rw [List.getElem?_eq_getElem hk] at hy
    cases hy; exact e
  · exact h b y (by omega) hy
def rightB (t : Ty) : Bool := shapeF t 116 && onceB t
def rowB (t : Ty) : Bool := shapeF t 114 && onceB t
end Rw
