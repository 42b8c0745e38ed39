/- Plain laws on instances of places. No program in sight. -/
import Derived.Test.YtohfnpmehgpphaaPlainO
import Derived.Test.YtohfnpmehgpphaaBnd
namespace Rw
open Go

/-- A binding of a place's variable? -/
def bindM (p : Pl) (b : Bnd) : Bool := decide (¬ p.var < 0) && decide (b.n = p.var)
def wadd (a b : Int) : Int := IntKind.i64.wrap (a + b)
/-- A place's instance; none: its name or the row isn't right. -/
def instF (bs : List Bnd) (p : Pl) : Option Pl := match bs.find? (bindM p) with
  | none => some p
  | some b => bif rowB b.to && isWordB p.name then some ⟨wadd (atP (flatF b.to).1 (flatF b.to).2 p.name).base p.base, (atP (flatF b.to).1 (flatF b.to).2 p.name).var, (atP (flatF b.to).1 (flatF b.to).2 p.name).name⟩ else none
theorem findB_at {p : Pl} : ∀ {l : List Bnd} {i : Nat} (hi : i < l.length), bindM p l[i] = true → (∀ (k : Nat) (x : Bnd), k < i → l[k]? = some x → bindM p x = false) → l.find? (bindM p) = some l[i]
  | x :: l, 0, _, h, _ => by simp only [List.getElem_cons_zero] at h ⊢; rw [List.find?_cons, h]
  | x :: l, i + 1, hi, h, hn => by
    have h0 := hn 0 x (by omega) rfl
    rw [List.find?_cons, h0]
    exact findB_at (l := l) (i := i) (by simpa using hi) (by simpa using h) (fun k y hk hy => hn (k + 1) y (by omega) (by simpa using hy))
theorem findB_none {p : Pl} {l : List Bnd} (hn : ∀ (k : Nat) (x : Bnd), k < l.length → l[k]? = some x → bindM p x = false) : l.find? (bindM p) = none := by
  rw [List.find?_eq_none]
  intro x hx
  obtain ⟨k, hk, rfl⟩ := List.getElem_of_mem hx
  rw [hn k _ hk (List.getElem?_eq_getElem hk)]; simp
theorem bindM_step {p : Pl} {l : List Bnd} {i : Nat} (hi : i < l.length) (h : ∀ (k : Nat) (x : Bnd), k < i → l[k]? = some x → bindM p x = false) (hx : bindM p l[i] = false) : ∀ (k : Nat) (x : Bnd), k < i + 1 → l[k]? = some x → bindM p x = false := fun k x hk hkx => by
  by_cases e : k = i
  · subst e; rw [List.getElem?_eq_getElem hi] at hkx; cases hkx; exact hx
  · exact h k x (by omega) hkx
theorem instF_none {bs : List Bnd} {p : Pl} (hn : ∀ (k : Nat) (x : Bnd), k < bs.length → bs[k]? = some x → bindM p x = false) : instF bs p = some p := by rw [instF, findB_none hn]
theorem instF_bad {bs : List Bnd} {p : Pl} {i : Nat} (hi : i < bs.length) (h : bindM p bs[i] = true) (hn : ∀ (k : Nat) (x : Bnd), k < i → bs[k]? = some x → bindM p x = false) (hb : (rowB bs[i].to && isWordB p.name) = false) : instF bs p = none := by rw [instF, findB_at hi h hn]; simp only [hb, cond_false]
theorem instF_good {bs : List Bnd} {p : Pl} {i : Nat} (hi : i < bs.length) (h : bindM p bs[i] = true) (hn : ∀ (k : Nat) (x : Bnd), k < i → bs[k]? = some x → bindM p x = false) (hb : (rowB bs[i].to && isWordB p.name) = true) : instF bs p = some ⟨wadd (atP (flatF bs[i].to).1 (flatF bs[i].to).2 p.name).base p.base, (atP (flatF bs[i].to).1 (flatF bs[i].to).2 p.name).var, (atP (flatF bs[i].to).1 (flatF bs[i].to).2 p.name).name⟩ := by rw [instF, findB_at hi h hn]; simp only [hb, cond_true]
/-- The instances of places, one for each. -/
def Ins (bs : List Bnd) (l k : List Pl) : Prop := l.map (instF bs) = k.map some
theorem Ins.nil (bs : List Bnd) : Ins bs [] [] := rfl
theorem Ins.snoc {bs : List Bnd} {l k : List Pl} {i : Nat} (hi : i < l.length) (h : Ins bs (l.take i) k) {q : Pl} (hq : instF bs l[i] = some q) : Ins bs (l.take (i + 1)) (k ++ [q]) := by
  unfold Ins at *
  rw [List.take_succ_eq_append_getElem hi, List.map_append, List.map_append, h, List.map_cons, hq]; rfl
theorem Ins.len {bs : List Bnd} {l k : List Pl} (h : Ins bs l k) : k.length = l.length := by
  have := congrArg List.length h
  simpa using this.symm
theorem Ins.uniq {bs : List Bnd} {l k m : List Pl} (h : Ins bs l k) (g : Ins bs l m) : k = m := by
  have e : k.map some = m.map some := h.symm.trans g
  exact List.map_inj_right (fun x y e => by cases e; rfl) |>.1 e
/-- The first place that has none. -/
def InsE (bs : List Bnd) (l : List Pl) : Prop := ∃ (i : Nat) (hi : i < l.length), instF bs l[i] = none
theorem InsE.no {bs : List Bnd} {l k : List Pl} (h : InsE bs l) (g : Ins bs l k) : False := by
  obtain ⟨i, hi, e⟩ := h
  have h1 : (l.map (instF bs))[i]? = some none := by rw [List.getElem?_map, List.getElem?_eq_getElem hi]; simp [e]
  rw [show l.map (instF bs) = k.map some from g, List.getElem?_map] at h1
  cases h2 : k[i]? <;> simp [h2] at h1
theorem set_step {l k : List Pl} {i : Nat} (hi : i < l.length) (hk : k.length = i) (q : Pl) : (k ++ l.drop i).set i q = (k ++ [q]) ++ l.drop (i + 1) := by
  subst hk
  rw [List.set_append_right _ _ (Nat.le_refl _), Nat.sub_self, show l.drop k.length = l[k.length] :: l.drop (k.length + 1) from List.drop_eq_getElem_cons hi, List.set_cons_zero, List.append_assoc]; rfl
theorem keep_step {l k : List Pl} {i : Nat} (hi : i < l.length) : k ++ l.drop i = (k ++ [l[i]]) ++ l.drop (i + 1) := by
  rw [List.drop_eq_getElem_cons hi]; simp
theorem get_step {l k : List Pl} {i : Nat} (hi : i < l.length) (hk : k.length = i) : (k ++ l.drop i)[i]? = some l[i] := by
  subst hk
  rw [List.getElem?_append_right (Nat.le_refl _), Nat.sub_self, List.drop_eq_getElem_cons hi]; rfl
theorem wrap_I64 (n : Int) : I64 (IntKind.i64.wrap n) := by
  rw [IntKind.wrap_i64]
  constructor <;> omega
theorem wadd_near {a b : Int} (ha : 0 ≤ a ∧ a ≤ 2000000) (hb : Near b) : wadd a b = a + b := by
  unfold Near at hb
  exact IntWalk.i64_in _ ⟨by omega, by omega⟩
theorem atP_base {t : Ty} {name : ByteArray} (hsz : psz t ≤ 2000000) : 0 ≤ (atP (flatF t).1 (flatF t).2 name).base ∧ (atP (flatF t).1 (flatF t).2 name).base ≤ 2000000 := by
  have h1 := flatF_len t
  have h2 := atBase_le (flatF t).1 name
  exact ⟨by show 0 ≤ ((atBase (flatF t).1 name : Nat) : Int); omega, by show ((atBase (flatF t).1 name : Nat) : Int) ≤ _; omega⟩
/-- The program and the document come to the same. -/
theorem inst_meet {bs : List Bnd} {l k want : List Pl} {c code : Int} {i : Nat} (hres : (c = 0 ∧ Ins bs l k) ∨ (c = 1 ∧ k = [] ∧ InsE bs l)) (hst : (code = 0 ∧ Ins bs (l.take i) want) ∨ (code = 1 ∧ InsE bs l)) (hex : i = l.length ∨ code ≠ 0) :
    c = code ∧ (code ≠ 0 → k = []) ∧ (code = 0 → k = want) := by
  rcases hst with ⟨h0, h1⟩ | ⟨h0, h1⟩
  · have hi : i = l.length := by rcases hex with h | h; exact h; exact absurd h0 h
    subst hi
    rw [List.take_of_length_le (Nat.le_refl _)] at h1
    rcases hres with ⟨g0, g1⟩ | ⟨g0, g1, g2⟩
    · exact ⟨by omega, fun h => absurd h0 h, fun _ => g1.uniq h1⟩
    · exact (g2.no h1).elim
  · rcases hres with ⟨g0, g1⟩ | ⟨g0, g1, g2⟩
    · exact (h1.no g1).elim
    · exact ⟨by omega, fun _ => g1, fun h => by omega⟩
end Rw
