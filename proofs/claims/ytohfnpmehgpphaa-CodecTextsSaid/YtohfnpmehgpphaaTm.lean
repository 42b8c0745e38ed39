/- The language's expressions as data, and which values read as them. No program in sight. -/
import Derived.Test.YtohfnpmehgpphaaTy
import Derived.Test.YtohfnpmehgpphaaMem
namespace Rw
open Go Go.RowKit

/-- A part of a variable, from its midst. -/
theorem mid_get {cs sub : List Value} {k j : Nat} {v : Value} (hs : (cs.drop k).take sub.length = sub) (hv : sub[j]? = some v) : cs[k + j]? = some v := by
  have hj := (List.getElem?_eq_some_iff.1 hv).1
  rw [← hs, List.getElem?_take_of_lt hj, List.getElem?_drop] at hv
  exact hv
theorem At.mid {M : Nat → Prop} {w : World} {b off : Nat} {cs sub : List Value} (h : At M w b off cs) (k : Nat) (hs : (cs.drop k).take sub.length = sub) (j : Nat) (v : Value) (hv : sub[j]? = some v) : w.cell? ⟨b, off + k + j, none⟩ = some v := by
  have := h.cell (k + j) v (mid_get hs hv)
  rwa [← Nat.add_assoc] at this
theorem Box.mid {w : World} {b t : Nat} {cs sub : List Value} (h : Box w b t cs) (k : Nat) (hs : (cs.drop k).take sub.length = sub) (j : Nat) (v : Value) (hv : sub[j]? = some v) : w.cell? ⟨b, 0 + k + j, none⟩ = some v := by
  have := h.cell (k + j) v (mid_get hs hv)
  rwa [← Nat.add_assoc] at this
theorem OAt.mid {w : World} {b off : Nat} {cs sub : List Value} (h : OAt w b off cs) (k : Nat) (hs : (cs.drop k).take sub.length = sub) (j : Nat) (v : Value) (hv : sub[j]? = some v) : w.cell? ⟨b, off + k + j, none⟩ = some v := by
  have := h.cell (k + j) v (mid_get hs hv)
  rwa [← Nat.add_assoc] at this

/-- An expression: an op, a name, an argument's name, a number, whether it has an annotation, the annotation, kids. -/
inductive Tm where
  | mk (op : Int) (name arg : ByteArray) (n : Int) (has : Bool) (ann : Ty) (kids : List Tm)
namespace Tm
def op : Tm → Int | mk o _ _ _ _ _ _ => o
def name : Tm → ByteArray | mk _ s _ _ _ _ _ => s
def arg : Tm → ByteArray | mk _ _ s _ _ _ _ => s
def n : Tm → Int | mk _ _ _ n _ _ _ => n
def has : Tm → Bool | mk _ _ _ _ b _ _ => b
def ann : Tm → Ty | mk _ _ _ _ _ a _ => a
def kids : Tm → List Tm | mk _ _ _ _ _ _ l => l
end Tm
theorem tm_eta (t : Tm) : t = .mk t.op t.name t.arg t.n t.has t.ann t.kids := by cases t; rfl
theorem Tm.ext' : ∀ {a b : Tm}, a.op = b.op → a.name = b.name → a.arg = b.arg → a.n = b.n → a.has = b.has → a.ann = b.ann → a.kids = b.kids → a = b
  | .mk _ _ _ _ _ _ _, .mk _ _ _ _ _ _ _, h1, h2, h3, h4, h5, h6, h7 => by
    simp only [Tm.op, Tm.name, Tm.arg, Tm.n, Tm.has, Tm.ann, Tm.kids] at h1 h2 h3 h4 h5 h6 h7
    subst h1; subst h2; subst h3; subst h4; subst h5; subst h6; subst h7; rfl

theorem Tm.ind {p : Tm → Prop} (h : ∀ t, (∀ k ∈ t.kids, p k) → p t) (t : Tm) : p t := by
  generalize e : sizeOf t = n
  induction n using Nat.strongRecOn generalizing t with
  | ind n ih =>
    refine h t fun k hk => ih (sizeOf k) ?_ k rfl
    cases t with
    | mk o s g m b a l =>
      have h1 : sizeOf k < sizeOf l := List.sizeOf_lt_of_mem hk
      rw [← e, Tm.mk.sizeOf_spec]
      omega

/-- A node's cells. -/
def tmC (op : Int) (name arg : ByteArray) (n : Int) (has : Bool) (ann : Ty) (akv kv : Value) : Array Value :=
  #[.int .u8 op, .string name, .string arg, .int .i64 n, .bool has, .int .u8 ann.op, .string ann.name, .int .i64 ann.n, akv, kv]

/-- The value reads as the expression. -/
inductive TmR (M : Nat → Prop) (w : World) : Tm → Value → Prop
  | mk {op n : Int} {name arg : ByteArray} {has : Bool} {ann : Ty} {kids : List Tm} {a : Option Addr} {cap : Nat} {akv : Value} (b off : Nat) (u : Nat → Value) (hop : 0 ≤ op ∧ op ≤ 255) (hs : name.size < 140737488355328) (hg : arg.size < 140737488355328) (hn : I64 n)
      (hann : TyR M w ann (.agg #[.int .u8 ann.op, .string ann.name, .int .i64 ann.n, akv])) (hl : kids.length < 140737488355328) (hc : kids.length ≤ cap)
      (ha : kids = [] ∨ a = some ⟨b, off, none⟩) (hu : ∀ (i : Nat) (x : Tm), kids[i]? = some x → TmR M w x (u i)) (hA : ∀ (i : Nat) (x : Tm), kids[i]? = some x → At M w b (off + i * 10) (u i).cells.toList) :
      TmR M w (.mk op name arg n has ann kids) (.agg #[.int .u8 op, .string name, .string arg, .int .i64 n, .bool has, .int .u8 ann.op, .string ann.name, .int .i64 ann.n, akv, .slice a kids.length cap])

theorem TmR.map {M M' : Nat → Prop} {w w' : World} (hat : ∀ {b off : Nat} {cs : List Value}, At M w b off cs → At M' w' b off cs) : ∀ (t : Tm) (v : Value), TmR M w t v → TmR M' w' t v := by
  intro t v h
  induction h with
  | mk b off u hop hs hg hn hann hl hc ha hu hA ih => exact .mk b off u hop hs hg hn (hann.map hat _ _) hl hc ha ih (fun i x hx => hat (hA i x hx))

instance : Rep Tm where
  sz := 10
  R := fun M w v t => TmR M w t v
  pos := by decide
  size := by
    intro M w v x h
    cases h; rfl
  one := by
    intro M w v x h u hu
    cases h with
    | mk b off u' hop hs hg hn hann =>
      have h4 : ∀ y ∈ (Value.agg #[.int .u8 _, .string _, .int .i64 _, _]).cells.toList, y.oneCell' = true := Rep.one (α := Ty) (M := M) (w := w) hann
      simp [Value.cells] at hu h4
      rcases hu with rfl | rfl | rfl | rfl | rfl | rfl | rfl | rfl | rfl | rfl <;> first | rfl | exact h4.2.2.2
  upd := fun h e => TmR.map (fun hA => hA.upd e) _ _ h
  wk := fun h e => TmR.map (fun hA => hA.wk e) _ _ h

/-- What a value that reads as an expression is. -/
theorem tm_open {M : Nat → Prop} {w : World} {v : Value} {t : Tm} (h : Rep.R M w v t) :
    ∃ akv kv, v = .agg #[.int .u8 t.op, .string t.name, .string t.arg, .int .i64 t.n, .bool t.has, .int .u8 t.ann.op, .string t.ann.name, .int .i64 t.ann.n, akv, kv] ∧ (0 ≤ t.op ∧ t.op ≤ 255) ∧ t.name.size < 140737488355328 ∧ t.arg.size < 140737488355328 ∧ I64 t.n ∧
      Rep.R M w (.agg #[.int .u8 t.ann.op, .string t.ann.name, .int .i64 t.ann.n, akv]) t.ann ∧ Sl M w kv t.kids := by
  have h' : TmR M w t v := h
  cases h' with
  | mk b off u hop hs hg hn hann hl hc ha hu hA =>
    refine ⟨_, _, rfl, hop, hs, hg, hn, hann, _, _, rfl, hl, hc, ?_⟩
    rcases ha with ha | ha
    · exact .inl ha
    · exact .inr ⟨b, off, ha, fun i x hx => ⟨u i, hu i x hx, hA i x hx⟩⟩
theorem tm_mk {M : Nat → Prop} {w : World} {akv kv : Value} {op n : Int} {name arg : ByteArray} {has : Bool} {ann : Ty} {kids : List Tm} (h1 : 0 ≤ op ∧ op ≤ 255) (h2 : name.size < 140737488355328) (h2g : arg.size < 140737488355328) (h3 : I64 n)
    (ha : Rep.R M w (.agg #[.int .u8 ann.op, .string ann.name, .int .i64 ann.n, akv]) ann) (hk : Sl M w kv kids) :
    Rep.R M w (.agg #[.int .u8 op, .string name, .string arg, .int .i64 n, .bool has, .int .u8 ann.op, .string ann.name, .int .i64 ann.n, akv, kv]) (Tm.mk op name arg n has ann kids) := by
  show TmR M w _ _
  obtain ⟨a, cap, rfl, h4, h5, h6⟩ := hk
  rcases h6 with h6 | ⟨b, off, haa, h6⟩
  · subst h6
    exact .mk 0 0 (fun _ => .nilFunc) h1 h2 h2g h3 ha h4 h5 (.inl rfl) (fun i x hx => by simp at hx) (fun i x hx => by simp at hx)
  · have h7 : ∀ i : Nat, ∃ u : Value, ∀ x : Tm, kids[i]? = some x → Rep.R M w u x ∧ At M w b (off + i * 10) u.cells.toList := by
      intro i
      cases hi : kids[i]? with
      | none => exact ⟨.nilFunc, fun x hx => by cases hx⟩
      | some y =>
        obtain ⟨u, hu, hA⟩ := h6 i y hi
        exact ⟨u, fun x hx => by cases hx; exact ⟨hu, hA⟩⟩
    obtain ⟨u, hu⟩ := Classical.axiomOfChoice h7
    exact .mk b off u h1 h2 h2g h3 ha h4 h5 (.inr haa) (fun i x hx => (hu i x hx).1) (fun i x hx => (hu i x hx).2)
end Rw
