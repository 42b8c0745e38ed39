/- The language's types as data, and which values read as them. No program in sight. -/
import Derived.Test.YtohfnpmehgpphaaMem
namespace Rw
open Go Go.RowKit

/-- A tree: an op, a name, a number, kids. -/
inductive Ty where
  | mk (op : Int) (name : ByteArray) (n : Int) (kids : List Ty)
namespace Ty
def op : Ty → Int | mk o _ _ _ => o
def name : Ty → ByteArray | mk _ s _ _ => s
def n : Ty → Int | mk _ _ n _ => n
def kids : Ty → List Ty | mk _ _ _ l => l
end Ty
theorem Ty.ext' : ∀ {a b : Ty}, a.op = b.op → a.name = b.name → a.n = b.n → a.kids = b.kids → a = b
  | .mk _ _ _ _, .mk _ _ _ _, h1, h2, h3, h4 => by
    simp only [Ty.op, Ty.name, Ty.n, Ty.kids] at h1 h2 h3 h4
    subst h1; subst h2; subst h3; subst h4; rfl

theorem Ty.ind {p : Ty → Prop} (h : ∀ t, (∀ k ∈ t.kids, p k) → p t) (t : Ty) : p t := by
  generalize e : sizeOf t = n
  induction n using Nat.strongRecOn generalizing t with
  | ind n ih =>
    refine h t fun k hk => ih (sizeOf k) ?_ k rfl
    cases t with
    | mk o s m l =>
      have h1 : sizeOf k < sizeOf l := List.sizeOf_lt_of_mem hk
      rw [← e, Ty.mk.sizeOf_spec]
      omega

/-- The value reads as the tree. -/
inductive TyR (M : Nat → Prop) (w : World) : Ty → Value → Prop
  | mk {op n : Int} {name : ByteArray} {kids : List Ty} {a : Option Addr} {cap : Nat} (b off : Nat) (u : Nat → Value) (hop : 0 ≤ op ∧ op ≤ 255) (hs : name.size < 140737488355328) (hn : I64 n) (hl : kids.length < 140737488355328) (hc : kids.length ≤ cap)
      (ha : kids = [] ∨ a = some ⟨b, off, none⟩) (hu : ∀ (i : Nat) (x : Ty), kids[i]? = some x → TyR M w x (u i)) (hA : ∀ (i : Nat) (x : Ty), kids[i]? = some x → At M w b (off + i * 4) (u i).cells.toList) :
      TyR M w (.mk op name n kids) (.agg #[.int .u8 op, .string name, .int .i64 n, .slice a kids.length cap])

theorem TyR.map {M M' : Nat → Prop} {w w' : World} (hat : ∀ {b off : Nat} {cs : List Value}, At M w b off cs → At M' w' b off cs) : ∀ (t : Ty) (v : Value), TyR M w t v → TyR M' w' t v := by
  intro t v h
  induction h with
  | mk b off u hop hs hn hl hc ha hu hA ih => exact .mk b off u hop hs hn hl hc ha ih (fun i x hx => hat (hA i x hx))

instance : Rep Ty where
  sz := 4
  R := fun M w v t => TyR M w t v
  pos := by decide
  size := by
    intro M w v x h
    cases h; rfl
  one := by
    intro M w v x h u hu
    cases h
    simp [Value.cells] at hu
    rcases hu with rfl | rfl | rfl | rfl <;> rfl
  upd := fun h e => TyR.map (fun hA => hA.upd e) _ _ h
  wk := fun h e => TyR.map (fun hA => hA.wk e) _ _ h

/-- What a value that reads as a tree is. -/
theorem ty_open {M : Nat → Prop} {w : World} {v : Value} {t : Ty} (h : Rep.R M w v t) :
    ∃ kv, v = .agg #[.int .u8 t.op, .string t.name, .int .i64 t.n, kv] ∧ (0 ≤ t.op ∧ t.op ≤ 255) ∧ t.name.size < 140737488355328 ∧ I64 t.n ∧ Sl M w kv t.kids := by
  have h' : TyR M w t v := h
  cases h' with
  | mk b off u hop hs hn hl hc ha hu hA =>
    refine ⟨_, rfl, hop, hs, hn, _, _, rfl, hl, hc, ?_⟩
    rcases ha with ha | ha
    · exact .inl ha
    · exact .inr ⟨b, off, ha, fun i x hx => ⟨u i, hu i x hx, hA i x hx⟩⟩
theorem ty_mk {M : Nat → Prop} {w : World} {kv : Value} {op n : Int} {name : ByteArray} {kids : List Ty} (h1 : 0 ≤ op ∧ op ≤ 255) (h2 : name.size < 140737488355328) (h3 : I64 n) (hk : Sl M w kv kids) :
    Rep.R M w (.agg #[.int .u8 op, .string name, .int .i64 n, kv]) (Ty.mk op name n kids) := by
  show TyR M w _ _
  obtain ⟨a, cap, rfl, h4, h5, h6⟩ := hk
  rcases h6 with h6 | ⟨b, off, ha, h6⟩
  · subst h6
    exact .mk 0 0 (fun _ => .nilFunc) h1 h2 h3 h4 h5 (.inl rfl) (fun i x hx => by simp at hx) (fun i x hx => by simp at hx)
  · have h7 : ∀ i : Nat, ∃ u : Value, ∀ x : Ty, kids[i]? = some x → Rep.R M w u x ∧ At M w b (off + i * 4) u.cells.toList := by
      intro i
      cases hi : kids[i]? with
      | none => exact ⟨.nilFunc, fun x hx => by cases hx⟩
      | some y =>
        obtain ⟨u, hu, hA⟩ := h6 i y hi
        exact ⟨u, fun x hx => by cases hx; exact ⟨hu, hA⟩⟩
    obtain ⟨u, hu⟩ := Classical.axiomOfChoice h7
    exact .mk b off u h1 h2 h3 h4 h5 (.inr ha) (fun i x hx => (hu i x hx).1) (fun i x hx => (hu i x hx).2)

/-- A field: its name, its type. -/
structure Fld where
  name : ByteArray
  ty : Ty
instance : Rep Fld where
  sz := 5
  R := fun M w v f => f.name.size < 140737488355328 ∧ ∃ kv, v = .agg #[.string f.name, .int .u8 f.ty.op, .string f.ty.name, .int .i64 f.ty.n, kv] ∧ Rep.R M w (.agg #[.int .u8 f.ty.op, .string f.ty.name, .int .i64 f.ty.n, kv]) f.ty
  pos := by decide
  size := by rintro M w v x ⟨_, kv, rfl, _⟩; rfl
  one := by
    rintro M w v x ⟨_, kv, rfl, h⟩ u hu
    have := Rep.one h
    simp [Value.cells] at hu this
    rcases hu with rfl | rfl | rfl | rfl | rfl
    · rfl
    · rfl
    · rfl
    · rfl
    · exact this.2.2.2
  upd := fun ⟨h0, kv, h1, h2⟩ e => ⟨h0, kv, h1, Rep.upd h2 e⟩
  wk := fun ⟨h0, kv, h1, h2⟩ e => ⟨h0, kv, h1, Rep.wk h2 e⟩

theorem fld_open {M : Nat → Prop} {w : World} {v : Value} {f : Fld} (h : Rep.R M w v f) :
    f.name.size < 140737488355328 ∧ ∃ kv, v = .agg #[.string f.name, .int .u8 f.ty.op, .string f.ty.name, .int .i64 f.ty.n, kv] ∧ Rep.R M w (.agg #[.int .u8 f.ty.op, .string f.ty.name, .int .i64 f.ty.n, kv]) f.ty := h
theorem fld_mk {M : Nat → Prop} {w : World} {kv : Value} {name : ByteArray} {t : Ty} (h0 : name.size < 140737488355328) (h : Rep.R M w (.agg #[.int .u8 t.op, .string t.name, .int .i64 t.n, kv]) t) :
    Rep.R M w (.agg #[.string name, .int .u8 t.op, .string t.name, .int .i64 t.n, kv]) (⟨name, t⟩ : Fld) := ⟨h0, kv, rfl, h⟩
end Rw
