/- Rules for walking a Go function's code by a list of slots and their values: what each operation, call, branch and loop does to that list and to the world. No program in sight. -/
import Derived.WalkKit
import Derived.OrdersHeld
namespace Rw
open Go Go.RowKit

/-! ## Slots and their values -/

abbrev Env := List (Nat × Value)

def Env.get : Env → Nat → Option Value
  | [], _ => none
  | (k, v) :: r, n => bif Nat.beq k n then some v else Env.get r n

theorem Env.get_cons (k : Nat) (v : Value) (r : Env) (n : Nat) : Env.get ((k, v) :: r) n = if k = n then some v else Env.get r n := by
  by_cases h : k = n
  · subst h; simp [Env.get]
  · have : Nat.beq k n = false := by
      cases hb : Nat.beq k n
      · rfl
      · exact absurd (Nat.eq_of_beq_eq_true hb) h
    simp [Env.get, h, this]

def Env.ev (G : Env) : Operand → Option Value
  | .tmp t => Env.get G t
  | .const v => some v
  | .global g => some (.pointer (some ⟨g, 0, none⟩))
  | .func f => some (.func (.func f) #[] #[])

def Env.evs (G : Env) : List Operand → Option (List Value)
  | [] => some []
  | x :: r => match Env.ev G x with
    | some v => match Env.evs G r with
      | some vs => some (v :: vs)
      | none => none
    | none => none

/-- The frame holds what the list says. -/
structure Models (n : Nat) (a : Act) (G : Env) : Prop where
  size : a.tmps.size = n
  defers : a.defers = []
  val : ∀ k v, Env.get G k = some v → a.tmps[k]? = some v

theorem Models.ev {n : Nat} {a : Act} {G : Env} (h : Models n a G) {x : Operand} {v : Value} (hx : Env.ev G x = some v) : a.eval x = v := by
  cases x with
  | tmp t => have := h.val t v hx; simp [Act.eval, Array.getD_eq_getD_getElem?, this]
  | const u => simpa [Env.ev, Act.eval] using hx
  | global g => simpa [Env.ev, Act.eval] using hx
  | func f => simpa [Env.ev, Act.eval] using hx

theorem Models.evs {n : Nat} {a : Act} {G : Env} (h : Models n a G) : ∀ {l : List Operand} {vs : List Value}, Env.evs G l = some vs → l.map a.eval = vs
  | [], vs, hx => by simp [Env.evs] at hx; simp [hx]
  | x :: r, vs, hx => by
    simp only [Env.evs] at hx
    split at hx
    · rename_i v hv
      split at hx
      · rename_i us hus
        simp at hx
        subst hx
        simp [h.ev hv, h.evs hus]
      · cases hx
    · cases hx

theorem Models.put {n : Nat} {a : Act} {G : Env} (h : Models n a G) {d : Nat} (hd : Nat.blt d n = true) (v : Value) : Models n (a.put (some d) v) ((d, v) :: G) := by
  have hd' : d < n := Nat.le_of_ble_eq_true hd
  refine ⟨by simp [Act.put, h.size], by simp [Act.put, h.defers], fun k u hu => ?_⟩
  rw [Env.get_cons] at hu
  by_cases hk : d = k
  · subst hk
    simp at hu
    subst hu
    simp [Act.put, h.size, hd']
  · rw [if_neg hk] at hu
    simp [Act.put, Array.getElem?_setIfInBounds_ne hk, h.val k u hu]

theorem Models.put_none {n : Nat} {a : Act} {G : Env} (h : Models n a G) (v : Value) : Models n (a.put none v) G := h

/-- What one list says follows from what another says. -/
def Sub (G G' : Env) : Prop := ∀ k v, Env.get G' k = some v → Env.get G k = some v
theorem Models.sub {n : Nat} {a : Act} {G G' : Env} (h : Models n a G) (hs : Sub G G') : Models n a G' :=
  ⟨h.size, h.defers, fun k v hv => h.val k v (hs k v hv)⟩

/-- What the list says of a slot may be said once more. -/
theorem Models.write {n : Nat} {a : Act} {G : Env} (h : Models n a G) {t : Nat} {u : Value} (hu : Env.get G t = some u) : Models n a ((t, u) :: G) := by
  refine ⟨h.size, h.defers, fun k v hv => ?_⟩
  rw [Env.get_cons] at hv
  by_cases hk : t = k
  · subst hk; simp at hv; subst hv; exact h.val t _ hu
  · rw [if_neg hk] at hv; exact h.val k v hv

/-- Entry by entry. -/
def SubL (G : Env) : Env → Prop
  | [] => True
  | (k, v) :: r => Env.get G k = some v ∧ SubL G r
theorem Sub.of : ∀ {G' G : Env}, SubL G G' → Sub G G'
  | [], G, _ => fun k v h => by simp [Env.get] at h
  | (j, u) :: r, G, h => fun k v hv => by
    rw [Env.get_cons] at hv
    by_cases hj : j = k
    · subst hj; simp at hv; subst hv; exact h.1
    · rw [if_neg hj] at hv; exact Sub.of h.2 k v hv

theorem subL_nil {G : Env} : SubL G [] := trivial
theorem subL_cons {G r : Env} {k : Nat} {v : Value} (h : Env.get G k = some v) (hr : SubL G r) : SubL G ((k, v) :: r) := ⟨h, hr⟩
theorem s1 {G : Env} {k1 : Nat} {v1 : Value} (h1 : Env.get G k1 = some v1) : SubL G [(k1, v1)] := ⟨h1, trivial⟩
theorem s2 {G : Env} {k1 : Nat} {v1 : Value} {k2 : Nat} {v2 : Value} (h1 : Env.get G k1 = some v1) (h2 : Env.get G k2 = some v2) : SubL G [(k1, v1), (k2, v2)] := ⟨h1, h2, trivial⟩
theorem s3 {G : Env} {k1 : Nat} {v1 : Value} {k2 : Nat} {v2 : Value} {k3 : Nat} {v3 : Value} (h1 : Env.get G k1 = some v1) (h2 : Env.get G k2 = some v2) (h3 : Env.get G k3 = some v3) : SubL G [(k1, v1), (k2, v2), (k3, v3)] := ⟨h1, h2, h3, trivial⟩
theorem s4 {G : Env} {k1 : Nat} {v1 : Value} {k2 : Nat} {v2 : Value} {k3 : Nat} {v3 : Value} {k4 : Nat} {v4 : Value} (h1 : Env.get G k1 = some v1) (h2 : Env.get G k2 = some v2) (h3 : Env.get G k3 = some v3) (h4 : Env.get G k4 = some v4) : SubL G [(k1, v1), (k2, v2), (k3, v3), (k4, v4)] := ⟨h1, h2, h3, h4, trivial⟩
theorem s5 {G : Env} {k1 : Nat} {v1 : Value} {k2 : Nat} {v2 : Value} {k3 : Nat} {v3 : Value} {k4 : Nat} {v4 : Value} {k5 : Nat} {v5 : Value} (h1 : Env.get G k1 = some v1) (h2 : Env.get G k2 = some v2) (h3 : Env.get G k3 = some v3) (h4 : Env.get G k4 = some v4) (h5 : Env.get G k5 = some v5) : SubL G [(k1, v1), (k2, v2), (k3, v3), (k4, v4), (k5, v5)] := ⟨h1, h2, h3, h4, h5, trivial⟩
theorem s6 {G : Env} {k1 : Nat} {v1 : Value} {k2 : Nat} {v2 : Value} {k3 : Nat} {v3 : Value} {k4 : Nat} {v4 : Value} {k5 : Nat} {v5 : Value} {k6 : Nat} {v6 : Value} (h1 : Env.get G k1 = some v1) (h2 : Env.get G k2 = some v2) (h3 : Env.get G k3 = some v3) (h4 : Env.get G k4 = some v4) (h5 : Env.get G k5 = some v5) (h6 : Env.get G k6 = some v6) : SubL G [(k1, v1), (k2, v2), (k3, v3), (k4, v4), (k5, v5), (k6, v6)] := ⟨h1, h2, h3, h4, h5, h6, trivial⟩
theorem s7 {G : Env} {k1 : Nat} {v1 : Value} {k2 : Nat} {v2 : Value} {k3 : Nat} {v3 : Value} {k4 : Nat} {v4 : Value} {k5 : Nat} {v5 : Value} {k6 : Nat} {v6 : Value} {k7 : Nat} {v7 : Value} (h1 : Env.get G k1 = some v1) (h2 : Env.get G k2 = some v2) (h3 : Env.get G k3 = some v3) (h4 : Env.get G k4 = some v4) (h5 : Env.get G k5 = some v5) (h6 : Env.get G k6 = some v6) (h7 : Env.get G k7 = some v7) : SubL G [(k1, v1), (k2, v2), (k3, v3), (k4, v4), (k5, v5), (k6, v6), (k7, v7)] := ⟨h1, h2, h3, h4, h5, h6, h7, trivial⟩
theorem s8 {G : Env} {k1 : Nat} {v1 : Value} {k2 : Nat} {v2 : Value} {k3 : Nat} {v3 : Value} {k4 : Nat} {v4 : Value} {k5 : Nat} {v5 : Value} {k6 : Nat} {v6 : Value} {k7 : Nat} {v7 : Value} {k8 : Nat} {v8 : Value} (h1 : Env.get G k1 = some v1) (h2 : Env.get G k2 = some v2) (h3 : Env.get G k3 = some v3) (h4 : Env.get G k4 = some v4) (h5 : Env.get G k5 = some v5) (h6 : Env.get G k6 = some v6) (h7 : Env.get G k7 = some v7) (h8 : Env.get G k8 = some v8) : SubL G [(k1, v1), (k2, v2), (k3, v3), (k4, v4), (k5, v5), (k6, v6), (k7, v7), (k8, v8)] := ⟨h1, h2, h3, h4, h5, h6, h7, h8, trivial⟩
theorem s9 {G : Env} {k1 : Nat} {v1 : Value} {k2 : Nat} {v2 : Value} {k3 : Nat} {v3 : Value} {k4 : Nat} {v4 : Value} {k5 : Nat} {v5 : Value} {k6 : Nat} {v6 : Value} {k7 : Nat} {v7 : Value} {k8 : Nat} {v8 : Value} {k9 : Nat} {v9 : Value} (h1 : Env.get G k1 = some v1) (h2 : Env.get G k2 = some v2) (h3 : Env.get G k3 = some v3) (h4 : Env.get G k4 = some v4) (h5 : Env.get G k5 = some v5) (h6 : Env.get G k6 = some v6) (h7 : Env.get G k7 = some v7) (h8 : Env.get G k8 = some v8) (h9 : Env.get G k9 = some v9) : SubL G [(k1, v1), (k2, v2), (k3, v3), (k4, v4), (k5, v5), (k6, v6), (k7, v7), (k8, v8), (k9, v9)] := ⟨h1, h2, h3, h4, h5, h6, h7, h8, h9, trivial⟩
theorem s10 {G : Env} {k1 : Nat} {v1 : Value} {k2 : Nat} {v2 : Value} {k3 : Nat} {v3 : Value} {k4 : Nat} {v4 : Value} {k5 : Nat} {v5 : Value} {k6 : Nat} {v6 : Value} {k7 : Nat} {v7 : Value} {k8 : Nat} {v8 : Value} {k9 : Nat} {v9 : Value} {k10 : Nat} {v10 : Value} (h1 : Env.get G k1 = some v1) (h2 : Env.get G k2 = some v2) (h3 : Env.get G k3 = some v3) (h4 : Env.get G k4 = some v4) (h5 : Env.get G k5 = some v5) (h6 : Env.get G k6 = some v6) (h7 : Env.get G k7 = some v7) (h8 : Env.get G k8 = some v8) (h9 : Env.get G k9 = some v9) (h10 : Env.get G k10 = some v10) : SubL G [(k1, v1), (k2, v2), (k3, v3), (k4, v4), (k5, v5), (k6, v6), (k7, v7), (k8, v8), (k9, v9), (k10, v10)] := ⟨h1, h2, h3, h4, h5, h6, h7, h8, h9, h10, trivial⟩
theorem s11 {G : Env} {k1 : Nat} {v1 : Value} {k2 : Nat} {v2 : Value} {k3 : Nat} {v3 : Value} {k4 : Nat} {v4 : Value} {k5 : Nat} {v5 : Value} {k6 : Nat} {v6 : Value} {k7 : Nat} {v7 : Value} {k8 : Nat} {v8 : Value} {k9 : Nat} {v9 : Value} {k10 : Nat} {v10 : Value} {k11 : Nat} {v11 : Value} (h1 : Env.get G k1 = some v1) (h2 : Env.get G k2 = some v2) (h3 : Env.get G k3 = some v3) (h4 : Env.get G k4 = some v4) (h5 : Env.get G k5 = some v5) (h6 : Env.get G k6 = some v6) (h7 : Env.get G k7 = some v7) (h8 : Env.get G k8 = some v8) (h9 : Env.get G k9 = some v9) (h10 : Env.get G k10 = some v10) (h11 : Env.get G k11 = some v11) : SubL G [(k1, v1), (k2, v2), (k3, v3), (k4, v4), (k5, v5), (k6, v6), (k7, v7), (k8, v8), (k9, v9), (k10, v10), (k11, v11)] := ⟨h1, h2, h3, h4, h5, h6, h7, h8, h9, h10, h11, trivial⟩
theorem s12 {G : Env} {k1 : Nat} {v1 : Value} {k2 : Nat} {v2 : Value} {k3 : Nat} {v3 : Value} {k4 : Nat} {v4 : Value} {k5 : Nat} {v5 : Value} {k6 : Nat} {v6 : Value} {k7 : Nat} {v7 : Value} {k8 : Nat} {v8 : Value} {k9 : Nat} {v9 : Value} {k10 : Nat} {v10 : Value} {k11 : Nat} {v11 : Value} {k12 : Nat} {v12 : Value} (h1 : Env.get G k1 = some v1) (h2 : Env.get G k2 = some v2) (h3 : Env.get G k3 = some v3) (h4 : Env.get G k4 = some v4) (h5 : Env.get G k5 = some v5) (h6 : Env.get G k6 = some v6) (h7 : Env.get G k7 = some v7) (h8 : Env.get G k8 = some v8) (h9 : Env.get G k9 = some v9) (h10 : Env.get G k10 = some v10) (h11 : Env.get G k11 = some v11) (h12 : Env.get G k12 = some v12) : SubL G [(k1, v1), (k2, v2), (k3, v3), (k4, v4), (k5, v5), (k6, v6), (k7, v7), (k8, v8), (k9, v9), (k10, v10), (k11, v11), (k12, v12)] := ⟨h1, h2, h3, h4, h5, h6, h7, h8, h9, h10, h11, h12, trivial⟩
theorem s13 {G : Env} {k1 : Nat} {v1 : Value} {k2 : Nat} {v2 : Value} {k3 : Nat} {v3 : Value} {k4 : Nat} {v4 : Value} {k5 : Nat} {v5 : Value} {k6 : Nat} {v6 : Value} {k7 : Nat} {v7 : Value} {k8 : Nat} {v8 : Value} {k9 : Nat} {v9 : Value} {k10 : Nat} {v10 : Value} {k11 : Nat} {v11 : Value} {k12 : Nat} {v12 : Value} {k13 : Nat} {v13 : Value} (h1 : Env.get G k1 = some v1) (h2 : Env.get G k2 = some v2) (h3 : Env.get G k3 = some v3) (h4 : Env.get G k4 = some v4) (h5 : Env.get G k5 = some v5) (h6 : Env.get G k6 = some v6) (h7 : Env.get G k7 = some v7) (h8 : Env.get G k8 = some v8) (h9 : Env.get G k9 = some v9) (h10 : Env.get G k10 = some v10) (h11 : Env.get G k11 = some v11) (h12 : Env.get G k12 = some v12) (h13 : Env.get G k13 = some v13) : SubL G [(k1, v1), (k2, v2), (k3, v3), (k4, v4), (k5, v5), (k6, v6), (k7, v7), (k8, v8), (k9, v9), (k10, v10), (k11, v11), (k12, v12), (k13, v13)] := ⟨h1, h2, h3, h4, h5, h6, h7, h8, h9, h10, h11, h12, h13, trivial⟩
theorem s14 {G : Env} {k1 : Nat} {v1 : Value} {k2 : Nat} {v2 : Value} {k3 : Nat} {v3 : Value} {k4 : Nat} {v4 : Value} {k5 : Nat} {v5 : Value} {k6 : Nat} {v6 : Value} {k7 : Nat} {v7 : Value} {k8 : Nat} {v8 : Value} {k9 : Nat} {v9 : Value} {k10 : Nat} {v10 : Value} {k11 : Nat} {v11 : Value} {k12 : Nat} {v12 : Value} {k13 : Nat} {v13 : Value} {k14 : Nat} {v14 : Value} (h1 : Env.get G k1 = some v1) (h2 : Env.get G k2 = some v2) (h3 : Env.get G k3 = some v3) (h4 : Env.get G k4 = some v4) (h5 : Env.get G k5 = some v5) (h6 : Env.get G k6 = some v6) (h7 : Env.get G k7 = some v7) (h8 : Env.get G k8 = some v8) (h9 : Env.get G k9 = some v9) (h10 : Env.get G k10 = some v10) (h11 : Env.get G k11 = some v11) (h12 : Env.get G k12 = some v12) (h13 : Env.get G k13 = some v13) (h14 : Env.get G k14 = some v14) : SubL G [(k1, v1), (k2, v2), (k3, v3), (k4, v4), (k5, v5), (k6, v6), (k7, v7), (k8, v8), (k9, v9), (k10, v10), (k11, v11), (k12, v12), (k13, v13), (k14, v14)] := ⟨h1, h2, h3, h4, h5, h6, h7, h8, h9, h10, h11, h12, h13, h14, trivial⟩

/-! ## The judgements -/

section
variable (P : Program) (n : Nat)

/-- One operation: whatever frame the list describes, it runs to a frame and a world that K describes. -/
def OW (ops : Array Oper) (Q : Exit → Act → World → Prop) (G : Env) (w : World) (o : Oper) (K : Env → World → Prop) : Prop :=
  ∀ a, Models n a G → ∀ K' : Act → World → Prop, (∀ G' w', K G' w' → ∀ a', Models n a' G' → K' a' w') →
    if Region.wanted o (yielded ops a.tmps) then o.wp P a w K' Q else K' (a.put o.dst undef) w

def WL (ops : Array Oper) (Q : Exit → Act → World → Prop) (G : Env) (w : World) (l : List Oper) : Prop :=
  ∀ a, Models n a G → wpList P ops Q l a w

def WC (Q : Exit → Act → World → Prop) (G : Env) (w : World) (c : Code) : Prop := ∀ a, Models n a G → c.wp P Q a w

def WX (Q : Exit → Act → World → Prop) (G : Env) (w : World) (e : Exit) : Prop := ∀ a, Models n a G → Q e a w
end

section
variable {P : Program} {n : Nat} {ops : Array Oper} {Q : Exit → Act → World → Prop} {G : Env} {w : World} {l : List Oper} {o : Oper}

theorem l_cons (h : OW P n ops Q G w o (fun G' w' => WL P n ops Q G' w' l)) : WL P n ops Q G w (o :: l) := by
  intro a ha
  have := h a ha (wpList P ops Q l) (fun G' w' hk a' ha' => hk a' ha')
  unfold wpList
  split
  · rename_i hw; rw [if_pos hw] at this; exact .inl this
  · rename_i hw; rw [if_neg hw] at this; exact this

theorem l_nil (h : WX n Q G w .normal) : WL P n ops Q G w [] := fun a ha => h a ha

theorem WL.sub {G' : Env} (hs : SubL G G') (h : WL P n ops Q G' w l) : WL P n ops Q G w l := fun a ha => h a (ha.sub (Sub.of hs))
theorem WC.sub {G' : Env} {c : Code} (hs : SubL G G') (h : WC P n Q G' w c) : WC P n Q G w c := fun a ha => h a (ha.sub (Sub.of hs))

/-! ## Code -/

theorem c_reg {id : Nat} (h : WL P n l.toArray Q G w l) : WC P n Q G w (.region id l.toArray false) :=
  fun a ha => wp_region_lit (h a ha)

theorem c_seq {x y : Code} (h : WC P n (Exit.then (y.wp P Q) Q) G w x) : WC P n Q G w (.seq x y) := fun a ha => wp_seq (h a ha)
theorem c_blk {id : Nat} {c : Code} (h : WC P n (Exit.inBlock id Q) G w c) : WC P n Q G w (.block id c) := fun a ha => wp_block (h a ha)
theorem c_skip (h : WX n Q G w .normal) : WC P n Q G w .skip := fun a ha => wp_skip (h a ha)
theorem c_exit {id : Nat} (h : WX n Q G w (.exit id)) : WC P n Q G w (.exit id) := fun a ha => wp_exit (h a ha)
theorem c_ret (h : WX n Q G w .ret) : WC P n Q G w .ret := fun a ha => wp_ret (h a ha)

theorem c_if {c : Operand} {x y : Code} (b : Bool) (hc : Env.ev G c = some (.bool b)) (ht : b = true → WC P n Q G w x) (hf : b = false → WC P n Q G w y) : WC P n Q G w (.cond c x y) :=
  fun a ha => wp_cond_split (ha.ev hc) (fun h => ht h a ha) (fun h => hf h a ha)
theorem c_ifT {c : Operand} {x y : Code} (hc : Env.ev G c = some (.bool true)) (h : WC P n Q G w x) : WC P n Q G w (.cond c x y) :=
  fun a ha => wp_cond_true (ha.ev hc) (h a ha)
theorem c_ifF {c : Operand} {x y : Code} (hc : Env.ev G c = some (.bool false)) (h : WC P n Q G w y) : WC P n Q G w (.cond c x y) :=
  fun a ha => wp_cond_false (ha.ev hc) (h a ha)
/-- A test decided by a proposition. -/
theorem c_ifP {c : Operand} {x y : Code} (p : Prop) [Decidable p] (hc : Env.ev G c = some (.bool (decide p))) (ht : p → WC P n Q G w x) (hf : ¬ p → WC P n Q G w y) : WC P n Q G w (.cond c x y) :=
  c_if _ hc (fun h => ht (of_decide_eq_true h)) (fun h => hf (of_decide_eq_false h))
theorem c_ifPT {c : Operand} {x y : Code} (p : Prop) [Decidable p] (hc : Env.ev G c = some (.bool (decide p))) (hp : p) (h : WC P n Q G w x) : WC P n Q G w (.cond c x y) :=
  c_ifP p hc (fun _ => h) (fun h' => absurd hp h')
theorem c_ifPF {c : Operand} {x y : Code} (p : Prop) [Decidable p] (hc : Env.ev G c = some (.bool (decide p))) (hp : ¬ p) (h : WC P n Q G w y) : WC P n Q G w (.cond c x y) :=
  c_ifP p hc (fun h' => absurd h' hp) (fun _ => h)

theorem c_ifN {c : Operand} {x y : Code} (p : Prop) [Decidable p] (hc : Env.ev G c = some (.bool (!decide p))) (ht : ¬ p → WC P n Q G w x) (hf : p → WC P n Q G w y) : WC P n Q G w (.cond c x y) :=
  c_if _ hc (fun h => ht (by simpa using h)) (fun h => hf (by simpa using h))
theorem c_ifB {c : Operand} {x y : Code} (b : Bool) (hc : Env.ev G c = some (.bool (!b))) (ht : b = false → WC P n Q G w x) (hf : b = true → WC P n Q G w y) : WC P n Q G w (.cond c x y) :=
  c_if _ hc (fun h => ht (by simpa using h)) (fun h => hf (by simpa using h))

/-- Split on a slot's truth, and write it into the list. -/
theorem l_split (t : Nat) (b : Bool) (hc : Env.get G t = some (.bool b)) (ht : b = true → WL P n ops Q ((t, .bool true) :: G) w l) (hf : b = false → WL P n ops Q ((t, .bool false) :: G) w l) : WL P n ops Q G w l := by
  intro a ha
  have hm : ∀ b', b = b' → Models n a ((t, .bool b') :: G) := by
    intro b' hb
    subst hb
    refine ⟨ha.size, ha.defers, fun k v hv => ?_⟩
    rw [Env.get_cons] at hv
    by_cases hk : t = k
    · subst hk; simp at hv; subst hv; exact ha.val t _ hc
    · rw [if_neg hk] at hv; exact ha.val k v hv
  cases hb : b with
  | true => exact ht hb a (hm _ hb)
  | false => exact hf hb a (hm _ hb)
theorem l_splitP (t : Nat) (p : Prop) [Decidable p] (hc : Env.get G t = some (.bool (decide p))) (ht : p → WL P n ops Q ((t, .bool true) :: G) w l) (hf : ¬ p → WL P n ops Q ((t, .bool false) :: G) w l) : WL P n ops Q G w l :=
  l_split t _ hc (fun h => ht (of_decide_eq_true h)) (fun h => hf (of_decide_eq_false h))

theorem l_splitN (t : Nat) (p : Prop) [Decidable p] (hc : Env.get G t = some (.bool (!decide p))) (ht : ¬ p → WL P n ops Q ((t, .bool true) :: G) w l) (hf : p → WL P n ops Q ((t, .bool false) :: G) w l) : WL P n ops Q G w l :=
  l_split t _ hc (fun h => ht (by simpa using h)) (fun h => hf (by simpa using h))
theorem l_splitB (t : Nat) (b : Bool) (hc : Env.get G t = some (.bool (!b))) (ht : b = false → WL P n ops Q ((t, .bool true) :: G) w l) (hf : b = true → WL P n ops Q ((t, .bool false) :: G) w l) : WL P n ops Q G w l :=
  l_split t _ hc (fun h => ht (by simpa using h)) (fun h => hf (by simpa using h))

theorem q0 {id : Nat} {y : Code} (h : WL P n l.toArray (Exit.then (y.wp P Q) Q) G w l) : WC P n Q G w (.seq (.region id l.toArray false) y) := c_seq (c_reg h)
theorem q1 {y : Code} (h : WC P n Q G w y) : WL P n ops (Exit.then (y.wp P Q) Q) G w [] := l_nil h
theorem q2 {id : Nat} (h : WX n Q G w .normal) : WL P n ops (Exit.inBlock id Q) G w [] := l_nil h

/-! ## Ways out -/

theorem x_seq {y : Code} (h : WC P n Q G w y) : WX n (Exit.then (y.wp P Q) Q) G w .normal := h
theorem x_seqE {K : Act → World → Prop} {i : Nat} (h : WX n Q G w (.exit i)) : WX n (Exit.then K Q) G w (.exit i) := h
theorem x_seqR {K : Act → World → Prop} (h : WX n Q G w .ret) : WX n (Exit.then K Q) G w .ret := h
theorem x_blk {id : Nat} (h : WX n Q G w .normal) : WX n (Exit.inBlock id Q) G w .normal := h
theorem x_blkE {id : Nat} (h : WX n Q G w .normal) : WX n (Exit.inBlock id Q) G w (.exit id) := fun a ha => by simpa [Exit.inBlock] using h a ha
theorem x_blkO {id i : Nat} (hi : Nat.beq i id = false) (h : WX n Q G w (.exit i)) : WX n (Exit.inBlock id Q) G w (.exit i) := fun a ha => by
  have hne : i ≠ id := fun e => by subst e; simp at hi
  simpa [Exit.inBlock, hne] using h a ha
theorem x_blkR {id : Nat} (h : WX n Q G w .ret) : WX n (Exit.inBlock id Q) G w .ret := h
theorem x_is {K : Act → World → Prop} (h : ∀ a, Models n a G → K a w) : WX n (Exit.then K Q) G w .normal := h

/-! ## A loop -/

/-- What holds at each round's head: for some x, the list G x and the relation R x; a measure falls. -/
theorem c_loop {c : Code} {X : Type} (E : X → Env) (R : X → World → Prop) (mu : X → Nat) (x0 : X) (h0 : SubL G (E x0)) (hR : R x0 w)
    (round : ∀ x w, R x w → WC P n (Exit.then (fun a' w' => ∃ x', Models n a' (E x') ∧ R x' w' ∧ mu x' < mu x) Q) (E x) w c) : WC P n Q G w (.loop c) := by
  intro a ha b k cs
  have key : ∀ m x, mu x = m → ∀ a w, Models n a (E x) → R x w →
      ∃ e a' w', Q e a' w' ∧ Arrives P (lone (b.at a (.code c :: .inLoop c :: k)) cs w) b k cs e a' w' := by
    intro m
    induction m using Nat.strongRecOn with
    | _ m ih =>
      intro x hx a w hm hr
      obtain ⟨e, a₁, w₁, hq, harr⟩ := round x w hr a hm b (.inLoop c :: k) cs
      cases e with
      | normal =>
        obtain ⟨x', hm', hr', hlt⟩ := hq
        obtain ⟨e₂, a₂, w₂, hq₂, harr₂⟩ := ih (mu x') (hx ▸ hlt) x' rfl a₁ w₁ hm' hr'
        exact ⟨e₂, a₂, w₂, hq₂, .of_steps (Steps.trans harr (.one step_inLoop)) harr₂⟩
      | exit id => exact ⟨_, a₁, w₁, hq, .pass (x := .inLoop c) rfl (fun _ _ => .inl (by simp)) harr⟩
      | goto l => exact ⟨_, a₁, w₁, hq, .pass (x := .inLoop c) rfl (fun _ _ => .inl (by simp)) harr⟩
      | ret => exact ⟨_, a₁, w₁, hq, .pass (x := .inLoop c) rfl (fun _ _ => .inl (by simp)) harr⟩
      | panic ch => exact ⟨_, a₁, w₁, hq, .pass (x := .inLoop c) rfl (fun _ _ => .inl (by simp)) harr⟩
      | outgrown => exact ⟨_, a₁, w₁, hq, .pass (x := .inLoop c) rfl (fun _ _ => .inl (by simp)) harr⟩
  obtain ⟨e, a', w', hq, harr⟩ := key _ x0 rfl a w (ha.sub (Sub.of h0)) hR
  exact ⟨e, a', w', hq, .of_steps (.one step_loop) harr⟩

/-- The round's end. -/
theorem x_round {X : Type} {E : X → Env} {R : X → World → Prop} {m : X → Nat} {b : Nat} (x' : X) (hs : SubL G (E x')) (hR : R x' w) (hm : m x' < b) :
    WX n (Exit.then (fun a' w' => ∃ x', Models n a' (E x') ∧ R x' w' ∧ m x' < b) Q) G w .normal :=
  fun _ ha => ⟨x', ha.sub (Sub.of hs), hR, hm⟩

/-- Ways that meet again: what holds behind a piece of code, for some x. -/
theorem c_cut {x y : Code} {X : Type} (E : X → Env) (R : X → World → Prop)
    (h1 : WC P n (Exit.then (fun a' w' => ∃ x', Models n a' (E x') ∧ R x' w') Q) G w x) (h2 : ∀ x' w', R x' w' → WC P n Q (E x') w' y) : WC P n Q G w (.seq x y) :=
  fun a ha => wp_seq (wp_mono (h1 a ha) (fun e a' w' hq => by
    cases e <;> first | exact hq | (obtain ⟨x', hm, hr⟩ := hq; exact h2 x' w' hr a' hm)))
theorem x_cut {X : Type} {E : X → Env} {R : X → World → Prop} (x' : X) (hs : SubL G (E x')) (hR : R x' w) :
    WX n (Exit.then (fun a' w' => ∃ x', Models n a' (E x') ∧ R x' w') Q) G w .normal :=
  fun _ ha => ⟨x', ha.sub (Sub.of hs), hR⟩


theorem c_loop2 {c : Code} {X Y : Type} (E : X → Y → Env) (R : X → Y → World → Prop) (mu : X → Y → Nat) (x0 : X) (y0 : Y) (h0 : SubL G (E x0 y0)) (hR : R x0 y0 w)
    (round : ∀ x y w, R x y w → WC P n (Exit.then (fun a' w' => ∃ x' y', Models n a' (E x' y') ∧ R x' y' w' ∧ mu x' y' < mu x y) Q) (E x y) w c) : WC P n Q G w (.loop c) :=
  c_loop (X := X × Y) (fun q => E q.1 q.2) (fun q => R q.1 q.2) (fun q => mu q.1 q.2) (x0, y0) h0 hR
    (fun q w hr a ha => wp_mono (round q.1 q.2 w hr a ha) (fun e a' w' h => by
      cases e <;> first | exact h | (obtain ⟨x', y', h1, h2, h3⟩ := h; exact ⟨(x', y'), h1, h2, h3⟩)))
theorem x_round2 {X Y : Type} {E : X → Y → Env} {R : X → Y → World → Prop} {m : X → Y → Nat} {b : Nat} (x' : X) (y' : Y) (hs : SubL G (E x' y')) (hR : R x' y' w) (hm : m x' y' < b) :
    WX n (Exit.then (fun a' w' => ∃ x' y', Models n a' (E x' y') ∧ R x' y' w' ∧ m x' y' < b) Q) G w .normal :=
  fun _ ha => ⟨x', y', ha.sub (Sub.of hs), hR, hm⟩
theorem c_cut2 {c d : Code} {X Y : Type} (E : X → Y → Env) (R : X → Y → World → Prop)
    (h1 : WC P n (Exit.then (fun a' w' => ∃ x' y', Models n a' (E x' y') ∧ R x' y' w') Q) G w c) (h2 : ∀ x y w', R x y w' → WC P n Q (E x y) w' d) : WC P n Q G w (.seq c d) :=
  fun a ha => wp_seq (wp_mono (h1 a ha) (fun e a' w' hq => by
    cases e <;> first | exact hq | (obtain ⟨x', y', hm, hr⟩ := hq; exact h2 x' y' w' hr a' hm)))
theorem x_cut2 {X Y : Type} {E : X → Y → Env} {R : X → Y → World → Prop} (x' : X) (y' : Y) (hs : SubL G (E x' y')) (hR : R x' y' w) :
    WX n (Exit.then (fun a' w' => ∃ x' y', Models n a' (E x' y') ∧ R x' y' w') Q) G w .normal :=
  fun _ ha => ⟨x', y', ha.sub (Sub.of hs), hR⟩

theorem c_loop3 {c : Code} {X Y Z : Type} (E : X → Y → Z → Env) (R : X → Y → Z → World → Prop) (mu : X → Y → Z → Nat) (x0 : X) (y0 : Y) (z0 : Z) (h0 : SubL G (E x0 y0 z0)) (hR : R x0 y0 z0 w)
    (round : ∀ x y z w, R x y z w → WC P n (Exit.then (fun a' w' => ∃ x' y' z', Models n a' (E x' y' z') ∧ R x' y' z' w' ∧ mu x' y' z' < mu x y z) Q) (E x y z) w c) : WC P n Q G w (.loop c) :=
  c_loop (X := X × Y × Z) (fun q => E q.1 q.2.1 q.2.2) (fun q => R q.1 q.2.1 q.2.2) (fun q => mu q.1 q.2.1 q.2.2) (x0, y0, z0) h0 hR
    (fun q w hr a ha => wp_mono (round q.1 q.2.1 q.2.2 w hr a ha) (fun e a' w' h => by
      cases e <;> first | exact h | (obtain ⟨x', y', z', h1, h2, h3⟩ := h; exact ⟨(x', y', z'), h1, h2, h3⟩)))
theorem x_round3 {X Y Z : Type} {E : X → Y → Z → Env} {R : X → Y → Z → World → Prop} {m : X → Y → Z → Nat} {b : Nat} (x' : X) (y' : Y) (z' : Z) (hs : SubL G (E x' y' z')) (hR : R x' y' z' w) (hm : m x' y' z' < b) :
    WX n (Exit.then (fun a' w' => ∃ x' y' z', Models n a' (E x' y' z') ∧ R x' y' z' w' ∧ m x' y' z' < b) Q) G w .normal :=
  fun _ ha => ⟨x', y', z', ha.sub (Sub.of hs), hR, hm⟩
theorem c_cut3 {c d : Code} {X Y Z : Type} (E : X → Y → Z → Env) (R : X → Y → Z → World → Prop)
    (h1 : WC P n (Exit.then (fun a' w' => ∃ x' y' z', Models n a' (E x' y' z') ∧ R x' y' z' w') Q) G w c) (h2 : ∀ x y z w', R x y z w' → WC P n Q (E x y z) w' d) : WC P n Q G w (.seq c d) :=
  fun a ha => wp_seq (wp_mono (h1 a ha) (fun e a' w' hq => by
    cases e <;> first | exact hq | (obtain ⟨x', y', z', hm, hr⟩ := hq; exact h2 x' y' z' w' hr a' hm)))
theorem x_cut3 {X Y Z : Type} {E : X → Y → Z → Env} {R : X → Y → Z → World → Prop} (x' : X) (y' : Y) (z' : Z) (hs : SubL G (E x' y' z')) (hR : R x' y' z' w) :
    WX n (Exit.then (fun a' w' => ∃ x' y' z', Models n a' (E x' y' z') ∧ R x' y' z' w') Q) G w .normal :=
  fun _ ha => ⟨x', y', z', ha.sub (Sub.of hs), hR⟩

theorem c_loop4 {c : Code} {X Y Z U : Type} (E : X → Y → Z → U → Env) (R : X → Y → Z → U → World → Prop) (mu : X → Y → Z → U → Nat) (x0 : X) (y0 : Y) (z0 : Z) (u0 : U) (h0 : SubL G (E x0 y0 z0 u0)) (hR : R x0 y0 z0 u0 w)
    (round : ∀ x y z u w, R x y z u w → WC P n (Exit.then (fun a' w' => ∃ x' y' z' u', Models n a' (E x' y' z' u') ∧ R x' y' z' u' w' ∧ mu x' y' z' u' < mu x y z u) Q) (E x y z u) w c) : WC P n Q G w (.loop c) :=
  c_loop (X := X × Y × Z × U) (fun q => E q.1 q.2.1 q.2.2.1 q.2.2.2) (fun q => R q.1 q.2.1 q.2.2.1 q.2.2.2) (fun q => mu q.1 q.2.1 q.2.2.1 q.2.2.2) (x0, y0, z0, u0) h0 hR
    (fun q w hr a ha => wp_mono (round q.1 q.2.1 q.2.2.1 q.2.2.2 w hr a ha) (fun e a' w' h => by
      cases e <;> first | exact h | (obtain ⟨x', y', z', u', h1, h2, h3⟩ := h; exact ⟨(x', y', z', u'), h1, h2, h3⟩)))
theorem x_round4 {X Y Z U : Type} {E : X → Y → Z → U → Env} {R : X → Y → Z → U → World → Prop} {m : X → Y → Z → U → Nat} {b : Nat} (x' : X) (y' : Y) (z' : Z) (u' : U) (hs : SubL G (E x' y' z' u')) (hR : R x' y' z' u' w) (hm : m x' y' z' u' < b) :
    WX n (Exit.then (fun a' w' => ∃ x' y' z' u', Models n a' (E x' y' z' u') ∧ R x' y' z' u' w' ∧ m x' y' z' u' < b) Q) G w .normal :=
  fun _ ha => ⟨x', y', z', u', ha.sub (Sub.of hs), hR, hm⟩
theorem c_cut4 {c d : Code} {X Y Z U : Type} (E : X → Y → Z → U → Env) (R : X → Y → Z → U → World → Prop)
    (h1 : WC P n (Exit.then (fun a' w' => ∃ x' y' z' u', Models n a' (E x' y' z' u') ∧ R x' y' z' u' w') Q) G w c) (h2 : ∀ x y z u w', R x y z u w' → WC P n Q (E x y z u) w' d) : WC P n Q G w (.seq c d) :=
  fun a ha => wp_seq (wp_mono (h1 a ha) (fun e a' w' hq => by
    cases e <;> first | exact hq | (obtain ⟨x', y', z', u', hm, hr⟩ := hq; exact h2 x' y' z' u' w' hr a' hm)))
theorem x_cut4 {X Y Z U : Type} {E : X → Y → Z → U → Env} {R : X → Y → Z → U → World → Prop} (x' : X) (y' : Y) (z' : Z) (u' : U) (hs : SubL G (E x' y' z' u')) (hR : R x' y' z' u' w) :
    WX n (Exit.then (fun a' w' => ∃ x' y' z' u', Models n a' (E x' y' z' u') ∧ R x' y' z' u' w') Q) G w .normal :=
  fun _ ha => ⟨x', y', z', u', ha.sub (Sub.of hs), hR⟩

theorem c_loop5 {c : Code} {X Y Z U V : Type} (E : X → Y → Z → U → V → Env) (R : X → Y → Z → U → V → World → Prop) (mu : X → Y → Z → U → V → Nat) (x0 : X) (y0 : Y) (z0 : Z) (u0 : U) (v0 : V) (h0 : SubL G (E x0 y0 z0 u0 v0)) (hR : R x0 y0 z0 u0 v0 w)
    (round : ∀ x y z u v w, R x y z u v w → WC P n (Exit.then (fun a' w' => ∃ x' y' z' u' v', Models n a' (E x' y' z' u' v') ∧ R x' y' z' u' v' w' ∧ mu x' y' z' u' v' < mu x y z u v) Q) (E x y z u v) w c) : WC P n Q G w (.loop c) :=
  c_loop (X := X × Y × Z × U × V) (fun q => E q.1 q.2.1 q.2.2.1 q.2.2.2.1 q.2.2.2.2) (fun q => R q.1 q.2.1 q.2.2.1 q.2.2.2.1 q.2.2.2.2) (fun q => mu q.1 q.2.1 q.2.2.1 q.2.2.2.1 q.2.2.2.2) (x0, y0, z0, u0, v0) h0 hR
    (fun q w hr a ha => wp_mono (round q.1 q.2.1 q.2.2.1 q.2.2.2.1 q.2.2.2.2 w hr a ha) (fun e a' w' h => by
      cases e <;> first | exact h | (obtain ⟨x', y', z', u', v', h1, h2, h3⟩ := h; exact ⟨(x', y', z', u', v'), h1, h2, h3⟩)))
theorem x_round5 {X Y Z U V : Type} {E : X → Y → Z → U → V → Env} {R : X → Y → Z → U → V → World → Prop} {m : X → Y → Z → U → V → Nat} {b : Nat} (x' : X) (y' : Y) (z' : Z) (u' : U) (v' : V) (hs : SubL G (E x' y' z' u' v')) (hR : R x' y' z' u' v' w) (hm : m x' y' z' u' v' < b) :
    WX n (Exit.then (fun a' w' => ∃ x' y' z' u' v', Models n a' (E x' y' z' u' v') ∧ R x' y' z' u' v' w' ∧ m x' y' z' u' v' < b) Q) G w .normal :=
  fun _ ha => ⟨x', y', z', u', v', ha.sub (Sub.of hs), hR, hm⟩
theorem c_cut5 {c d : Code} {X Y Z U V : Type} (E : X → Y → Z → U → V → Env) (R : X → Y → Z → U → V → World → Prop)
    (h1 : WC P n (Exit.then (fun a' w' => ∃ x' y' z' u' v', Models n a' (E x' y' z' u' v') ∧ R x' y' z' u' v' w') Q) G w c) (h2 : ∀ x y z u v w', R x y z u v w' → WC P n Q (E x y z u v) w' d) : WC P n Q G w (.seq c d) :=
  fun a ha => wp_seq (wp_mono (h1 a ha) (fun e a' w' hq => by
    cases e <;> first | exact hq | (obtain ⟨x', y', z', u', v', hm, hr⟩ := hq; exact h2 x' y' z' u' v' w' hr a' hm)))
theorem x_cut5 {X Y Z U V : Type} {E : X → Y → Z → U → V → Env} {R : X → Y → Z → U → V → World → Prop} (x' : X) (y' : Y) (z' : Z) (u' : U) (v' : V) (hs : SubL G (E x' y' z' u' v')) (hR : R x' y' z' u' v' w) :
    WX n (Exit.then (fun a' w' => ∃ x' y' z' u' v', Models n a' (E x' y' z' u' v') ∧ R x' y' z' u' v' w') Q) G w .normal :=
  fun _ ha => ⟨x', y', z', u', v', ha.sub (Sub.of hs), hR⟩

theorem c_loop6 {c : Code} {X Y Z U V T : Type} (E : X → Y → Z → U → V → T → Env) (R : X → Y → Z → U → V → T → World → Prop) (mu : X → Y → Z → U → V → T → Nat) (x0 : X) (y0 : Y) (z0 : Z) (u0 : U) (v0 : V) (t0 : T) (h0 : SubL G (E x0 y0 z0 u0 v0 t0)) (hR : R x0 y0 z0 u0 v0 t0 w)
    (round : ∀ x y z u v t w, R x y z u v t w → WC P n (Exit.then (fun a' w' => ∃ x' y' z' u' v' t', Models n a' (E x' y' z' u' v' t') ∧ R x' y' z' u' v' t' w' ∧ mu x' y' z' u' v' t' < mu x y z u v t) Q) (E x y z u v t) w c) : WC P n Q G w (.loop c) :=
  c_loop (X := X × Y × Z × U × V × T) (fun q => E q.1 q.2.1 q.2.2.1 q.2.2.2.1 q.2.2.2.2.1 q.2.2.2.2.2) (fun q => R q.1 q.2.1 q.2.2.1 q.2.2.2.1 q.2.2.2.2.1 q.2.2.2.2.2) (fun q => mu q.1 q.2.1 q.2.2.1 q.2.2.2.1 q.2.2.2.2.1 q.2.2.2.2.2) (x0, y0, z0, u0, v0, t0) h0 hR
    (fun q w hr a ha => wp_mono (round q.1 q.2.1 q.2.2.1 q.2.2.2.1 q.2.2.2.2.1 q.2.2.2.2.2 w hr a ha) (fun e a' w' h => by
      cases e <;> first | exact h | (obtain ⟨x', y', z', u', v', t', h1, h2, h3⟩ := h; exact ⟨(x', y', z', u', v', t'), h1, h2, h3⟩)))
theorem x_round6 {X Y Z U V T : Type} {E : X → Y → Z → U → V → T → Env} {R : X → Y → Z → U → V → T → World → Prop} {m : X → Y → Z → U → V → T → Nat} {b : Nat} (x' : X) (y' : Y) (z' : Z) (u' : U) (v' : V) (t' : T) (hs : SubL G (E x' y' z' u' v' t')) (hR : R x' y' z' u' v' t' w) (hm : m x' y' z' u' v' t' < b) :
    WX n (Exit.then (fun a' w' => ∃ x' y' z' u' v' t', Models n a' (E x' y' z' u' v' t') ∧ R x' y' z' u' v' t' w' ∧ m x' y' z' u' v' t' < b) Q) G w .normal :=
  fun _ ha => ⟨x', y', z', u', v', t', ha.sub (Sub.of hs), hR, hm⟩
theorem c_cut6 {c d : Code} {X Y Z U V T : Type} (E : X → Y → Z → U → V → T → Env) (R : X → Y → Z → U → V → T → World → Prop)
    (h1 : WC P n (Exit.then (fun a' w' => ∃ x' y' z' u' v' t', Models n a' (E x' y' z' u' v' t') ∧ R x' y' z' u' v' t' w') Q) G w c) (h2 : ∀ x y z u v t w', R x y z u v t w' → WC P n Q (E x y z u v t) w' d) : WC P n Q G w (.seq c d) :=
  fun a ha => wp_seq (wp_mono (h1 a ha) (fun e a' w' hq => by
    cases e <;> first | exact hq | (obtain ⟨x', y', z', u', v', t', hm, hr⟩ := hq; exact h2 x' y' z' u' v' t' w' hr a' hm)))
theorem x_cut6 {X Y Z U V T : Type} {E : X → Y → Z → U → V → T → Env} {R : X → Y → Z → U → V → T → World → Prop} (x' : X) (y' : Y) (z' : Z) (u' : U) (v' : V) (t' : T) (hs : SubL G (E x' y' z' u' v' t')) (hR : R x' y' z' u' v' t' w) :
    WX n (Exit.then (fun a' w' => ∃ x' y' z' u' v' t', Models n a' (E x' y' z' u' v' t') ∧ R x' y' z' u' v' t' w') Q) G w .normal :=
  fun _ ha => ⟨x', y', z', u', v', t', ha.sub (Sub.of hs), hR⟩

/-! ## A call's beginning and end -/

/-- It returns a value v, and v and the world behind are such. -/
def Ret (R : Value → World → Prop) : Ending → World → Prop
  | .returned v, w => R v w
  | _, _ => False

theorem Ret.mono {R R' : Value → World → Prop} (h : ∀ v w, R v w → R' v w) : ∀ e w, Ret R e w → Ret R' e w := fun e w hr => by
  cases e <;> first | exact h _ _ hr | exact hr.elim

def argEnv : Nat → List Value → Env
  | _, [] => []
  | k, v :: r => (k, v) :: argEnv (k + 1) r

theorem argEnv_get : ∀ (l : List Value) (j k : Nat) (v : Value), Env.get (argEnv j l) k = some v → j ≤ k ∧ l[k - j]? = some v
  | [], j, k, v, h => by simp [argEnv, Env.get] at h
  | u :: r, j, k, v, h => by
    rw [argEnv, Env.get_cons] at h
    by_cases hj : j = k
    · subst hj; simp at h; simp [h]
    · rw [if_neg hj] at h
      obtain ⟨h1, h2⟩ := argEnv_get r (j + 1) k v h
      refine ⟨by omega, ?_⟩
      rw [show k - j = (k - (j + 1)) + 1 by omega]
      simpa using h2

theorem c_enter {f : FuncId} {fn : Func} {c : Code} {args : Array Value} {R : Value → World → Prop} (hf : P.funcs[f]? = some fn) (hb : fn.body = some c) (hn : fn.ntmps = n) (hs : Nat.ble args.size n = true)
    (h : WC P n (bodyPost P fn (Ret R)) (argEnv 0 args.toList) w c) : Calls P f args w (Ret R) := by
  refine calls_of_wp hf hb (h _ ⟨?_, rfl, fun k v hv => ?_⟩)
  · have hs' : args.size ≤ n := by simpa using hs
    simp [hn]; omega
  · obtain ⟨_, h2⟩ := argEnv_get _ _ _ _ hv
    simp only [Nat.sub_zero, Array.getElem?_toList] at h2
    have hlt : k < args.size := (Array.getElem?_eq_some_iff.1 h2).1
    rw [Array.getElem?_append_left hlt]
    exact h2

theorem x_ret1 {fn : Func} {R : Value → World → Prop} {t : Nat} {v : Value} (hr : fn.results = #[.tmp t]) (hv : Env.get G t = some v) (h : R v w) : WX n (bodyPost P fn (Ret R)) G w .ret :=
  fun a ha => ⟨ha.defers, v, by simp [results, hr, Array.getD_eq_getD_getElem?, ha.val t v hv], h⟩
theorem x_ret0 {fn : Func} {R : Value → World → Prop} (hr : fn.results = #[]) (h : R (.tuple #[]) w) : WX n (bodyPost P fn (Ret R)) G w .ret :=
  fun a ha => ⟨ha.defers, _, by simp [results, hr], h⟩
theorem x_ret0n {fn : Func} {R : Value → World → Prop} (hr : fn.results = #[]) (h : R (.tuple #[]) w) : WX n (bodyPost P fn (Ret R)) G w .normal :=
  fun a ha => ⟨ha.defers, _, by simp [results, hr], h⟩
theorem x_ret2 {fn : Func} {R : Value → World → Prop} {t u : Nat} {v x : Value} (hr : fn.results = #[.tmp t, .tmp u]) (hv : Env.get G t = some v) (hx : Env.get G u = some x) (h : R (.tuple #[v, x]) w) : WX n (bodyPost P fn (Ret R)) G w .ret :=
  fun a ha => ⟨ha.defers, _, by simp [results, hr, Array.getD_eq_getD_getElem?, ha.val t v hv, ha.val u x hx], h⟩

/-- A function that has a body and is entered by a call. -/
structure FnOk (P : Program) (f : FuncId) : Prop where
  ok : ∃ fn c, P.funcs[f]? = some fn ∧ fn.name ≠ "runtime.NumGoroutine" ∧ fn.body = some c

theorem run_callFunc_ok {f : FuncId} (h : FnOk P f) (args : Array Value) (w : World) : (callFunc f args).run P w = .ok (.enter f args) w := by
  obtain ⟨fn, c, h1, h2, h3⟩ := h.ok
  simp [callFunc, h1, h2, h3]

end
end Rw
